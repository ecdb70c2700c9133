/- Walks: rows and columns in new memory. -/
import Derived.Test.YtfmjeggomphliaaGreatDoorSrtB
import Derived.Test.YtfmjeggomphliaaGreatDoorBase
import Derived.Deep.AppendLies
set_option linter.unusedVariables false
set_option linter.unusedSimpArgs false
namespace Go.Proofs.YtfmjeggomphliaaGreatDoor.Tb
open Go.RowKit Go Go.Sort Ba Va Sr

theorem flat3 (r : List Val) : (r.map vc).flatten.length = r.length * 3 := by
  induction r with
  | nil => rfl
  | cons x r ih => rw [List.map_cons, List.flatten_cons, List.length_append, ih, List.length_cons]; show 3 + _ = _; omega
theorem flat2 (r : List Col) : (r.map cc).flatten.length = r.length * 2 := by
  induction r with
  | nil => rfl
  | cons x r ih => rw [List.map_cons, List.flatten_cons, List.length_append, ih, List.length_cons]; show 2 + _ = _; omega
theorem vc3 (r : List Val) : ∀ x ∈ r.map vc, x.length = 3 := fun x hx => by
  obtain ⟨y, _, rfl⟩ := List.mem_map.1 hx; rfl
theorem cc2 (r : List Col) : ∀ x ∈ r.map cc, x.length = 2 := fun x hx => by
  obtain ⟨y, _, rfl⟩ := List.mem_map.1 hx; rfl
/-- A place in a row, by element and cell. -/
theorem flat_get {sz : Nat} (hz : 0 < sz) (xs : List (List Value)) (hs : ∀ x ∈ xs, x.length = sz) (j : Nat) (u : Value) (h : xs.flatten[j]? = some u) : ∃ x, xs[j / sz]? = some x ∧ x[j % sz]? = some u ∧ j % sz < sz := by
  have hl : xs.flatten.length = xs.length * sz := by
    clear h
    induction xs with
    | nil => simp
    | cons x xs ih => rw [List.flatten_cons, List.length_append, ih (fun y hy => hs y (by simp [hy])), hs x (by simp), List.length_cons, Nat.succ_mul]; omega
  have hj : j < xs.length * sz := by rw [← hl]; exact (List.getElem?_eq_some_iff.1 h).1
  have hd : j / sz < xs.length := (Nat.div_lt_iff_lt_mul hz).2 hj
  have hm := Nat.mod_lt j hz
  refine ⟨xs[j / sz], List.getElem?_eq_getElem hd, ?_, hm⟩
  rw [← flat_at xs hs (j / sz) xs[j / sz] (List.getElem?_eq_getElem hd) (j % sz) hm]
  rw [show j / sz * sz + j % sz = j by rw [Nat.mul_comm]; exact Nat.div_add_mod j sz]
  exact h
theorem infoVal : (Tryz.prog.info? 47).map (fun i => (i.zero, i.size, i.bytes)) = some (some (.agg #[.int .i64 0, .int .i64 0, .string ⟨#[]⟩]), 3, 32) := by kernel_rfl
theorem infoCol : (Tryz.prog.info? 45).map (fun i => (i.zero, i.size, i.bytes)) = some (some (.agg #[.string ⟨#[]⟩, .int .i64 0]), 2, 24) := by kernel_rfl
theorem infoRow : (Tryz.prog.info? 49).map (fun i => (i.zero, i.size, i.bytes)) = some (some (.slice none 0 0), 1, 24) := by kernel_rfl
/-- A row of the call's own. -/
def OwnR (W : World) (base : Nat) (v : Value) (r : List Val) : Prop := W.ownsRow base 47 3 v r.length (r.map vc).flatten
theorem OwnR.at {W : World} {base : Nat} {v : Value} {r : List Val} (h : OwnR W base v r) : RowAt W v r :=
  SlAt.of (vc3 r) (by rw [List.length_map]; exact h)
/-- A new row with the elements of another one. -/
def Cloned (w : World) (r : List Val) (e : Ending) (w' : World) : Prop := ∃ v', e = .returned v' ∧ OwnR w' w.heap.size v' r ∧ Below w.heap.size w w'
set_option maxHeartbeats 1600000 in
theorem cloneR_is (v : Value) (r : List Val) (w : World) (hl : r.length ≤ 100000) (hv : RowAt w v r) :
    Calls Tryz.prog 96 #[v] w (Cloned w r) := by
  obtain ⟨ao, cap, rfl, hcap, _⟩ := hv.len
  have q22 : ∀ (w : World) (a : Option Addr) (n c n' c' : Nat), (binOp .eql 49 (.slice a n c) (.slice none n' c')).run Tryz.prog w = .ok (.bool a.isNone) w := fun w a n c n' c' => Lib.run_eql_slice_nil w _ _ a n c n' c' Tryz.underlying49
  cases ao with
  | none =>
    have hr : r = [] := by
      cases r with
      | nil => rfl
      | cons x r => obtain ⟨b, o, e, _⟩ := RowAt.val hv (k := 0) rfl; cases e
    subst hr
    clear hv
    go_enter Tryz.func96, Tryz.ntmps96
    go_wp2_with fail
    go_ret
    exact ⟨_, rfl, World.ownsRow_nil _ _ _ _, Below.refl _ _⟩
  | some p =>
    obtain ⟨i0, hi, hz0, hz1, hz2⟩ := info_parts infoVal
    obtain ⟨n, hn⟩ : ∃ n, r.length = n := ⟨_, rfl⟩
    have HV := Lib.hid hv
    rw [hn] at hcap hl HV ⊢
    have HN := Lib.hid hn
    clear hv hn
    go_enter Tryz.func96, Tryz.ntmps96
    go_wp2_with (at_builtin; refine wpList_append_own _ rfl _ _ 49 rfl w.heap.size 47 i0 _ 3 32 Tryz.underlying49 hi hz0 hz1 hz2 rfl (by decide) _ _ _ rfl (World.ownsRow_made w #[] 0 (Nat.le_refl _) (Nat.zero_le _) rfl) p n cap ((r.map vc).flatten) rfl ?qc1 ?qc2 ?qc3 ?qc4 ?qc5 ?qc6 ?_)
    case qc1 => rw [flat3, HN.out]
    case qc2 =>
      intro j u hj
      obtain ⟨x, hx, hxj, hm⟩ := flat_get (by decide) (r.map vc) (vc3 r) j u hj
      obtain ⟨b, o, e, hlt, hc⟩ := SlAt.cells HV.out hx
      cases e
      refine Lib.cell?_alloc_some _ ?_
      have := hc (j % 3) hm
      rw [hxj] at this
      have ej : j / 3 * 3 + j % 3 = j := by omega
      rw [ej] at this
      rw [Addr.add_lit]
      exact this
    case qc3 =>
      intro u hu
      obtain ⟨l, hl, hul⟩ := List.mem_flatten.1 hu
      obtain ⟨x, _, rfl⟩ := List.mem_map.1 hl
      simp only [vc, List.mem_cons, List.not_mem_nil, or_false] at hul
      rcases hul with rfl | rfl | rfl <;> rfl
    case qc4 => unfold maxLen; omega
    case qc5 => omega
    case qc6 => simp
    intro v' w1 hown hgrow hnil
    go_wp2_with fail
    go_ret
    refine ⟨v', rfl, ?_, ((Below.refl _ w).alloc (Nat.le_refl _) _).grown hgrow (by simp) (by intro k hk; simp [Value.ownBlock] at hk; omega)⟩
    unfold OwnR
    rw [HN.out]
    simpa using hown
/-- Columns of the call's own. -/
def OwnC (W : World) (base : Nat) (v : Value) (r : List Col) : Prop := W.ownsRow base 45 2 v r.length (r.map cc).flatten
theorem OwnC.at {W : World} {base : Nat} {v : Value} {r : List Col} (h : OwnC W base v r) : ColsAt W v r :=
  SlAt.of (cc2 r) (by rw [List.length_map]; exact h)
/-- A new row with the elements of another one. -/
def ClonedC (w : World) (r : List Col) (e : Ending) (w' : World) : Prop := ∃ v', e = .returned v' ∧ OwnC w' w.heap.size v' r ∧ Below w.heap.size w w'
set_option maxHeartbeats 1600000 in
theorem cloneC_is (v : Value) (r : List Col) (w : World) (hl : r.length ≤ 100000) (hv : ColsAt w v r) :
    Calls Tryz.prog 72 #[v] w (ClonedC w r) := by
  obtain ⟨ao, cap, rfl, hcap, _⟩ := hv.len
  have q22 : ∀ (w : World) (a : Option Addr) (n c n' c' : Nat), (binOp .eql 24 (.slice a n c) (.slice none n' c')).run Tryz.prog w = .ok (.bool a.isNone) w := fun w a n c n' c' => Lib.run_eql_slice_nil w _ _ a n c n' c' Tryz.underlying24
  cases ao with
  | none =>
    have hr : r = [] := by
      cases r with
      | nil => rfl
      | cons x r => obtain ⟨b, o, e, _⟩ := ColsAt.col hv (k := 0) rfl; cases e
    subst hr
    clear hv
    go_enter Tryz.func72, Tryz.ntmps72
    go_wp2_with fail
    go_ret
    exact ⟨_, rfl, World.ownsRow_nil _ _ _ _, Below.refl _ _⟩
  | some p =>
    obtain ⟨i0, hi, hz0, hz1, hz2⟩ := info_parts infoCol
    obtain ⟨n, hn⟩ : ∃ n, r.length = n := ⟨_, rfl⟩
    have HV := Lib.hid hv
    rw [hn] at hcap hl HV ⊢
    have HN := Lib.hid hn
    clear hv hn
    go_enter Tryz.func72, Tryz.ntmps72
    go_wp2_with (at_builtin; refine wpList_append_own _ rfl _ _ 24 rfl w.heap.size 45 i0 _ 2 24 Tryz.underlying24 hi hz0 hz1 hz2 rfl (by decide) _ _ _ rfl (World.ownsRow_made w #[] 0 (Nat.le_refl _) (Nat.zero_le _) rfl) p n cap ((r.map cc).flatten) rfl ?qc1 ?qc2 ?qc3 ?qc4 ?qc5 ?qc6 ?_)
    case qc1 => rw [flat2, HN.out]
    case qc2 =>
      intro j u hj
      obtain ⟨x, hx, hxj, hm⟩ := flat_get (by decide) (r.map cc) (cc2 r) j u hj
      obtain ⟨b, o, e, hlt, hc⟩ := SlAt.cells HV.out hx
      cases e
      refine Lib.cell?_alloc_some _ ?_
      have := hc (j % 2) hm
      rw [hxj] at this
      have ej : j / 2 * 2 + j % 2 = j := by omega
      rw [ej] at this
      rw [Addr.add_lit]
      exact this
    case qc3 =>
      intro u hu
      obtain ⟨l, hl, hul⟩ := List.mem_flatten.1 hu
      obtain ⟨x, _, rfl⟩ := List.mem_map.1 hl
      simp only [cc, List.mem_cons, List.not_mem_nil, or_false] at hul
      rcases hul with rfl | rfl <;> rfl
    case qc4 => unfold maxLen; omega
    case qc5 => omega
    case qc6 => simp
    intro v' w1 hown hgrow hnil
    go_wp2_with fail
    go_ret
    refine ⟨v', rfl, ?_, ((Below.refl _ w).alloc (Nat.le_refl _) _).grown hgrow (by simp) (by intro k hk; simp [Value.ownBlock] at hk; omega)⟩
    unfold OwnC
    rw [HN.out]
    simpa using hown
/-- Rows of the call's own, each of its own. -/
structure OwnRs (W : World) (base : Nat) (v : Value) (hs : List Value) (rs : List (List Val)) : Prop where
  len : hs.length = rs.length
  row : W.ownsRow base 49 1 v hs.length hs
  at' : ∀ (i : Nat) (h : Value) (r : List Val), hs[i]? = some h → rs[i]? = some r → OwnR W base h r
theorem own_neT {w : World} {base base' : Nat} {e e' : TypeId} {size size' : Nat} {v v' : Value} {n n' : Nat} {xs xs' : List Value} (h : w.ownsRow base e size v n xs) (h' : w.ownsRow base' e' size' v' n' xs') (hne : e ≠ e') (k : Nat) (hk : v.ownBlock = some k) : v'.ownBlock ≠ some k := by
  intro hk'
  rcases h.2 with ⟨rfl, _⟩ | ⟨g, cap, cur, rfl, hg, hh, r⟩
  · simp [Value.ownBlock] at hk
  rcases h'.2 with ⟨rfl, _⟩ | ⟨g', cap', cur', rfl, hg', hh', r'⟩
  · simp [Value.ownBlock] at hk'
  simp only [Value.ownBlock, Option.some.injEq] at hk hk'
  subst hk; subst hk'
  rw [hh] at hh'
  simp only [Option.some.injEq, Obj.cells.injEq] at hh'
  exact hne hh'.2.1
theorem OwnR.base {W : World} {base base' : Nat} {v : Value} {r : List Val} (h : OwnR W base v r) (hb : base' ≤ base) : OwnR W base' v r := by
  refine ⟨h.1, ?_⟩
  rcases h.2 with h2 | ⟨g, cap, cur, e, hg, x⟩
  · exact .inl h2
  · exact .inr ⟨g, cap, cur, e, by omega, x⟩
/-- Another row of the call's own is written: this one stays. -/
theorem OwnR.grown {W W' : World} {base base' : Nat} {v v' : Value} {r : List Val} {n : Nat} {xs : List Value} (h : OwnR W base v r) (h' : W.ownsRow base' 49 1 v' n xs) (hg : W.grownBy W' v'.ownBlock) : OwnR W' base v r :=
  own_of_block h fun k hk => hg.block k (h.lt k hk).2 (fun e => own_neT h h' (by decide) k hk e.symm)
theorem OwnR.below {W W' : World} {base : Nat} {v : Value} {r : List Val} (h : OwnR W base v r) (hb : Below W.heap.size W W') : OwnR W' base v r := own_below h hb (Nat.le_refl _)
/-- New rows, as these. -/
def Copied (w : World) (rs : List (List Val)) (e : Ending) (w' : World) : Prop := ∃ v' hs, e = .returned v' ∧ OwnRs w' w.heap.size v' hs rs ∧ Below w.heap.size w w'
theorem flat1 : ∀ hs : List Value, (hs.map fun h => [h]).flatten = hs
  | [] => rfl
  | a :: l => by rw [List.map_cons, List.flatten_cons, flat1 l]; rfl
/-- A slice value reads as these rows. -/
def RowsAt (W : World) (v : Value) (rs : List (List Val)) : Prop := ∃ hs : List Value, hs.length = rs.length ∧ SlAt W v 1 (hs.map fun h => [h]) ∧ ∀ (i : Nat) (h : Value) (r : List Val), hs[i]? = some h → rs[i]? = some r → RowAt W h r
theorem RowsAt.below {W W' : World} {v : Value} {rs : List (List Val)} (h : RowsAt W v rs) (hb : Below W.heap.size W W') : RowsAt W' v rs := by
  obtain ⟨hs, h1, h2, h3⟩ := h
  exact ⟨hs, h1, h2.below hb, fun i h r a b => (h3 i h r a b).below hb⟩
theorem RowsAt.len {W : World} {v : Value} {rs : List (List Val)} (h : RowsAt W v rs) : ∃ ao cap, v = .slice ao rs.length cap ∧ rs.length ≤ cap ∧ cap ≤ maxLen := by
  obtain ⟨hs, h1, h2, h3⟩ := h
  have := SlAt.len h2
  rwa [List.length_map, h1] at this
theorem RowsAt.row {W : World} {ao : Option Addr} {n cap k : Nat} {rs : List (List Val)} {r : List Val} (h : RowsAt W (.slice ao n cap) rs) (hr : rs[k]? = some r) :
    ∃ b o x, ao = some ⟨b, o, none⟩ ∧ b < W.heap.size ∧ W.cell? ⟨b, o + k, none⟩ = some x ∧ RowAt W x r := by
  obtain ⟨hs, h1, h2, h3⟩ := h
  have hk : k < hs.length := by rw [h1]; exact (List.getElem?_eq_some_iff.1 hr).1
  have hx : hs[k]? = some hs[k] := List.getElem?_eq_getElem hk
  obtain ⟨b, o, e, hlt, hc⟩ := SlAt.cells h2 (i := k) (x := [hs[k]]) (by rw [List.getElem?_map, hx]; rfl)
  refine ⟨b, o, hs[k], e, hlt, ?_, h3 k _ r hx hr⟩
  have := hc 0 (by decide)
  rwa [Nat.mul_one, Nat.add_zero] at this
theorem OwnRs.at {W : World} {base : Nat} {v : Value} {hs : List Value} {rs : List (List Val)} (h : OwnRs W base v hs rs) : RowsAt W v rs := by
  refine ⟨hs, h.len, SlAt.of (base := base) (e := 49) (xs := hs.map fun h => [h]) (fun x hx => ?_) ?_, fun i x r a b => (h.at' i x r a b).at⟩
  · obtain ⟨y, _, rfl⟩ := List.mem_map.1 hx; rfl
  · rw [List.length_map, flat1]
    exact h.row
end Go.Proofs.YtfmjeggomphliaaGreatDoor.Tb

set_option linter.unusedVariables false
set_option linter.unusedSimpArgs false
namespace Go.Proofs.YtfmjeggomphliaaGreatDoor.Tb
open Go.RowKit Go Go.Sort Ba Va Sr

/-- 'append(out, y)', out a row of the call's own, of things of one cell. -/
theorem app_one {P : Program} {ops : Array Oper} {rest : List Oper} {o : Oper} {a : Act} {Q : Exit → Act → World → Prop} {w : World} (hgd : o.guard = none) (s x : Operand) (t e : TypeId)
    (ho : o.op = .call { callee := .builtin .append, args := #[s, x], argTypes := #[t, t] }) {i : TypeInfo} {z : Value} {B : Nat} (ht : P.underlying t = some (.slice e)) (hi : P.info? e = some i) (hz : i.zero = some z) (hzs : z.cells.size = 1) (hsize : i.size = 1) (hby : i.bytes = B) (hB : B ≤ 100)
    (base : Nat) (v : Value) (xs : List Value) (y : Value) (hy : y.oneCell' = true) (hs : a.eval s = v) (hown : w.ownsRow base e 1 v xs.length xs) (hx : a.eval x = .slice (some ⟨w.heap.size, 0, none⟩) 1 1)
    (hlen : xs.length + 1 ≤ 1000000) (hbase : base ≤ w.heap.size)
    (h : ∀ v' w', w'.ownsRow base e 1 v' (xs ++ [y]).length (xs ++ [y]) → w.grownBy w' v.ownBlock → wpList P ops Q rest (a.put o.dst v') w') :
    wpList P ops Q (o :: rest) a (w.alloc (.cells #[y] e)) := by
  refine wpList_append_own (w.alloc (.cells #[y] e)) hgd s x t ho base e i z 1 B ht hi hz hsize hby hzs (by decide) v xs.length xs hs (hown.alloc _) ⟨w.heap.size, 0, none⟩ 1 1 [y] hx rfl ?_ ?_ ?_ ?_ ?_ ?_
  · intro j u hj
    match j, hj with
    | 0, hj => simp at hj; subst hj; simp [Addr.add]
  · intro u hu; simp at hu; subst hu; exact hy
  · unfold maxLen; omega
  · have : (xs.length + 1) * B ≤ 1000000 * 100 := Nat.mul_le_mul hlen hB
    omega
  · simp only [World.size_alloc]; omega
  · intro v' w' h1 h2 _
    refine h v' w' ?_ ⟨h2.os, h2.tape, h2.output, ?_, fun k hk hne => ?_⟩
    · rw [List.length_append]; exact h1
    · have := h2.size; simp only [World.size_alloc] at this; omega
    · rw [h2.block k (by simp only [World.size_alloc]; omega) hne, Below.heap_alloc w _ k hk]
theorem OwnR.one {W : World} {base : Nat} {v : Value} {r : List Val} (h : OwnR W base v r) : v.oneCell' = true := by
  rcases h.2 with ⟨rfl, _⟩ | ⟨g, cap, cur, rfl, _⟩ <;> rfl
theorem OwnR.sh {W : World} {base : Nat} {v : Value} {r : List Val} (h : OwnR W base v r) : ∃ ao n c, v = .slice ao n c := by
  rcases h.2 with ⟨rfl, _⟩ | ⟨g, cap, cur, rfl, _⟩
  · exact ⟨_, _, _, rfl⟩
  · exact ⟨_, _, _, rfl⟩
theorem get_snoc {α : Type} (l : List α) (x : α) (i : Nat) (y : α) (h : (l ++ [x])[i]? = some y) : (i < l.length ∧ l[i]? = some y) ∨ (i = l.length ∧ y = x) := by
  by_cases hi : i < l.length
  · exact .inl ⟨hi, by rwa [List.getElem?_append_left hi] at h⟩
  · rw [List.getElem?_append_right (by omega)] at h
    have : i - l.length = 0 := by
      have := (List.getElem?_eq_some_iff.1 h).1
      simp at this; omega
    rw [this] at h
    simp at h
    exact .inr ⟨by omega, h.symm⟩
theorem OwnRs.snoc {W W' : World} {base : Nat} {v v' h : Value} {hs : List Value} {rs : List (List Val)} {r : List Val} (H : OwnRs W base v hs rs) (hh : OwnR W base h r) (hg : W.grownBy W' v.ownBlock) (hrow : W'.ownsRow base 49 1 v' (hs ++ [h]).length (hs ++ [h])) : OwnRs W' base v' (hs ++ [h]) (rs ++ [r]) := by
  refine ⟨by rw [List.length_append, List.length_append, H.len]; rfl, hrow, fun i x y hx hy => ?_⟩
  rcases get_snoc _ _ _ _ hx with ⟨i1, e1⟩ | ⟨i1, rfl⟩
  · rcases get_snoc _ _ _ _ hy with ⟨i2, e2⟩ | ⟨i2, rfl⟩
    · exact (H.at' i x y e1 e2).grown H.row hg
    · have := H.len; omega
  · rcases get_snoc _ _ _ _ hy with ⟨i2, e2⟩ | ⟨i2, rfl⟩
    · have := H.len; omega
    · exact hh.grown H.row hg
theorem OwnRs.below {W W' : World} {base : Nat} {v : Value} {hs : List Value} {rs : List (List Val)} (H : OwnRs W base v hs rs) (hb : Below W.heap.size W W') : OwnRs W' base v hs rs :=
  ⟨H.len, own_below H.row hb (Nat.le_refl _), fun i x y hx hy => (H.at' i x y hx hy).below hb⟩
set_option maxHeartbeats 1600000 in
set_option maxRecDepth 100000 in
theorem copied_is (v : Value) (rs : List (List Val)) (w : World) (hl : rs.length ≤ 10000) (hlr : ∀ r ∈ rs, r.length ≤ 10000) (hv : RowsAt w v rs) :
    Calls Tryz.prog 73 #[v] w (Copied w rs) := by
  obtain ⟨ao, cap, rfl, hcap, _⟩ := hv.len
  obtain ⟨i0, hi, hz0, hz1, hz2⟩ := info_parts infoRow
  obtain ⟨n, hn⟩ : ∃ n, rs.length = n := ⟨_, rfl⟩
  have HV := Lib.hid hv
  rw [hn] at hcap hl HV ⊢
  have HN := Lib.hid hn
  have HLR := Lib.hid hlr
  clear hv hn hlr
  go_enter Tryz.func73, Tryz.ntmps73
  go_wp2_with fail
  go_loopw [3, 8] (fun out i wr => ∃ (k : Nat) (hs : List Value), k ≤ n ∧ i = .int .i64 k ∧ Hid (OwnRs wr w.heap.size out hs (rs.take k)) ∧ Hid (Below w.heap.size w wr)) (fun out i _ => n - (intOf i).toNat)
  case atStart => exact ⟨0, [], Nat.zero_le _, rfl, (⟨rfl, World.ownsRow_nil _ _ _ _, fun i h r hx => by simp at hx⟩ : OwnRs w w.heap.size (.slice none 0 0) [] []), Below.refl _ _⟩
  case round =>
    obtain ⟨k, hs, hk, rfl, HO, BW⟩ := hrel
    by_cases hlt : k < n
    · obtain ⟨r, hr⟩ : ∃ r, rs[k]? = some r := ⟨_, List.getElem?_eq_getElem (by rw [HN.out]; exact hlt)⟩
      obtain ⟨b, o, x, rfl, hb, hc, hx⟩ := RowsAt.row HV.out hr
      replace hc := (BW.out.cell (by exact hb)).trans hc
      have HC := Lib.hid (cloneR_is x r wr (by have := HLR.out r (List.mem_of_getElem? hr); omega) (hx.below ⟨BW.out.os, BW.out.tape, BW.out.output, BW.out.size, BW.out.block⟩))
      have HR := Lib.hid hr
      have hlen : Hid (hs.length = k) := by have := HO.out.len; rw [List.length_take, HN.out] at this; show _ = _; omega
      clear hr hx
      go_wp2_with (first | (go_at_call 96; refine HC.out.mono ?_; rintro e w1 ⟨v1, rfl, o1, hb1⟩; obtain ⟨a1, n1, c1, rfl⟩ := o1.sh) | (at_builtin; refine app_one rfl _ _ 25 49 rfl Tryz.underlying25 hi hz0 rfl hz1 hz2 (by decide) w.heap.size u3 hs _ o1.one rfl (HO.out.below hb1).row rfl (by have := hlen.out; omega) (by have := BW.out.size; have := hb1.size; omega) ?_; intro v2 w2 hown2 hgrow2))
      have o1' := o1.base BW.out.size
      have S2 := (HO.out.below hb1).snoc o1' hgrow2 hown2
      have bw2 := (two BW.out hb1).grown hgrow2 (two BW.out hb1).size (fun j hj => ((HO.out.below hb1).row.lt j hj).1)
      go_roundw
      case rel => exact ⟨k + 1, _, by omega, by go_num, (by rw [take_one rs k r HR.out]; exact S2 : OwnRs _ _ _ _ (rs.take (k + 1))), bw2⟩
      case measure => simp [intOf]; omega
    · obtain rfl : k = n := by omega
      go_wp2_with fail
      go_ret
      refine ⟨_, hs, rfl, ?_, BW.out⟩
      have := HO.out
      rw [← HN.out, List.take_length] at this
      exact this
end Go.Proofs.YtfmjeggomphliaaGreatDoor.Tb

set_option linter.unusedVariables false
set_option linter.unusedSimpArgs false
namespace Go.Proofs.YtfmjeggomphliaaGreatDoor.Tb
open Go.RowKit Go Go.Sort Ba Va Sr

/-- A row of no great size. -/
structure BdR (r : List Val) : Prop where
  len : r.length ≤ 4096
  txt : ∀ x ∈ r, x.t.size ≤ 4096
  num : ∀ x ∈ r, -9223372036854775808 ≤ x.n ∧ x.n ≤ 9223372036854775807
/-- Columns of no great size. -/
structure BdC (cs : List Col) : Prop where
  len : cs.length ≤ 4096
  name : ∀ c ∈ cs, c.name.size ≤ 4096
/-- Rows of no great size. -/
structure BdRs (rs : List (List Val)) : Prop where
  len : rs.length ≤ 10000
  row : ∀ r ∈ rs, BdR r
set_option maxHeartbeats 800000 in
theorem test_is {sv rv : Value} {cs : List Col} {r : List Val} {q : Bool} (hq : fits cs r = q) (B : Nat) (w : World) (bc : BdC cs) (br : BdR r) (hB : Box w B [sv]) (hv : ColsAt w sv cs) (hr : RowAt w rv r) :
    Calls Tryz.prog 70 #[rv, .pointer (some ⟨B, 0, none⟩)] w fun e w' => e = .returned (.bool (!q)) ∧ Below w.heap.size w w' := by
  have h0 := hB.cl 0 _ rfl
  have HF := Lib.hid (fits_is hq w bc.len bc.name hv hr br.txt)
  obtain ⟨ao, cap, rfl, _, _⟩ := hv.len
  clear hq hv hr bc br hB
  go_enter Tryz.func70, Tryz.ntmps70
  go_wp2_with (go_at_call 71; refine HF.out.mono ?_; rintro e w1 ⟨rfl, hb1⟩)
  go_ret
  exact ⟨rfl, hb1⟩
/-- What the search for a row that doesn't fit tells. -/
def Missing (cs : List Col) (rs : List (List Val)) (w : World) (e : Ending) (w' : World) : Prop := ∃ i : Int, e = .returned (.int .i64 i) ∧ ((i = -1 ∧ rs.all (fits cs) = true) ∨ (0 ≤ i ∧ rs.all (fits cs) = false)) ∧ Below w.heap.size w w'
set_option maxHeartbeats 1600000 in
theorem indexR_is (sv v : Value) (cs : List Col) (rs : List (List Val)) (B : Nat) (w : World) (bc : BdC cs) (br : BdRs rs) (hB : Box w B [sv]) (hs : ColsAt w sv cs) (hv : RowsAt w v rs) :
    Calls Tryz.prog 95 #[v, .func (.func 70) #[] #[.pointer (some ⟨B, 0, none⟩)]] w (Missing cs rs w) := by
  obtain ⟨ao, cap, rfl, hcap, _⟩ := hv.len
  obtain ⟨n, hn⟩ : ∃ n, rs.length = n := ⟨_, rfl⟩
  have HV := Lib.hid hv
  have HS := Lib.hid hs
  have HBX := Lib.hid hB
  have BC := Lib.hid bc
  have BR := Lib.hid br
  have hl := br.len
  rw [hn] at hcap HV hl ⊢
  have HN := Lib.hid hn
  clear hv hs hB bc br hn
  go_enter Tryz.func95, Tryz.ntmps95
  go_wp2_with fail
  go_loopw [8] (fun i wr => ∃ k : Nat, k ≤ n ∧ i = .int .i64 k ∧ Hid ((rs.take k).all (fits cs) = true) ∧ Hid (Below w.heap.size w wr)) (fun i _ => n - (intOf i).toNat)
  case atStart => exact ⟨0, Nat.zero_le _, rfl, (by rfl : (rs.take 0).all (fits cs) = true), Below.refl _ _⟩
  case round =>
    obtain ⟨k, hk, rfl, HA, BW⟩ := hrel
    by_cases hlt : k < n
    · obtain ⟨r, hr⟩ : ∃ r, rs[k]? = some r := ⟨_, List.getElem?_eq_getElem (by rw [HN.out]; exact hlt)⟩
      obtain ⟨b, o, x, rfl, hb, hc, hx⟩ := RowsAt.row HV.out hr
      replace hc := (BW.out.cell (by exact hb)).trans hc
      have hm := List.mem_of_getElem? hr
      obtain ⟨q, hq⟩ : ∃ q, fits cs r = q := ⟨_, rfl⟩
      have HT := Lib.hid (test_is hq B wr BC.out (BR.out.row r hm) (HBX.out.next BW.out) (HS.out.below BW.out) (hx.below BW.out))
      have HR := Lib.hid hr
      have HM := Lib.hid hm
      have HQ := Lib.hid hq
      clear hr hx hm hq
      cases q with
      | false =>
        go_wp2_with (go_at_call 70; refine HT.out.mono ?_; rintro e w1 ⟨rfl, hb1⟩)
        go_ret
        exact ⟨k, rfl, .inr ⟨by omega, List.all_eq_false.2 ⟨r, HM.out, by rw [HQ.out]; decide⟩⟩, two BW.out hb1⟩
      | true =>
        have HA2 : Hid ((rs.take (k + 1)).all (fits cs) = true) := by show _ = _; rw [take_one rs k r HR.out, List.all_append, HA.out]; simp [HQ.out]
        go_wp2_with (go_at_call 70; refine HT.out.mono ?_; rintro e w1 ⟨rfl, hb1⟩)
        go_roundw
        case rel => exact ⟨k + 1, by omega, by go_num, HA2, two BW.out hb1⟩
        case measure => simp [intOf]; omega
    · obtain rfl : k = n := by omega
      go_wp2_with fail
      go_ret
      refine ⟨-1, rfl, .inl ⟨rfl, ?_⟩, BW.out⟩
      have := HA.out
      rwa [← HN.out, List.take_length] at this
theorem contains_is (sv v : Value) (cs : List Col) (rs : List (List Val)) (q : Bool) (hq : rs.all (fits cs) = q) (B : Nat) (w : World) (bc : BdC cs) (br : BdRs rs) (hB : Box w B [sv]) (hs : ColsAt w sv cs) (hv : RowsAt w v rs) :
    Calls Tryz.prog 69 #[v, .func (.func 70) #[] #[.pointer (some ⟨B, 0, none⟩)]] w fun e w' => e = .returned (.bool (!q)) ∧ Below w.heap.size w w' := by
  have HI := Lib.hid (indexR_is sv v cs rs B w bc br hB hs hv)
  have HQ := Lib.hid hq
  obtain ⟨ao, cap, rfl, _, _⟩ := hv.len
  clear hq bc br hB hs hv
  go_enter Tryz.func69, Tryz.ntmps69
  go_wp2_with (go_at_call 95; refine HI.out.mono ?_; rintro e w1 ⟨i, rfl, hi, hb1⟩; have HHI := Lib.hid hi; clear hi)
  go_ret
  refine ⟨ret_bool ?_, hb1⟩
  rcases HHI.out with ⟨rfl, h⟩ | ⟨h0, h⟩
  · rw [← HQ.out, h]; rfl
  · rw [← HQ.out, h]; exact decide_eq_true h0
theorem all_fits {cs : List Col} {rs : List (List Val)} (h : chk cs = 0) : rs.all (fits cs) = rs.all (fitL cs) := by
  congr 1
  funext r
  unfold fits
  rw [h]; rfl
set_option maxHeartbeats 1600000 in
theorem fit_is {sv v : Value} {cs : List Col} {rs : List (List Val)} {E : Int} (hE : err cs rs = E) (w : World) (bc : BdC cs) (br : BdRs rs) (hs : ColsAt w sv cs) (hv : RowsAt w v rs) :
    Calls Tryz.prog 42 #[sv, v] w fun e w' => e = .returned (.int .i64 E) ∧ Below w.heap.size w w' := by
  obtain ⟨C, hC⟩ : ∃ C, chk cs = C := ⟨_, rfl⟩
  have hC2 := hC
  unfold err at hE
  rw [hC] at hE
  obtain ⟨sao, scap, rfl, _, _⟩ := hs.len
  obtain ⟨ao, cap, rfl, hcap, _⟩ := hv.len
  obtain ⟨n, hn⟩ : ∃ n, rs.length = n := ⟨_, rfl⟩
  have hl := br.len
  rw [hn] at hE hcap hl ⊢
  have HS := Lib.hid hs
  have HV := Lib.hid hv
  have BC := Lib.hid bc
  have BR := Lib.hid br
  have B1 := Lib.hid (Box.new w [.slice sao cs.length scap] 24)
  have bw1 : Hid (Below w.heap.size w (w.alloc (.cells #[.slice sao cs.length scap] 24))) := (Below.refl _ _).alloc (Nat.le_refl _) _
  have HC := Lib.hid (check_is hC (w.alloc (.cells #[.slice sao cs.length scap] 24)) bc.len bc.name (hs.below bw1.out))
  rw [hn] at HV
  clear hs hv bc br hC hn
  by_cases c0 : C = 0
  · subst c0
    rw [if_neg (by simp)] at hE
    by_cases c1 : 4096 < n
    · rw [if_pos c1] at hE
      subst hE
      go_enter Tryz.func42, Tryz.ntmps42
      go_wp2_with (go_at_call 66; refine HC.out.mono ?_; rintro e w1 ⟨rfl, hb1⟩)
      go_ret
      exact ⟨rfl, two bw1.out hb1⟩
    · rw [if_neg c1, ← all_fits hC2] at hE
      obtain ⟨q, hq⟩ : ∃ q, rs.all (fits cs) = q := ⟨_, rfl⟩
      rw [hq] at hE
      have HQ := Lib.hid hq
      have HE := Lib.hid hE
      clear hq hC2 hE
      cases q with
      | true =>
        have HR : Hid (E = 0) := by show E = 0; rw [← HE.out]; rfl
        go_enter Tryz.func42, Tryz.ntmps42
        go_wp2_with (first | (go_at_call 66; refine HC.out.mono ?_; rintro e w1 ⟨rfl, hb1⟩) | (go_at_call 69; refine (contains_is _ _ cs rs _ HQ.out w.heap.size _ BC.out BR.out (B1.out.next hb1) ((HS.out.below bw1.out).below hb1) ((HV.out.below bw1.out).below hb1)).mono ?_; rintro e w2 ⟨rfl, hb2⟩))
        go_ret
        exact ⟨by rw [HR.out]; rfl, two (two bw1.out hb1) hb2⟩
      | false =>
        have HR : Hid (E = 12) := by show E = 12; rw [← HE.out]; rfl
        go_enter Tryz.func42, Tryz.ntmps42
        go_wp2_with (first | (go_at_call 66; refine HC.out.mono ?_; rintro e w1 ⟨rfl, hb1⟩) | (go_at_call 69; refine (contains_is _ _ cs rs _ HQ.out w.heap.size _ BC.out BR.out (B1.out.next hb1) ((HS.out.below bw1.out).below hb1) ((HV.out.below bw1.out).below hb1)).mono ?_; rintro e w2 ⟨rfl, hb2⟩))
        go_ret
        exact ⟨by rw [HR.out]; rfl, two (two bw1.out hb1) hb2⟩
  · rw [if_pos c0] at hE
    subst hE
    have d0 : (C != 0) = true := by simpa using c0
    clear c0
    go_enter Tryz.func42, Tryz.ntmps42
    go_wp2_with (go_at_call 66; refine HC.out.mono ?_; rintro e w1 ⟨rfl, hb1⟩)
    go_ret
    exact ⟨rfl, two bw1.out hb1⟩
end Go.Proofs.YtfmjeggomphliaaGreatDoor.Tb

set_option linter.unusedVariables false
set_option linter.unusedSimpArgs false
namespace Go.Proofs.YtfmjeggomphliaaGreatDoor.Tb
open Go.RowKit Go Go.Sort Ba Va Sr

/-- From a place on, the rows stand in their order. -/
def SrtFrom (rs : List (List Val)) (m : Nat) : Prop := ∀ (i : Nat) (a b : List Val), m ≤ i + 1 → rs[i]? = some a → rs[i + 1]? = some b → cmpR a b ≤ 0
set_option maxHeartbeats 1600000 in
theorem sorted_is (v : Value) (rs : List (List Val)) (q : Bool) (hq : srt rs = q) (w : World) (br : BdRs rs) (hv : RowsAt w v rs) :
    Calls Tryz.prog 64 #[v, .func (.func 45) #[] #[]] w fun e w' => e = .returned (.bool q) ∧ Below w.heap.size w w' := by
  obtain ⟨ao, cap, rfl, hcap, _⟩ := hv.len
  obtain ⟨n, hn⟩ : ∃ n, rs.length = n := ⟨_, rfl⟩
  have HV := Lib.hid hv
  have BR := Lib.hid br
  have HQ := Lib.hid hq
  have hl := br.len
  rw [hn] at hcap HV hl ⊢
  have HN := Lib.hid hn
  have w1 : IntKind.i64.wrap ((n : Int) - 1) = (n : Int) - 1 := by rw [IntWalk.i64_in _ (by omega)]
  clear hv br hn hq
  go_enter Tryz.func64, Tryz.ntmps64
  go_wp2_with fail
  go_loopw [5] (fun i wr => ∃ m : Nat, m ≤ n ∧ i = .int .i64 ((m : Int) - 1) ∧ Hid (SrtFrom rs m) ∧ Hid (Below w.heap.size w wr)) (fun i _ => (intOf i + 1).toNat)
  case atStart => exact ⟨n, Nat.le_refl _, rfl, (fun i a b h1 h2 h3 => by have := (List.getElem?_eq_some_iff.1 h3).1; have := HN.out; omega : SrtFrom rs n), Below.refl _ _⟩
  case round =>
    obtain ⟨m, hm, rfl, HF, BW⟩ := hrel
    by_cases h2 : 2 ≤ m
    · obtain ⟨p, rfl⟩ : ∃ p, m = p + 2 := ⟨m - 2, by omega⟩
      obtain ⟨a, ha⟩ : ∃ a, rs[p]? = some a := ⟨_, List.getElem?_eq_getElem (by rw [HN.out]; omega)⟩
      obtain ⟨b, hb⟩ : ∃ b, rs[p + 1]? = some b := ⟨_, List.getElem?_eq_getElem (by rw [HN.out]; omega)⟩
      obtain ⟨k, o, x, e1, hk, hc, hx⟩ := RowsAt.row HV.out ha
      obtain ⟨k2, o2, y, e2, _, hc2, hy⟩ := RowsAt.row HV.out hb
      subst e1
      cases e2
      replace hc := (BW.out.cell (by exact hk)).trans hc
      replace hc2 := (BW.out.cell (by exact hk)).trans hc2
      obtain ⟨c, hcc⟩ : ∃ c, cmpR b a = c := ⟨_, rfl⟩
      have cA := qcall (P := Tryz.prog) (w := wr) fun W' hb' => cmpr_is hcc W' (BR.out.row b (List.mem_of_getElem? hb)).len (BR.out.row a (List.mem_of_getElem? ha)).len ((hy.below BW.out).below hb') ((hx.below BW.out).below hb')
      have HA := Lib.hid ha
      have HB := Lib.hid hb
      have HC : Hid (cmpR a b = -c) := by show _ = _; rw [cmpR_swap, hcc]
      have m0 := cell_regrown hc
      have m1 := cell_regrown hc2
      have b1 : (p : Int) + 1 < (n : Int) := by omega
      have b0 : (p : Int) < (n : Int) := by omega
      rw [show (((p + 2 : Nat) : Int) - 1) = (p : Int) + 1 by omega]
      clear ha hb hx hy hcc hc hc2
      by_cases c0 : c < 0
      · have HR : Hid (q = false) := by
          show q = false
          cases hq : q with
          | false => rfl
          | true =>
            have := (srt_iff rs).1 (HQ.out.trans hq) p a b HA.out HB.out
            have := HC.out
            omega
        have d0 : decide (c < 0) = true := decide_eq_true c0
        go_wp2_with fail
        refine wp_region_quiet_below (by kernel_rfl) (by kernel_rfl) ?_
        repeat (go_big_quiet_step (with_reducible (first | exact cA _ _)))
        refine wpQuiet_nil ?_
        intro _ hw'
        obtain ⟨⟨dq1, os1⟩, hw''⟩ := hw'
        subst hw''
        have bw2 := two BW.out (below_regrown wr dq1 os1)
        go_wp2_with fail
        go_ret
        exact ⟨ret_bool HR.out.symm, bw2⟩
      · have HF2 : Hid (SrtFrom rs (p + 1)) := fun i a' b' g1 g2 g3 => by
          by_cases e : i = p
          · subst e
            rw [HA.out] at g2
            rw [HB.out] at g3
            cases g2; cases g3
            have := HC.out
            omega
          · exact HF.out i a' b' (by omega) g2 g3
        have d0 : decide (c < 0) = false := decide_eq_false c0
        go_wp2_with fail
        refine wp_region_quiet_below (by kernel_rfl) (by kernel_rfl) ?_
        repeat (go_big_quiet_step (with_reducible (first | exact cA _ _)))
        refine wpQuiet_nil ?_
        intro _ hw'
        obtain ⟨⟨dq1, os1⟩, hw''⟩ := hw'
        subst hw''
        have bw2 := two BW.out (below_regrown wr dq1 os1)
        clear m0 m1 cA
        go_wp2_with fail
        go_roundw
        case rel => exact ⟨p + 1, by omega, by congr 1; omega, HF2, bw2⟩
        case measure => simp [intOf]; try omega
    · have h0 : ¬ 0 < (m : Int) - 1 := by omega
      have HR : Hid (q = true) := by
        show q = true
        rw [← HQ.out]
        exact (srt_iff rs).2 fun i a b g2 g3 => HF.out i a b (by omega) g2 g3
      go_wp2_with fail
      go_ret
      exact ⟨ret_bool HR.out.symm, BW.out⟩
set_option maxHeartbeats 1600000 in
theorem tcheck_is {sv v : Value} {cs : List Col} {rs : List (List Val)} {E : Int} (hE : errT cs rs = E) (w : World) (bc : BdC cs) (br : BdRs rs) (hs : ColsAt w sv cs) (hv : RowsAt w v rs) :
    Calls Tryz.prog 32 #[.agg #[sv, v]] w fun e w' => e = .returned (.int .i64 E) ∧ Below w.heap.size w w' := by
  obtain ⟨F, hF⟩ : ∃ F, err cs rs = F := ⟨_, rfl⟩
  unfold errT at hE
  rw [hF] at hE
  obtain ⟨sao, scap, rfl, _, _⟩ := hs.len
  obtain ⟨ao, cap, rfl, _, _⟩ := hv.len
  have HS := Lib.hid hs
  have HV := Lib.hid hv
  have BR := Lib.hid br
  have BC := Lib.hid bc
  have B1 := Lib.hid (Box.new w [.slice sao cs.length scap, .slice ao rs.length cap] 27)
  have bw1 : Hid (Below w.heap.size w (w.alloc (.cells #[.slice sao cs.length scap, .slice ao rs.length cap] 27))) := (Below.refl _ _).alloc (Nat.le_refl _) _
  have HF := Lib.hid (fit_is hF (w.alloc (.cells #[.slice sao cs.length scap, .slice ao rs.length cap] 27)) bc br (hs.below bw1.out) (hv.below bw1.out))
  clear hs hv bc br hF
  by_cases f0 : F = 0
  · subst f0
    rw [if_neg (by simp)] at hE
    obtain ⟨q, hq⟩ : ∃ q, srt rs = q := ⟨_, rfl⟩
    rw [hq] at hE
    have HQ := Lib.hid hq
    clear hq
    cases q with
    | true =>
      have HR : Hid (E = 0) := by show E = 0; rw [← hE]; rfl
      clear hE
      go_enter Tryz.func32, Tryz.ntmps32
      go_wp2_with (first | (go_at_call 42; refine HF.out.mono ?_; rintro e w1 ⟨rfl, hb1⟩; obtain ⟨z0, z1, _, _⟩ := (B1.out.next hb1).two) | (go_at_call 64; refine (sorted_is _ rs _ HQ.out _ BR.out ((HV.out.below bw1.out).below hb1)).mono ?_; rintro e w2 ⟨rfl, hb2⟩))
      go_ret
      exact ⟨by rw [HR.out]; rfl, two (two bw1.out hb1) hb2⟩
    | false =>
      have HR : Hid (E = 20) := by show E = 20; rw [← hE]; rfl
      clear hE
      go_enter Tryz.func32, Tryz.ntmps32
      go_wp2_with (first | (go_at_call 42; refine HF.out.mono ?_; rintro e w1 ⟨rfl, hb1⟩; obtain ⟨z0, z1, _, _⟩ := (B1.out.next hb1).two) | (go_at_call 64; refine (sorted_is _ rs _ HQ.out _ BR.out ((HV.out.below bw1.out).below hb1)).mono ?_; rintro e w2 ⟨rfl, hb2⟩))
      go_ret
      exact ⟨by rw [HR.out]; rfl, two (two bw1.out hb1) hb2⟩
  · rw [if_pos f0] at hE
    subst hE
    have d0 : (F != 0) = true := by simpa using f0
    clear f0
    go_enter Tryz.func32, Tryz.ntmps32
    go_wp2_with (go_at_call 42; refine HF.out.mono ?_; rintro e w1 ⟨rfl, hb1⟩)
    go_ret
    exact ⟨rfl, two bw1.out hb1⟩
end Go.Proofs.YtfmjeggomphliaaGreatDoor.Tb

set_option linter.unusedVariables false
set_option linter.unusedSimpArgs false
namespace Go.Proofs.YtfmjeggomphliaaGreatDoor.Tb
open Go.RowKit Go Go.Sort Ba Va Sr

theorem OwnC.sh {W : World} {base : Nat} {v : Value} {r : List Col} (h : OwnC W base v r) : ∃ ao n c, v = .slice ao n c := by
  rcases h.2 with ⟨rfl, _⟩ | ⟨g, cap, cur, rfl, _⟩
  · exact ⟨_, _, _, rfl⟩
  · exact ⟨_, _, _, rfl⟩
theorem OwnC.base {W : World} {base base' : Nat} {v : Value} {r : List Col} (h : OwnC W base v r) (hb : base' ≤ base) : OwnC W base' v r := by
  refine ⟨h.1, ?_⟩
  rcases h.2 with h2 | ⟨g, cap, cur, e, hg, x⟩
  · exact .inl h2
  · exact .inr ⟨g, cap, cur, e, by omega, x⟩
theorem OwnC.below {W W' : World} {base : Nat} {v : Value} {r : List Col} (h : OwnC W base v r) (hb : Below W.heap.size W W') : OwnC W' base v r := own_below h hb (Nat.le_refl _)
theorem OwnRs.sh {W : World} {base : Nat} {v : Value} {hs : List Value} {rs : List (List Val)} (h : OwnRs W base v hs rs) : ∃ ao n c, v = .slice ao n c := by
  rcases h.row.2 with ⟨rfl, _⟩ | ⟨g, cap, cur, rfl, _⟩
  · exact ⟨_, _, _, rfl⟩
  · exact ⟨_, _, _, rfl⟩
/-- What is the call's own stays while a block ahead of it is written. -/
theorem own_put {w : World} {base : Nat} {e : TypeId} {size : Nat} {v : Value} {n : Nat} {xs : List Value} (h : w.ownsRow base e size v n xs) (B : Nat) (hB : B < base) (i j : Nat) (a b : Value) : ((w.setCell ⟨B, i, none⟩ a).setCell ⟨B, j, none⟩ b).ownsRow base e size v n xs :=
  own_of_block h fun k hk => by
    have := (h.lt k hk).1
    rw [Below.heap_setCell _ _ _ _ (by show k ≠ B; omega), Below.heap_setCell _ _ _ _ (by show k ≠ B; omega)]
theorem OwnRs.put {W : World} {base : Nat} {v : Value} {hs : List Value} {rs : List (List Val)} (h : OwnRs W base v hs rs) (B : Nat) (hB : B < base) (i j : Nat) (a b : Value) : OwnRs ((W.setCell ⟨B, i, none⟩ a).setCell ⟨B, j, none⟩ b) base v hs rs :=
  ⟨h.len, own_put h.row B hB i j a b, fun k x r h1 h2 => own_put (h.at' k x r h1 h2) B hB i j a b⟩
theorem OwnRs.base {W : World} {base base' : Nat} {v : Value} {hs : List Value} {rs : List (List Val)} (h : OwnRs W base v hs rs) (hb : base' ≤ base) : OwnRs W base' v hs rs := by
  refine ⟨h.len, ⟨h.row.1, ?_⟩, fun k x r h1 h2 => (h.at' k x r h1 h2).base hb⟩
  rcases h.row.2 with h2 | ⟨g, cap, cur, e, hg, x⟩
  · exact .inl h2
  · exact .inr ⟨g, cap, cur, e, by omega, x⟩
/-- A copy: columns and rows of the call's own. -/
def CopiedT (w : World) (cs : List Col) (rs : List (List Val)) (e : Ending) (w' : World) : Prop :=
  ∃ x1 x2 hs, e = .returned (.agg #[x1, x2]) ∧ OwnC w' w.heap.size x1 cs ∧ OwnRs w' w.heap.size x2 hs rs ∧ Below w.heap.size w w'
/-- What is known of the world all along. -/
def HeldC (w : World) (sv rv : Value) (W : World) : Prop := W.cell? ⟨w.heap.size, 0, none⟩ = some sv ∧ W.cell? ⟨w.heap.size, 1, none⟩ = some rv ∧ (∃ p q, Box W (w.heap.size + 1) [p, q]) ∧ Below w.heap.size w W
theorem HeldC.next {w W W' : World} {sv rv : Value} (h : HeldC w sv rv W) (hb : Below W.heap.size W W') : HeldC w sv rv W' := by
  obtain ⟨h1, h2, ⟨p, q, hB⟩, h4⟩ := h
  exact ⟨(hb.cell (by exact lt_of_cell h1)).trans h1, (hb.cell (by exact lt_of_cell h2)).trans h2, ⟨p, q, hB.next hb⟩, two h4 hb⟩
theorem HeldC.put {w W : World} {sv rv : Value} (h : HeldC w sv rv W) (u v : Value) : HeldC w sv rv ((W.setCell ⟨w.heap.size + 1, 0, none⟩ u).setCell ⟨w.heap.size + 1, 1, none⟩ v) := by
  obtain ⟨h1, h2, ⟨p, q, hB⟩, h4⟩ := h
  refine ⟨?_, ?_, ⟨u, v, (hB.put 0 u).put 1 v⟩, (h4.setCell (p := ⟨w.heap.size + 1, 0, none⟩) (by simp) _).setCell (p := ⟨w.heap.size + 1, 1, none⟩) (by simp) _⟩
  · rw [World.cell?_setCell_other _ _ _ _ (by intro e; simp only [Addr.mk.injEq] at e; omega), World.cell?_setCell_other _ _ _ _ (by intro e; simp only [Addr.mk.injEq] at e; omega)]; exact h1
  · rw [World.cell?_setCell_other _ _ _ _ (by intro e; simp only [Addr.mk.injEq] at e; omega), World.cell?_setCell_other _ _ _ _ (by intro e; simp only [Addr.mk.injEq] at e; omega)]; exact h2
set_option maxHeartbeats 3200000 in
set_option maxRecDepth 100000 in
theorem copy_is (sv rv : Value) (cs : List Col) (rs : List (List Val)) (w : World) (bc : BdC cs) (br : BdRs rs) (hs : ColsAt w sv cs) (hv : RowsAt w rv rs) :
    Calls Tryz.prog 43 #[.agg #[sv, rv]] w (CopiedT w cs rs) := by
  obtain ⟨sa, sc, rfl, _, _⟩ := hs.len
  obtain ⟨ra, rc, rfl, _, _⟩ := hv.len
  have HC : Hid (∀ W, HeldC w (.slice sa cs.length sc) (.slice ra rs.length rc) W → Calls Tryz.prog 72 #[.slice sa cs.length sc] W (ClonedC W cs)) := fun W h => cloneC_is _ cs W (by have := bc.len; omega) (hs.below h.2.2.2)
  have HR : Hid (∀ W, HeldC w (.slice sa cs.length sc) (.slice ra rs.length rc) W → Calls Tryz.prog 73 #[.slice ra rs.length rc] W (Copied W rs)) := fun W h => copied_is _ rs W br.len (fun r hr => by have := (br.row r hr).len; omega) (hv.below h.2.2.2)
  have HM : Hid (∀ W W', HeldC w (.slice sa cs.length sc) (.slice ra rs.length rc) W → Below W.heap.size W W' → HeldC w (.slice sa cs.length sc) (.slice ra rs.length rc) W') := fun W W' h hb => h.next hb
  have HP : Hid (∀ W u v, HeldC w (.slice sa cs.length sc) (.slice ra rs.length rc) W → HeldC w (.slice sa cs.length sc) (.slice ra rs.length rc) ((W.setCell ⟨w.heap.size + 1, 0, none⟩ u).setCell ⟨w.heap.size + 1, 1, none⟩ v)) := fun W u v h => h.put u v
  have H0 : Hid (HeldC w (.slice sa cs.length sc) (.slice ra rs.length rc) ((w.alloc (.cells #[.slice sa cs.length sc, .slice ra rs.length rc] 27)).alloc (.cells #[.slice none 0 0, .slice none 0 0] 27))) := by
    refine ⟨by simp, by simp, ⟨.slice none 0 0, .slice none 0 0, ?_⟩, ((Below.refl _ w).alloc (Nat.le_refl _) _).alloc (by simp) _⟩
    have := Box.new (w.alloc (.cells #[.slice sa cs.length sc, .slice ra rs.length rc] 27)) [.slice none 0 0, .slice none 0 0] 27
    simpa using this
  have hsz : ((w.alloc (.cells #[.slice sa cs.length sc, .slice ra rs.length rc] 27)).alloc (.cells #[.slice none 0 0, .slice none 0 0] 27)).heap.size = w.heap.size + 2 := by simp
  have HSZ := Lib.hid hsz
  clear hs hv bc br hsz
  go_enter Tryz.func43, Tryz.ntmps43
  go_wp2_with fail
  generalize (w.alloc (.cells #[.slice sa cs.length sc, .slice ra rs.length rc] 27)).alloc (.cells #[.slice none 0 0, .slice none 0 0] 27) = W0 at *
  refine wp_region_held_drew (S := fun W => W.cell? ⟨w.heap.size, 0, none⟩ = some (.slice sa cs.length sc) ∧ W.cell? ⟨w.heap.size, 1, none⟩ = some (.slice ra rs.length rc) ∧ (∃ p q, Box W (w.heap.size + 1) [p, q]) ∧ Below w.heap.size w W) (by kernel_rfl) (by exact HM.out _ _ H0.out (Below.drew (Below.refl _ _))) (fun hHeld => ?_)
  refine wpAnyH_take (i := 0) (v := ?v1x) rfl (by kernel_rfl) (by kernel_rfl) (by kernel_rfl) (fun _ _ _ h => h) (Or.inl ⟨by rfl, ?hy1x⟩) hHeld ?rest1x
  case hy1x => (intro w hSw; (try dsimp only at hSw); go_simp <;> with_reducible rfl)
  try simp only [Array.reduceGetElem, Act.put, List.setIfInBounds_toArray, List.set_cons_zero, List.set_cons_succ]
  refine wpAnyH_take (i := 1) (v := ?v2x) rfl (by kernel_rfl) (by kernel_rfl) (by kernel_rfl) (fun _ _ _ h => h) (Or.inl ⟨by rfl, ?hy2x⟩) hHeld ?rest2x
  case hy2x => (intro w hSw; (try dsimp only at hSw); go_simp <;> with_reducible rfl)
  try simp only [Array.reduceGetElem, Act.put, List.setIfInBounds_toArray, List.set_cons_zero, List.set_cons_succ]
  refine wpAnyH_take (i := 3) (v := ?v3x) rfl (by kernel_rfl) (by kernel_rfl) (by kernel_rfl) (fun _ _ _ h => h) (Or.inl ⟨by rfl, ?hy3x⟩) hHeld ?rest3x
  case hy3x => (intro w hSw; (try dsimp only at hSw); go_simp <;> with_reducible rfl)
  try simp only [Array.reduceGetElem, Act.put, List.setIfInBounds_toArray, List.set_cons_zero, List.set_cons_succ]
  refine wpAnyH_take (i := 4) (v := ?v4x) rfl (by kernel_rfl) (by kernel_rfl) (by kernel_rfl) (fun _ _ _ h => h) (Or.inl ⟨by rfl, ?hy4x⟩) hHeld ?rest4x
  case hy4x => (intro w hSw; (try dsimp only at hSw); go_simp <;> with_reducible rfl)
  try simp only [Array.reduceGetElem, Act.put, List.setIfInBounds_toArray, List.set_cons_zero, List.set_cons_succ]
  refine wpAnyH_ready (rs := [2]) (by kernel_rfl) (by simp) ?_
  refine AllReadyH.cons rfl (fun K hK => ?_) AllReadyH.nil
  go_simp
  go_at_call 72; refine (HC.out _ hHeld).mono ?_; rintro e v1 ⟨x1, rfl, o1, hb1⟩; obtain ⟨xa, xn, xc, rfl⟩ := o1.sh; go_wp2_with fail
  refine hK.out _ _ ?_ (fun hHeld2 => ?_)
  · exact HM.out _ _ hHeld hb1
  clear hK K hHeld
  have hHeld := hHeld2
  clear hHeld2
  try simp only [Array.reduceGetElem, Act.put, List.setIfInBounds_toArray, List.set_cons_zero, List.set_cons_succ]
  refine wpAnyH_ready (rs := [5]) (by kernel_rfl) (by simp) ?_
  refine AllReadyH.cons rfl (fun K hK => ?_) AllReadyH.nil
  go_simp
  go_at_call 73; refine (HR.out _ hHeld).mono ?_; rintro e v2 ⟨x2, hs, rfl, o2, hb2⟩; obtain ⟨ya, yn, yc, rfl⟩ := o2.sh; go_wp2_with fail
  refine hK.out _ _ ?_ (fun hHeld2 => ?_)
  · exact HM.out _ _ hHeld hb2
  clear hK K hHeld
  have hHeld := hHeld2
  clear hHeld2
  obtain ⟨p, q, HBX⟩ := hHeld.2.2.1
  obtain ⟨z0, z1, f0, f1⟩ := HBX.two
  have z1' := (World.cell?_setCell_other v2 ⟨w.heap.size + 1, 0, none⟩ ⟨w.heap.size + 1, 1, none⟩ (.slice xa xn xc) (by intro e; simp only [Addr.mk.injEq] at e; omega)).trans z1
  try simp only [Array.reduceGetElem, Act.put, List.setIfInBounds_toArray, List.set_cons_zero, List.set_cons_succ]
  refine wpAnyH_take (i := 6) (v := ?v5x) rfl (by kernel_rfl) (by kernel_rfl) (by kernel_rfl) (fun _ _ _ h => h) (Or.inl ⟨by rfl, ?hy5x⟩) hHeld ?rest5x
  case hy5x => (intro w hSw; (try dsimp only at hSw); go_simp <;> with_reducible rfl)
  try simp only [Array.reduceGetElem, Act.put, List.setIfInBounds_toArray, List.set_cons_zero, List.set_cons_succ]
  refine wpAnyH_ready (rs := [7]) (by kernel_rfl) (by simp) ?_
  refine AllReadyH.cons rfl (fun K hK => ?_) AllReadyH.nil
  go_simp
  refine hK.out _ _ ?_ (fun hHeld2 => ?_)
  · exact HP.out _ _ _ hHeld
  clear hK K hHeld
  have hHeld := hHeld2
  clear hHeld2
  try simp only [Array.reduceGetElem, Act.put, List.setIfInBounds_toArray, List.set_cons_zero, List.set_cons_succ]
  refine wpAnyH_done (by kernel_rfl) ?_ _
  go_wp2_with fail
  obtain ⟨r0, r1, _, _⟩ := ((HBX.put 0 (.slice xa xn xc)).put 1 (.slice ya yn yc)).two
  refine bodyPost_ret (by simp [results, Tryz.results43, go_sem, r0, r1]; try rfl) rfl ?_
  exact ⟨_, _, hs, rfl, OwnC.base (own_put (o1.below hb2) _ (by have := HSZ.out; have : W0.drew.heap.size = W0.heap.size := rfl; omega) _ _ _ _) (by have := HSZ.out; have : W0.drew.heap.size = W0.heap.size := rfl; omega), OwnRs.base (o2.put _ (by have := HSZ.out; have : W0.drew.heap.size = W0.heap.size := rfl; have := hb1.size; omega) _ _ _ _) (by have := HSZ.out; have : W0.drew.heap.size = W0.heap.size := rfl; have := hb1.size; omega), hHeld.2.2.2⟩
end Go.Proofs.YtfmjeggomphliaaGreatDoor.Tb

set_option linter.unusedVariables false
set_option linter.unusedSimpArgs false
namespace Go.Proofs.YtfmjeggomphliaaGreatDoor.Tb
open Go.RowKit Go Go.Sort Ba Va Sr

theorem vc_inj : ∀ {r s : List Val}, (r.map vc).flatten = (s.map vc).flatten → r = s
  | [], [], _ => rfl
  | [], y :: s, h => by simp [vc] at h
  | x :: r, [], h => by simp [vc] at h
  | x :: r, y :: s, h => by
    obtain ⟨xk, xn, xt⟩ := x
    obtain ⟨yk, yn, yt⟩ := y
    simp only [List.map_cons, List.flatten_cons, vc, List.cons_append, List.nil_append, List.cons.injEq, Value.int.injEq, Value.string.injEq, true_and] at h
    obtain ⟨rfl, rfl, rfl, h4⟩ := h
    rw [vc_inj h4]
theorem own_det {W : World} {base : Nat} {v : Value} {r s : List Val} (h : OwnR W base v r) (h' : OwnR W base v s) : r = s := by
  apply vc_inj
  rcases h.2 with ⟨e, h2⟩ | ⟨g, cap, cur, e, _, hh, _, _, _, h6⟩
  · rcases h'.2 with ⟨_, h2'⟩ | ⟨g', cap', cur', e', _⟩
    · rw [List.eq_nil_of_length_eq_zero h2, List.eq_nil_of_length_eq_zero h2']
    · rw [e] at e'; cases e'
  · rcases h'.2 with ⟨e', _⟩ | ⟨g', cap', cur', e', _, hh', _, _, _, h6'⟩
    · rw [e] at e'; cases e'
    · rw [e] at e'
      injection e' with e1 e2 e3
      injection e1 with e1
      injection e1 with e1
      subst e1
      rw [hh] at hh'
      simp only [Option.some.injEq, Obj.cells.injEq] at hh'
      rw [← h6, ← h6', hh'.1, e2]
/-- What a header leads to. -/
noncomputable def rho (W : World) (base : Nat) (rs : List (List Val)) (x : Value) : List Val := @Classical.epsilon (List Val) ⟨[]⟩ fun r => r ∈ rs ∧ OwnR W base x r
def Sx (W : World) (base : Nat) (rs : List (List Val)) (x : Value) : Prop := ∃ r, r ∈ rs ∧ OwnR W base x r
theorem rho_is {W : World} {base : Nat} {rs : List (List Val)} {x : Value} (h : Sx W base rs x) : rho W base rs x ∈ rs ∧ OwnR W base x (rho W base rs x) := Classical.epsilon_spec h
noncomputable def cfx (W : World) (base : Nat) (rs : List (List Val)) (x y : Value) : Int := cmpR (rho W base rs x) (rho W base rs y)
theorem env_of {W : World} {base g n cap : Nat} {hs : List Value} {rs : List (List Val)} (H : OwnRs W base (.slice (some ⟨g, 0, none⟩) n cap) hs rs) (br : BdRs rs) : Sr.Env W g (Sx W base rs) (cfx W base rs) := by
  refine ⟨fun W' hg x y hx hy => ?_, ?_, fun x hx => ?_⟩
  · obtain ⟨hx1, hx2⟩ := rho_is hx
    obtain ⟨hy1, hy2⟩ := rho_is hy
    exact cmpr_is rfl W' (br.row _ hx1).len (br.row _ hy1).len (OwnR.at (OwnR.grown hx2 H.row hg)) (OwnR.at (OwnR.grown hy2 H.row hg))
  · exact ⟨fun x y z _ _ _ h1 h2 => ordR.tr (rho W base rs x) (rho W base rs y) (rho W base rs z) trivial trivial trivial h1 h2, fun x y _ _ => ordR.tot (rho W base rs x) (rho W base rs y) trivial trivial, fun x y _ _ h => ordR.asy (rho W base rs x) (rho W base rs y) trivial trivial h⟩
  · obtain ⟨_, h2⟩ := rho_is hx
    exact h2.sh
theorem frozen_own {w : World} {g : Nat} {cur : Array Value} {e : TypeId} (h : w.heap[g]? = some (.cells cur e (0, 0))) (i : Nat) : w.frozen? ⟨g, i, none⟩ = false := by
  simp [World.frozen?, h]
theorem sw_of {W : World} {base g n cap : Nat} {hs : List Value} {rs : List (List Val)} (H : OwnRs W base (.slice (some ⟨g, 0, none⟩) n cap) hs rs) : SW W g hs W := by
  have hb := H.row
  refine ⟨World.grownBy.refl _ _, (hb.lt g rfl).2, fun i hi => ?_, fun i hi => ?_⟩
  · have := hb.cells (g := g) rfl i hs[i] (List.getElem?_eq_getElem hi)
    rw [Addr.add_lit, Nat.zero_add] at this
    rw [this]
    unfold Sr.at'
    rw [St.gt_of undef hi]
  · rcases hb.2 with ⟨e, _⟩ | ⟨g', cap', cur, e, _, hh, _⟩
    · cases e
    · injection e with e1 e2 e3
      injection e1 with e1
      injection e1 with e1
      subst e1
      exact frozen_own hh i
/-- Rows of the call's own, in a world that may have written them anew. -/
def Rows' (W : World) (base : Nat) (v : Value) (rs : List (List Val)) : Prop :=
  (v = .slice none 0 0 ∧ rs = []) ∨ ∃ g cap hs, v = .slice (some ⟨g, 0, none⟩) rs.length cap ∧ base ≤ g ∧ g < W.heap.size ∧ rs.length ≤ cap ∧ cap ≤ maxLen ∧ hs.length = rs.length ∧
    (∀ i, i < hs.length → W.cell? ⟨g, i, none⟩ = some (Sr.at' hs i)) ∧ ∀ (i : Nat) (h : Value) (r : List Val), hs[i]? = some h → rs[i]? = some r → OwnR W base h r
theorem Rows'.at {W : World} {base : Nat} {v : Value} {rs : List (List Val)} (h : Rows' W base v rs) : RowsAt W v rs := by
  rcases h with ⟨rfl, rfl⟩ | ⟨g, cap, hs, rfl, h1, h2, h3, h4, h5, h6, h7⟩
  · exact ⟨[], rfl, ⟨none, 0, rfl, Nat.le_refl _, by unfold maxLen; omega, fun i x hx => by simp at hx⟩, fun i h r hx => by simp at hx⟩
  · refine ⟨hs, h5, ⟨some ⟨g, 0, none⟩, cap, by rw [List.length_map, h5], by rw [List.length_map, h5]; exact h3, h4, fun i x hx => ⟨g, 0, rfl, h2, fun j hj => ?_⟩⟩, fun i h r a b => (h7 i h r a b).at⟩
    rw [List.getElem?_map] at hx
    have hi : i < hs.length := by
      apply Classical.byContradiction
      intro hn
      rw [List.getElem?_eq_none (by omega)] at hx
      cases hx
    obtain rfl : j = 0 := by omega
    rw [List.getElem?_eq_getElem hi] at hx
    simp only [Option.map_some, Option.some.injEq] at hx
    subst hx
    rw [Nat.mul_one, Nat.add_zero, Nat.zero_add, h6 i hi]
    unfold Sr.at'
    rw [St.gt_of undef hi]; rfl
theorem Rows'.put {W : World} {base : Nat} {v : Value} {rs : List (List Val)} (h : Rows' W base v rs) (B : Nat) (hB : B < base) (i j : Nat) (a b : Value) : Rows' ((W.setCell ⟨B, i, none⟩ a).setCell ⟨B, j, none⟩ b) base v rs := by
  rcases h with h | ⟨g, cap, hs, h0, h1, h2, h3, h4, h5, h6, h7⟩
  · exact .inl h
  · refine .inr ⟨g, cap, hs, h0, h1, by simpa using h2, h3, h4, h5, fun k hk => ?_, fun k x r hx hr => own_put (h7 k x r hx hr) B hB i j a b⟩
    rw [World.cell?_setCell_other _ _ _ _ (by intro e; simp only [Addr.mk.injEq] at e; omega), World.cell?_setCell_other _ _ _ _ (by intro e; simp only [Addr.mk.injEq] at e; omega)]
    exact h6 k hk
theorem Rows'.sh {W : World} {base : Nat} {v : Value} {rs : List (List Val)} (h : Rows' W base v rs) : ∃ ao n c, v = .slice ao n c := by
  rcases h with ⟨rfl, _⟩ | ⟨g, cap, hs, rfl, _⟩
  · exact ⟨_, _, _, rfl⟩
  · exact ⟨_, _, _, rfl⟩
/-- Behind the sort. -/
def SortsTo (W : World) (base : Nat) (v : Value) (rs : List (List Val)) (e : Ending) (w' : World) : Prop := e = .returned (.tuple #[]) ∧ Rows' w' base v (sortR rs) ∧ W.grownBy w' v.ownBlock
theorem sorts_is {W : World} {base : Nat} {v : Value} {hs : List Value} {rs : List (List Val)} (H : OwnRs W base v hs rs) (br : BdRs rs) :
    Calls Tryz.prog 44 #[v, .func (.func 45) #[] #[]] W (SortsTo W base v rs) := by
  rcases H.row.2 with ⟨rfl, h2⟩ | ⟨g, cap, cur, rfl, hg, hh, h3, h4, h5, h6⟩
  · have hr : rs = [] := List.eq_nil_of_length_eq_zero (by rw [← H.len]; exact h2)
    subst hr
    refine (sort_nil W).mono fun e w' ⟨he, hb⟩ => ⟨he, .inl ⟨rfl, rfl⟩, grown_of hb _⟩
  · have hl := br.len
    have hS : Sr.All (Sx W base rs) hs := fun k hk => by
      have hk2 : k < rs.length := by rw [← H.len]; exact hk
      refine ⟨rs[k], List.getElem_mem hk2, ?_⟩
      unfold Sr.at'
      rw [St.gt_of undef hk]
      exact H.at' k _ _ (List.getElem?_eq_getElem hk) (List.getElem?_eq_getElem hk2)
    refine (sort_is (env_of H br) hs hs.length cap W rfl (sw_of H) hS (by rw [H.len]; exact hl)).mono ?_
    rintro e w' ⟨he, hs', S', P', U'⟩
    have hpl := P'.length_eq
    have hS' : Sr.All (Sx W base rs) hs' := hS.perm P'
    have e1 : hs.map (rho W base rs) = rs := by
      apply List.ext_getElem (by rw [List.length_map, H.len])
      intro i h1 h2
      rw [List.length_map] at h1
      rw [List.getElem_map]
      have hx := hS i h1
      unfold Sr.at' at hx
      rw [St.gt_of undef h1] at hx
      exact own_det (rho_is hx).2 (H.at' i _ _ (List.getElem?_eq_getElem h1) (List.getElem?_eq_getElem h2))
    have hp : (hs'.map (rho W base rs)).Perm rs := by
      have := P'.map (rho W base rs)
      rwa [e1] at this
    have hup : Sorted (hs'.map (rho W base rs)) := by
      refine sorted_up (d := []) fun i j g1 g2 g3 => ?_
      rw [List.length_map] at g3
      rw [St.gt_of [] (by rw [List.length_map]; omega), St.gt_of [] (by rw [List.length_map]; omega), List.getElem_map, List.getElem_map]
      have := U' i j g1 g2 (by rw [← hpl]; exact g3)
      rw [St.gt_of undef (by omega), St.gt_of undef (by omega)] at this
      exact this
    have es := sort_of hp hup
    have hln : (sortR rs).length = hs.length := by rw [(sort_perm rs).length_eq, H.len]
    refine ⟨he, .inr ⟨g, cap, hs', by rw [hln], hg, Nat.lt_of_lt_of_le S'.gl S'.gr.size, by rw [hln]; exact h3, h4, by rw [hln, hpl], S'.cell, fun i x r hx hr => ?_⟩, S'.gr⟩
    rw [← es, List.getElem?_map, hx] at hr
    simp only [Option.map_some, Option.some.injEq] at hr
    subst hr
    have hi := (List.getElem?_eq_some_iff.1 hx).1
    have hxS := hS' i hi
    unfold Sr.at' at hxS
    rw [St.gt_of undef hi, (List.getElem?_eq_some_iff.1 hx).2] at hxS
    exact OwnR.grown (rho_is hxS).2 H.row S'.gr
end Go.Proofs.YtfmjeggomphliaaGreatDoor.Tb

set_option linter.unusedVariables false
set_option linter.unusedSimpArgs false
namespace Go.Proofs.YtfmjeggomphliaaGreatDoor.Tb
open Go.RowKit Go Go.Sort Ba Va Sr

theorem Box.kept {W W' : World} {B : Nat} {vs : List Value} {row : Option Nat} (h : Box W B vs) (hg : W.grownBy W' row) (hne : some B ≠ row) : Box W' B vs :=
  ⟨Nat.lt_of_lt_of_le h.lt hg.size, fun i v hi => (World.grownBy.cell_far hg ⟨B, i, none⟩ h.lt hne).trans (h.cl i v hi), fun i hi => (World.grownBy.frozen_far hg ⟨B, i, none⟩ h.lt hne).trans (h.fr i hi)⟩
/-- What is made: a right table, its columns these, its rows these in their order. -/
def MadeTo (w : World) (cs : List Col) (rs : List (List Val)) (e : Ending) (w' : World) : Prop :=
  ∃ x1 x2, e = .returned (.tuple #[.agg #[x1, x2], .int .i64 0]) ∧ ColsAt w' x1 cs ∧ RowsAt w' x2 (sortR rs) ∧ Below w.heap.size w w'
set_option maxHeartbeats 3200000 in
set_option maxRecDepth 100000 in
theorem make_is (sv rv : Value) (cs : List Col) (rs : List (List Val)) (w : World) (bc : BdC cs) (br : BdRs rs) (hs : ColsAt w sv cs) (hv : RowsAt w rv rs) (hE : err cs rs = 0) :
    Calls Tryz.prog 17 #[sv, rv] w (MadeTo w cs rs) := by
  obtain ⟨sa, sc, rfl, _, _⟩ := hs.len
  obtain ⟨ra, rc, rfl, _, _⟩ := hv.len
  have HS := Lib.hid hs
  have HV := Lib.hid hv
  have BR := Lib.hid br
  have BC := Lib.hid bc
  have B1 := Lib.hid (Box.new w [.slice none 0 0, .slice none 0 0] 27)
  have bw1 : Hid (Below w.heap.size w (w.alloc (.cells #[.slice none 0 0, .slice none 0 0] 27))) := (Below.refl _ _).alloc (Nat.le_refl _) _
  have HF := Lib.hid (fit_is hE (w.alloc (.cells #[.slice none 0 0, .slice none 0 0] 27)) bc br (hs.below bw1.out) (hv.below bw1.out))
  clear hs hv bc br hE
  go_enter Tryz.func17, Tryz.ntmps17
  go_wp2_with (first | (go_at_call 42; refine HF.out.mono ?_; rintro e w1 ⟨rfl, hb1⟩) | (go_at_call 43; refine (copy_is _ _ cs rs _ BC.out BR.out ((HS.out.below bw1.out).below hb1) ((HV.out.below bw1.out).below hb1)).mono ?_; rintro e w2 ⟨x1, x2, hs, rfl, o1, o2, hb2⟩; obtain ⟨xa, xn, xc, rfl⟩ := o1.sh; obtain ⟨ya, yn, yc, rfl⟩ := o2.sh) | (go_at_call 44; refine (sorts_is (o2.below ((Below.refl _ w2).alloc (Nat.le_refl _) (.cells #[.slice xa xn xc, .slice ya yn yc] 27))) BR.out).mono ?_; rintro e w3 ⟨rfl, r3, g3⟩; have n2 : some w2.heap.size ≠ (Value.slice ya yn yc).ownBlock := (fun e => by have := (o2.row.lt _ e.symm).2; omega); have n0 : some w.heap.size ≠ (Value.slice ya yn yc).ownBlock := (fun e => by have := (o2.row.lt _ e.symm).1; have := hb1.size; simp at this; omega); obtain ⟨z0, z1, _, _⟩ := (Box.kept (Box.new w2 [.slice xa xn xc, .slice ya yn yc] 27) g3 n2).two; have RB := Box.kept (((B1.out.next hb1).next hb2).alloc _) g3 n0; obtain ⟨y0, y1, f0, f1⟩ := RB.two; have y1' := (World.cell?_setCell_other w3 ⟨w.heap.size, 0, none⟩ ⟨w.heap.size, 1, none⟩ (.slice xa xn xc) (by intro e; simp only [Addr.mk.injEq] at e; omega)).trans y1))
  have hw1 : w.heap.size < w1.heap.size := by have := hb1.size; simp at this; omega
  obtain ⟨q0, q1, _, _⟩ := ((RB.put 0 (.slice xa xn xc)).put 1 (.slice ya yn yc)).two
  have o1' := own_put (World.ownsRow.kept (own_below o1 ((Below.refl _ w2).alloc (Nat.le_refl _) (.cells #[.slice xa xn xc, .slice ya yn yc] 27)) (Nat.le_refl _)) g3 (by
    cases hk : (Value.slice xa xn xc).ownBlock with
    | none => exact .inl rfl
    | some k => exact .inr fun e => own_neT o1 o2.row (by decide) k hk e.symm)) w.heap.size hw1 0 1 (.slice xa xn xc) (.slice ya yn yc)
  have r3' := r3.put w.heap.size hw1 0 1 (.slice xa xn xc) (.slice ya yn yc)
  have b2 := two (two bw1.out hb1) hb2
  have b3 := (b2.alloc b2.size (.cells #[.slice xa xn xc, .slice ya yn yc] 27)).grown g3 (by have := b2.size; simp; omega) (fun k e => by have := (o2.row.lt _ e).1; omega)
  have b4 := (b3.setCell (p := ⟨w.heap.size, 0, none⟩) (Nat.le_refl _) (.slice xa xn xc)).setCell (p := ⟨w.heap.size, 1, none⟩) (Nat.le_refl _) (.slice ya yn yc)
  refine bodyPost_ret (by simp [results, Tryz.results17, go_sem, q0, q1]; try rfl) rfl ?_
  exact ⟨_, _, rfl, OwnC.at o1', r3'.at, b4⟩
/-- What is refused. -/
theorem make_no (sv rv : Value) (cs : List Col) (rs : List (List Val)) (w : World) (E : Int) (bc : BdC cs) (br : BdRs rs) (hs : ColsAt w sv cs) (hv : RowsAt w rv rs) (hE : err cs rs = E) (h0 : E ≠ 0) :
    Calls Tryz.prog 17 #[sv, rv] w fun e w' => e = .returned (.tuple #[.agg #[.slice none 0 0, .slice none 0 0], .int .i64 E]) ∧ Below w.heap.size w w' := by
  have B1 := Lib.hid (Box.new w [.slice none 0 0, .slice none 0 0] 27)
  have bw1 : Hid (Below w.heap.size w (w.alloc (.cells #[.slice none 0 0, .slice none 0 0] 27))) := (Below.refl _ _).alloc (Nat.le_refl _) _
  have HF := Lib.hid (fit_is hE (w.alloc (.cells #[.slice none 0 0, .slice none 0 0] 27)) bc br (hs.below bw1.out) (hv.below bw1.out))
  have d0 : (E != 0) = true := by simpa using h0
  clear hs hv bc br hE h0
  go_enter Tryz.func17, Tryz.ntmps17
  go_wp2_with (go_at_call 42; refine HF.out.mono ?_; rintro e w1 ⟨rfl, hb1⟩; have RB := B1.out.next hb1; obtain ⟨y0, y1, f0, f1⟩ := RB.two; have y1' := (World.cell?_setCell_other w1 ⟨w.heap.size, 0, none⟩ ⟨w.heap.size, 1, none⟩ (.slice none 0 0) (by intro e; simp only [Addr.mk.injEq] at e; omega)).trans y1)
  obtain ⟨q0, q1, _, _⟩ := ((RB.put 0 (.slice none 0 0)).put 1 (.slice none 0 0)).two
  refine bodyPost_ret (by simp [results, Tryz.results17, go_sem, q0, q1]; try rfl) rfl ?_
  exact ⟨rfl, ((two bw1.out hb1).setCell (p := ⟨w.heap.size, 0, none⟩) (Nat.le_refl _) _).setCell (p := ⟨w.heap.size, 1, none⟩) (Nat.le_refl _) _⟩
end Go.Proofs.YtfmjeggomphliaaGreatDoor.Tb
