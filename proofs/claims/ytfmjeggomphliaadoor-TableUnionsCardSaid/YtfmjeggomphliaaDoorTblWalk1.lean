/- Walks: rows and columns in new memory. -/
import Derived.Test.YtfmjeggomphliaaDoorSrtWalk7
set_option linter.unusedVariables false
set_option linter.unusedSimpArgs false
namespace Go.Proofs.YtfmjeggomphliaaDoor.Tb
open Go.RowKit Go Go.Sort Ba Va Sr

theorem flat3 (r : List Val) : (r.map vc).flatten.length = r.length * 3 := by
  induction r with
  | nil => rfl
  | cons x r ih => rw [List.map_cons, List.flatten_cons, List.length_append, ih, List.length_cons]; show 3 + _ = _; omega
theorem flat2 (r : List Col) : (r.map cc).flatten.length = r.length * 2 := by
  induction r with
  | nil => rfl
  | cons x r ih => rw [List.map_cons, List.flatten_cons, List.length_append, ih, List.length_cons]; show 2 + _ = _; omega
theorem vc3 (r : List Val) : ∀ x ∈ r.map vc, x.length = 3 := fun x hx => by
  obtain ⟨y, _, rfl⟩ := List.mem_map.1 hx; rfl
theorem cc2 (r : List Col) : ∀ x ∈ r.map cc, x.length = 2 := fun x hx => by
  obtain ⟨y, _, rfl⟩ := List.mem_map.1 hx; rfl
/-- A place in a row, by element and cell. -/
theorem flat_get {sz : Nat} (hz : 0 < sz) (xs : List (List Value)) (hs : ∀ x ∈ xs, x.length = sz) (j : Nat) (u : Value) (h : xs.flatten[j]? = some u) : ∃ x, xs[j / sz]? = some x ∧ x[j % sz]? = some u ∧ j % sz < sz := by
  have hl : xs.flatten.length = xs.length * sz := by
    clear h
    induction xs with
    | nil => simp
    | cons x xs ih => rw [List.flatten_cons, List.length_append, ih (fun y hy => hs y (by simp [hy])), hs x (by simp), List.length_cons, Nat.succ_mul]; omega
  have hj : j < xs.length * sz := by rw [← hl]; exact (List.getElem?_eq_some_iff.1 h).1
  have hd : j / sz < xs.length := (Nat.div_lt_iff_lt_mul hz).2 hj
  have hm := Nat.mod_lt j hz
  refine ⟨xs[j / sz], List.getElem?_eq_getElem hd, ?_, hm⟩
  rw [← flat_at xs hs (j / sz) xs[j / sz] (List.getElem?_eq_getElem hd) (j % sz) hm]
  rw [show j / sz * sz + j % sz = j by rw [Nat.mul_comm]; exact Nat.div_add_mod j sz]
  exact h
theorem infoVal : (Tryd.prog.info? 62).map (fun i => (i.zero, i.size, i.bytes)) = some (some (.agg #[.int .i64 0, .int .i64 0, .string ⟨#[]⟩]), 3, 32) := by kernel_rfl
theorem infoCol : (Tryd.prog.info? 60).map (fun i => (i.zero, i.size, i.bytes)) = some (some (.agg #[.string ⟨#[]⟩, .int .i64 0]), 2, 24) := by kernel_rfl
theorem infoRow : (Tryd.prog.info? 27).map (fun i => (i.zero, i.size, i.bytes)) = some (some (.slice none 0 0), 1, 24) := by kernel_rfl
/-- A row of the call's own. -/
def OwnR (W : World) (base : Nat) (v : Value) (r : List Val) : Prop := W.ownsRow base 62 3 v r.length (r.map vc).flatten
theorem OwnR.at {W : World} {base : Nat} {v : Value} {r : List Val} (h : OwnR W base v r) : RowAt W v r :=
  SlAt.of (vc3 r) (by rw [List.length_map]; exact h)
/-- A new row with the elements of another one. -/
def Cloned (w : World) (r : List Val) (e : Ending) (w' : World) : Prop := ∃ v', e = .returned v' ∧ OwnR w' w.heap.size v' r ∧ Below w.heap.size w w'
set_option maxHeartbeats 1600000 in
theorem cloneR_is (v : Value) (r : List Val) (w : World) (hl : r.length ≤ 100000) (hv : RowAt w v r) :
    Calls Tryd.prog 65 #[v] w (Cloned w r) := by
  obtain ⟨ao, cap, rfl, hcap, _⟩ := hv.len
  have q22 : ∀ (w : World) (a : Option Addr) (n c n' c' : Nat), (binOp .eql 27 (.slice a n c) (.slice none n' c')).run Tryd.prog w = .ok (.bool a.isNone) w := fun w a n c n' c' => Lib.run_eql_slice_nil w _ _ a n c n' c' Tryd.underlying27
  cases ao with
  | none =>
    have hr : r = [] := by
      cases r with
      | nil => rfl
      | cons x r => obtain ⟨b, o, e, _⟩ := RowAt.val hv (k := 0) rfl; cases e
    subst hr
    clear hv
    go_enter Tryd.func65, Tryd.ntmps65
    go_wp2_with fail
    go_ret
    exact ⟨_, rfl, World.ownsRow_nil _ _ _ _, Below.refl _ _⟩
  | some p =>
    obtain ⟨i0, hi, hz0, hz1, hz2⟩ := info_parts infoVal
    obtain ⟨n, hn⟩ : ∃ n, r.length = n := ⟨_, rfl⟩
    have HV := Lib.hid hv
    rw [hn] at hcap hl HV ⊢
    have HN := Lib.hid hn
    clear hv hn
    go_enter Tryd.func65, Tryd.ntmps65
    go_wp2_with (at_builtin; refine wpList_append_own _ rfl _ _ 27 rfl w.heap.size 62 i0 _ 3 32 Tryd.underlying27 hi hz0 hz1 hz2 rfl (by decide) _ _ _ rfl (World.ownsRow_made w #[] 0 (Nat.le_refl _) (Nat.zero_le _) rfl) p n cap ((r.map vc).flatten) rfl ?qc1 ?qc2 ?qc3 ?qc4 ?qc5 ?qc6 ?_)
    case qc1 => rw [flat3, HN.out]
    case qc2 =>
      intro j u hj
      obtain ⟨x, hx, hxj, hm⟩ := flat_get (by decide) (r.map vc) (vc3 r) j u hj
      obtain ⟨b, o, e, hlt, hc⟩ := SlAt.cells HV.out hx
      cases e
      refine Lib.cell?_alloc_some _ ?_
      have := hc (j % 3) hm
      rw [hxj] at this
      have ej : j / 3 * 3 + j % 3 = j := by omega
      rw [ej] at this
      rw [Addr.add_lit]
      exact this
    case qc3 =>
      intro u hu
      obtain ⟨l, hl, hul⟩ := List.mem_flatten.1 hu
      obtain ⟨x, _, rfl⟩ := List.mem_map.1 hl
      simp only [vc, List.mem_cons, List.not_mem_nil, or_false] at hul
      rcases hul with rfl | rfl | rfl <;> rfl
    case qc4 => unfold maxLen; omega
    case qc5 => omega
    case qc6 => simp
    intro v' w1 hown hgrow hnil
    go_wp2_with fail
    go_ret
    refine ⟨v', rfl, ?_, ((Below.refl _ w).alloc (Nat.le_refl _) _).grown hgrow (by simp) (by intro k hk; simp [Value.ownBlock] at hk; omega)⟩
    unfold OwnR
    rw [HN.out]
    simpa using hown
/-- Columns of the call's own. -/
def OwnC (W : World) (base : Nat) (v : Value) (r : List Col) : Prop := W.ownsRow base 60 2 v r.length (r.map cc).flatten
theorem OwnC.at {W : World} {base : Nat} {v : Value} {r : List Col} (h : OwnC W base v r) : ColsAt W v r :=
  SlAt.of (cc2 r) (by rw [List.length_map]; exact h)
/-- A new row with the elements of another one. -/
def ClonedC (w : World) (r : List Col) (e : Ending) (w' : World) : Prop := ∃ v', e = .returned v' ∧ OwnC w' w.heap.size v' r ∧ Below w.heap.size w w'
set_option maxHeartbeats 1600000 in
theorem cloneC_is (v : Value) (r : List Col) (w : World) (hl : r.length ≤ 100000) (hv : ColsAt w v r) :
    Calls Tryd.prog 46 #[v] w (ClonedC w r) := by
  obtain ⟨ao, cap, rfl, hcap, _⟩ := hv.len
  have q22 : ∀ (w : World) (a : Option Addr) (n c n' c' : Nat), (binOp .eql 23 (.slice a n c) (.slice none n' c')).run Tryd.prog w = .ok (.bool a.isNone) w := fun w a n c n' c' => Lib.run_eql_slice_nil w _ _ a n c n' c' Tryd.underlying23
  cases ao with
  | none =>
    have hr : r = [] := by
      cases r with
      | nil => rfl
      | cons x r => obtain ⟨b, o, e, _⟩ := ColsAt.col hv (k := 0) rfl; cases e
    subst hr
    clear hv
    go_enter Tryd.func46, Tryd.ntmps46
    go_wp2_with fail
    go_ret
    exact ⟨_, rfl, World.ownsRow_nil _ _ _ _, Below.refl _ _⟩
  | some p =>
    obtain ⟨i0, hi, hz0, hz1, hz2⟩ := info_parts infoCol
    obtain ⟨n, hn⟩ : ∃ n, r.length = n := ⟨_, rfl⟩
    have HV := Lib.hid hv
    rw [hn] at hcap hl HV ⊢
    have HN := Lib.hid hn
    clear hv hn
    go_enter Tryd.func46, Tryd.ntmps46
    go_wp2_with (at_builtin; refine wpList_append_own _ rfl _ _ 23 rfl w.heap.size 60 i0 _ 2 24 Tryd.underlying23 hi hz0 hz1 hz2 rfl (by decide) _ _ _ rfl (World.ownsRow_made w #[] 0 (Nat.le_refl _) (Nat.zero_le _) rfl) p n cap ((r.map cc).flatten) rfl ?qc1 ?qc2 ?qc3 ?qc4 ?qc5 ?qc6 ?_)
    case qc1 => rw [flat2, HN.out]
    case qc2 =>
      intro j u hj
      obtain ⟨x, hx, hxj, hm⟩ := flat_get (by decide) (r.map cc) (cc2 r) j u hj
      obtain ⟨b, o, e, hlt, hc⟩ := SlAt.cells HV.out hx
      cases e
      refine Lib.cell?_alloc_some _ ?_
      have := hc (j % 2) hm
      rw [hxj] at this
      have ej : j / 2 * 2 + j % 2 = j := by omega
      rw [ej] at this
      rw [Addr.add_lit]
      exact this
    case qc3 =>
      intro u hu
      obtain ⟨l, hl, hul⟩ := List.mem_flatten.1 hu
      obtain ⟨x, _, rfl⟩ := List.mem_map.1 hl
      simp only [cc, List.mem_cons, List.not_mem_nil, or_false] at hul
      rcases hul with rfl | rfl <;> rfl
    case qc4 => unfold maxLen; omega
    case qc5 => omega
    case qc6 => simp
    intro v' w1 hown hgrow hnil
    go_wp2_with fail
    go_ret
    refine ⟨v', rfl, ?_, ((Below.refl _ w).alloc (Nat.le_refl _) _).grown hgrow (by simp) (by intro k hk; simp [Value.ownBlock] at hk; omega)⟩
    unfold OwnC
    rw [HN.out]
    simpa using hown
/-- Rows of the call's own, each of its own. -/
structure OwnRs (W : World) (base : Nat) (v : Value) (hs : List Value) (rs : List (List Val)) : Prop where
  len : hs.length = rs.length
  row : W.ownsRow base 27 1 v hs.length hs
  at' : ∀ (i : Nat) (h : Value) (r : List Val), hs[i]? = some h → rs[i]? = some r → OwnR W base h r
theorem own_neT {w : World} {base base' : Nat} {e e' : TypeId} {size size' : Nat} {v v' : Value} {n n' : Nat} {xs xs' : List Value} (h : w.ownsRow base e size v n xs) (h' : w.ownsRow base' e' size' v' n' xs') (hne : e ≠ e') (k : Nat) (hk : v.ownBlock = some k) : v'.ownBlock ≠ some k := by
  intro hk'
  rcases h.2 with ⟨rfl, _⟩ | ⟨g, cap, cur, rfl, hg, hh, r⟩
  · simp [Value.ownBlock] at hk
  rcases h'.2 with ⟨rfl, _⟩ | ⟨g', cap', cur', rfl, hg', hh', r'⟩
  · simp [Value.ownBlock] at hk'
  simp only [Value.ownBlock, Option.some.injEq] at hk hk'
  subst hk; subst hk'
  rw [hh] at hh'
  simp only [Option.some.injEq, Obj.cells.injEq] at hh'
  exact hne hh'.2.1
theorem OwnR.base {W : World} {base base' : Nat} {v : Value} {r : List Val} (h : OwnR W base v r) (hb : base' ≤ base) : OwnR W base' v r := by
  refine ⟨h.1, ?_⟩
  rcases h.2 with h2 | ⟨g, cap, cur, e, hg, x⟩
  · exact .inl h2
  · exact .inr ⟨g, cap, cur, e, by omega, x⟩
/-- Another row of the call's own is written: this one stays. -/
theorem OwnR.grown {W W' : World} {base base' : Nat} {v v' : Value} {r : List Val} {n : Nat} {xs : List Value} (h : OwnR W base v r) (h' : W.ownsRow base' 27 1 v' n xs) (hg : W.grownBy W' v'.ownBlock) : OwnR W' base v r :=
  own_of_block h fun k hk => hg.block k (h.lt k hk).2 (fun e => own_neT h h' (by decide) k hk e.symm)
theorem OwnR.below {W W' : World} {base : Nat} {v : Value} {r : List Val} (h : OwnR W base v r) (hb : Below W.heap.size W W') : OwnR W' base v r := own_below h hb (Nat.le_refl _)
/-- New rows, as these. -/
def Copied (w : World) (rs : List (List Val)) (e : Ending) (w' : World) : Prop := ∃ v' hs, e = .returned v' ∧ OwnRs w' w.heap.size v' hs rs ∧ Below w.heap.size w w'
theorem flat1 : ∀ hs : List Value, (hs.map fun h => [h]).flatten = hs
  | [] => rfl
  | a :: l => by rw [List.map_cons, List.flatten_cons, flat1 l]; rfl
/-- A slice value reads as these rows. -/
def RowsAt (W : World) (v : Value) (rs : List (List Val)) : Prop := ∃ hs : List Value, hs.length = rs.length ∧ SlAt W v 1 (hs.map fun h => [h]) ∧ ∀ (i : Nat) (h : Value) (r : List Val), hs[i]? = some h → rs[i]? = some r → RowAt W h r
theorem RowsAt.below {W W' : World} {v : Value} {rs : List (List Val)} (h : RowsAt W v rs) (hb : Below W.heap.size W W') : RowsAt W' v rs := by
  obtain ⟨hs, h1, h2, h3⟩ := h
  exact ⟨hs, h1, h2.below hb, fun i h r a b => (h3 i h r a b).below hb⟩
theorem RowsAt.len {W : World} {v : Value} {rs : List (List Val)} (h : RowsAt W v rs) : ∃ ao cap, v = .slice ao rs.length cap ∧ rs.length ≤ cap ∧ cap ≤ maxLen := by
  obtain ⟨hs, h1, h2, h3⟩ := h
  have := SlAt.len h2
  rwa [List.length_map, h1] at this
theorem RowsAt.row {W : World} {ao : Option Addr} {n cap k : Nat} {rs : List (List Val)} {r : List Val} (h : RowsAt W (.slice ao n cap) rs) (hr : rs[k]? = some r) :
    ∃ b o x, ao = some ⟨b, o, none⟩ ∧ b < W.heap.size ∧ W.cell? ⟨b, o + k, none⟩ = some x ∧ RowAt W x r := by
  obtain ⟨hs, h1, h2, h3⟩ := h
  have hk : k < hs.length := by rw [h1]; exact (List.getElem?_eq_some_iff.1 hr).1
  have hx : hs[k]? = some hs[k] := List.getElem?_eq_getElem hk
  obtain ⟨b, o, e, hlt, hc⟩ := SlAt.cells h2 (i := k) (x := [hs[k]]) (by rw [List.getElem?_map, hx]; rfl)
  refine ⟨b, o, hs[k], e, hlt, ?_, h3 k _ r hx hr⟩
  have := hc 0 (by decide)
  rwa [Nat.mul_one, Nat.add_zero] at this
theorem OwnRs.at {W : World} {base : Nat} {v : Value} {hs : List Value} {rs : List (List Val)} (h : OwnRs W base v hs rs) : RowsAt W v rs := by
  refine ⟨hs, h.len, SlAt.of (base := base) (e := 27) (xs := hs.map fun h => [h]) (fun x hx => ?_) ?_, fun i x r a b => (h.at' i x r a b).at⟩
  · obtain ⟨y, _, rfl⟩ := List.mem_map.1 hx; rfl
  · rw [List.length_map, flat1]
    exact h.row
end Go.Proofs.YtfmjeggomphliaaDoor.Tb
