/- Walks: rows in new memory, all of them. -/
import Derived.Test.YtfmjeggomphliaaDoorTblWalk1
set_option linter.unusedVariables false
set_option linter.unusedSimpArgs false
namespace Go.Proofs.YtfmjeggomphliaaDoor.Tb
open Go.RowKit Go Go.Sort Ba Va Sr

/-- 'append(out, y)', out a row of the call's own, of things of one cell. -/
theorem app_one {P : Program} {ops : Array Oper} {rest : List Oper} {o : Oper} {a : Act} {Q : Exit → Act → World → Prop} {w : World} (hgd : o.guard = none) (s x : Operand) (t e : TypeId)
    (ho : o.op = .call { callee := .builtin .append, args := #[s, x], argTypes := #[t, t] }) {i : TypeInfo} {z : Value} {B : Nat} (ht : P.underlying t = some (.slice e)) (hi : P.info? e = some i) (hz : i.zero = some z) (hzs : z.cells.size = 1) (hsize : i.size = 1) (hby : i.bytes = B) (hB : B ≤ 100)
    (base : Nat) (v : Value) (xs : List Value) (y : Value) (hy : y.oneCell' = true) (hs : a.eval s = v) (hown : w.ownsRow base e 1 v xs.length xs) (hx : a.eval x = .slice (some ⟨w.heap.size, 0, none⟩) 1 1)
    (hlen : xs.length + 1 ≤ 1000000) (hbase : base ≤ w.heap.size)
    (h : ∀ v' w', w'.ownsRow base e 1 v' (xs ++ [y]).length (xs ++ [y]) → w.grownBy w' v.ownBlock → wpList P ops Q rest (a.put o.dst v') w') :
    wpList P ops Q (o :: rest) a (w.alloc (.cells #[y] e)) := by
  refine wpList_append_own (w.alloc (.cells #[y] e)) hgd s x t ho base e i z 1 B ht hi hz hsize hby hzs (by decide) v xs.length xs hs (hown.alloc _) ⟨w.heap.size, 0, none⟩ 1 1 [y] hx rfl ?_ ?_ ?_ ?_ ?_ ?_
  · intro j u hj
    match j, hj with
    | 0, hj => simp at hj; subst hj; simp [Addr.add]
  · intro u hu; simp at hu; subst hu; exact hy
  · unfold maxLen; omega
  · have : (xs.length + 1) * B ≤ 1000000 * 100 := Nat.mul_le_mul hlen hB
    omega
  · simp only [World.size_alloc]; omega
  · intro v' w' h1 h2 _
    refine h v' w' ?_ ⟨h2.os, h2.tape, h2.output, ?_, fun k hk hne => ?_⟩
    · rw [List.length_append]; exact h1
    · have := h2.size; simp only [World.size_alloc] at this; omega
    · rw [h2.block k (by simp only [World.size_alloc]; omega) hne, Below.heap_alloc w _ k hk]
theorem OwnR.one {W : World} {base : Nat} {v : Value} {r : List Val} (h : OwnR W base v r) : v.oneCell' = true := by
  rcases h.2 with ⟨rfl, _⟩ | ⟨g, cap, cur, rfl, _⟩ <;> rfl
theorem OwnR.sh {W : World} {base : Nat} {v : Value} {r : List Val} (h : OwnR W base v r) : ∃ ao n c, v = .slice ao n c := by
  rcases h.2 with ⟨rfl, _⟩ | ⟨g, cap, cur, rfl, _⟩
  · exact ⟨_, _, _, rfl⟩
  · exact ⟨_, _, _, rfl⟩
theorem get_snoc {α : Type} (l : List α) (x : α) (i : Nat) (y : α) (h : (l ++ [x])[i]? = some y) : (i < l.length ∧ l[i]? = some y) ∨ (i = l.length ∧ y = x) := by
  by_cases hi : i < l.length
  · exact .inl ⟨hi, by rwa [List.getElem?_append_left hi] at h⟩
  · rw [List.getElem?_append_right (by omega)] at h
    have : i - l.length = 0 := by
      have := (List.getElem?_eq_some_iff.1 h).1
      simp at this; omega
    rw [this] at h
    simp at h
    exact .inr ⟨by omega, h.symm⟩
theorem OwnRs.snoc {W W' : World} {base : Nat} {v v' h : Value} {hs : List Value} {rs : List (List Val)} {r : List Val} (H : OwnRs W base v hs rs) (hh : OwnR W base h r) (hg : W.grownBy W' v.ownBlock) (hrow : W'.ownsRow base 27 1 v' (hs ++ [h]).length (hs ++ [h])) : OwnRs W' base v' (hs ++ [h]) (rs ++ [r]) := by
  refine ⟨by rw [List.length_append, List.length_append, H.len]; rfl, hrow, fun i x y hx hy => ?_⟩
  rcases get_snoc _ _ _ _ hx with ⟨i1, e1⟩ | ⟨i1, rfl⟩
  · rcases get_snoc _ _ _ _ hy with ⟨i2, e2⟩ | ⟨i2, rfl⟩
    · exact (H.at' i x y e1 e2).grown H.row hg
    · have := H.len; omega
  · rcases get_snoc _ _ _ _ hy with ⟨i2, e2⟩ | ⟨i2, rfl⟩
    · have := H.len; omega
    · exact hh.grown H.row hg
theorem OwnRs.below {W W' : World} {base : Nat} {v : Value} {hs : List Value} {rs : List (List Val)} (H : OwnRs W base v hs rs) (hb : Below W.heap.size W W') : OwnRs W' base v hs rs :=
  ⟨H.len, own_below H.row hb (Nat.le_refl _), fun i x y hx hy => (H.at' i x y hx hy).below hb⟩
set_option maxHeartbeats 1600000 in
set_option maxRecDepth 100000 in
theorem copied_is (v : Value) (rs : List (List Val)) (w : World) (hl : rs.length ≤ 10000) (hlr : ∀ r ∈ rs, r.length ≤ 10000) (hv : RowsAt w v rs) :
    Calls Tryd.prog 47 #[v] w (Copied w rs) := by
  obtain ⟨ao, cap, rfl, hcap, _⟩ := hv.len
  obtain ⟨i0, hi, hz0, hz1, hz2⟩ := info_parts infoRow
  obtain ⟨n, hn⟩ : ∃ n, rs.length = n := ⟨_, rfl⟩
  have HV := Lib.hid hv
  rw [hn] at hcap hl HV ⊢
  have HN := Lib.hid hn
  have HLR := Lib.hid hlr
  clear hv hn hlr
  go_enter Tryd.func47, Tryd.ntmps47
  go_wp2_with fail
  go_loopw [3, 8] (fun out i wr => ∃ (k : Nat) (hs : List Value), k ≤ n ∧ i = .int .i64 k ∧ Hid (OwnRs wr w.heap.size out hs (rs.take k)) ∧ Hid (Below w.heap.size w wr)) (fun out i _ => n - (intOf i).toNat)
  case atStart => exact ⟨0, [], Nat.zero_le _, rfl, (⟨rfl, World.ownsRow_nil _ _ _ _, fun i h r hx => by simp at hx⟩ : OwnRs w w.heap.size (.slice none 0 0) [] []), Below.refl _ _⟩
  case round =>
    obtain ⟨k, hs, hk, rfl, HO, BW⟩ := hrel
    by_cases hlt : k < n
    · obtain ⟨r, hr⟩ : ∃ r, rs[k]? = some r := ⟨_, List.getElem?_eq_getElem (by rw [HN.out]; exact hlt)⟩
      obtain ⟨b, o, x, rfl, hb, hc, hx⟩ := RowsAt.row HV.out hr
      replace hc := (BW.out.cell (by exact hb)).trans hc
      have HC := Lib.hid (cloneR_is x r wr (by have := HLR.out r (List.mem_of_getElem? hr); omega) (hx.below ⟨BW.out.os, BW.out.tape, BW.out.output, BW.out.size, BW.out.block⟩))
      have HR := Lib.hid hr
      have hlen : Hid (hs.length = k) := by have := HO.out.len; rw [List.length_take, HN.out] at this; show _ = _; omega
      clear hr hx
      go_wp2_with (first | (go_at_call 65; refine HC.out.mono ?_; rintro e w1 ⟨v1, rfl, o1, hb1⟩; obtain ⟨a1, n1, c1, rfl⟩ := o1.sh) | (at_builtin; refine app_one rfl _ _ 24 27 rfl Tryd.underlying24 hi hz0 rfl hz1 hz2 (by decide) w.heap.size u3 hs _ o1.one rfl (HO.out.below hb1).row rfl (by have := hlen.out; omega) (by have := BW.out.size; have := hb1.size; omega) ?_; intro v2 w2 hown2 hgrow2))
      have o1' := o1.base BW.out.size
      have S2 := (HO.out.below hb1).snoc o1' hgrow2 hown2
      have bw2 := (two BW.out hb1).grown hgrow2 (two BW.out hb1).size (fun j hj => ((HO.out.below hb1).row.lt j hj).1)
      go_roundw
      case rel => exact ⟨k + 1, _, by omega, by go_num, (by rw [take_one rs k r HR.out]; exact S2 : OwnRs _ _ _ _ (rs.take (k + 1))), bw2⟩
      case measure => simp [intOf]; omega
    · obtain rfl : k = n := by omega
      go_wp2_with fail
      go_ret
      refine ⟨_, hs, rfl, ?_, BW.out⟩
      have := HO.out
      rw [← HN.out, List.take_length] at this
      exact this
end Go.Proofs.YtfmjeggomphliaaDoor.Tb
