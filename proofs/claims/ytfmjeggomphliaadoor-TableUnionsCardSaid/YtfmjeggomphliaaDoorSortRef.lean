/- Walks: the document's sort of rows; rows that are those; an empty table. -/
import Derived.Test.YtfmjeggomphliaaDoorLawWalk2
set_option linter.unusedVariables false
set_option linter.unusedSimpArgs false
namespace Go.Proofs.YtfmjeggomphliaaDoor.Tb
open Go.RowKit Go Go.Sort Ba Va Sr

theorem empty_is (w : World) : Calls Tryd.prog 26 #[.agg #[.slice none 0 0, .slice none 0 0]] w fun e w' => e = .returned (.bool true) ∧ Below w.heap.size w w' := by
  go_enter Tryd.func26, Tryd.ntmps26
  go_wp2_with fail
  go_ret
  exact ⟨rfl, by go_grown⟩
set_option maxHeartbeats 3200000 in
/-- Rows of equal length at equal places. -/
theorem same_is (v u : Value) (rs : List (List Val)) (w : World) (br : BdRs rs) (hv : RowsAt w v rs) (hu : RowsAt w u rs) :
    Calls Tryd.prog 21 #[v, u] w fun e w' => e = .returned (.bool true) ∧ Below w.heap.size w w' := by
  obtain ⟨ao, cap, rfl, hcap, _⟩ := hv.len
  obtain ⟨bo, bcap, rfl, hbcap, _⟩ := hu.len
  obtain ⟨n, hn⟩ : ∃ n, rs.length = n := ⟨_, rfl⟩
  have hl := br.len
  have HV := Lib.hid hv
  have HU := Lib.hid hu
  have BR := Lib.hid br
  rw [hn] at hcap hbcap hl HV HU ⊢
  have HN := Lib.hid hn
  clear hv hu br hn
  go_enter Tryd.func21, Tryd.ntmps21
  go_wp2_with fail
  go_loopw [13] (fun i wr => ∃ k : Nat, k ≤ n ∧ i = .int .i64 k ∧ Hid (Below w.heap.size w wr)) (fun i _ => n - (intOf i).toNat)
  case atStart => exact ⟨0, Nat.zero_le _, rfl, Below.refl _ _⟩
  case round =>
    obtain ⟨k, hk, rfl, BW⟩ := hrel
    by_cases hlt : k < n
    · obtain ⟨r, hr⟩ : ∃ r, rs[k]? = some r := ⟨_, List.getElem?_eq_getElem (by rw [HN.out]; exact hlt)⟩
      obtain ⟨b1, o1, x, rfl, g1, hc, hx⟩ := RowsAt.row HV.out hr
      obtain ⟨b2, o2, y, rfl, g2, hd, hy⟩ := RowsAt.row HU.out hr
      replace hc := (BW.out.cell (by exact g1)).trans hc
      replace hd := (BW.out.cell (by exact g2)).trans hd
      obtain ⟨xa, xc, rfl, _, _⟩ := hx.len
      obtain ⟨ya, yc, rfl, _, _⟩ := hy.len
      have hbr := BR.out.row r (List.mem_of_getElem? hr)
      have cA := qcall (P := Tryd.prog) (w := wr) fun W' hb' => refCmpR_is ((cmpR_zero r r).2 rfl) W' hbr hbr ((hx.below BW.out).below hb') ((hy.below BW.out).below hb')
      obtain ⟨m, hm⟩ : ∃ m, r.length = m := ⟨_, rfl⟩
      rw [hm] at hc hd cA
      have m0 := cell_regrown hc
      have m1 := cell_regrown hd
      have hbk : (k : Int) < (n : Int) := by omega
      clear hr hx hy hbr hm hc hd
      go_wp2_with fail
      refine wp_region_quiet_below (by kernel_rfl) (by kernel_rfl) ?_
      repeat (go_big_quiet_step (with_reducible (first | exact cA _ _)))
      refine wpQuiet_nil ?_
      intro _ hw'
      obtain ⟨⟨dq1, os1⟩, hw''⟩ := hw'
      subst hw''
      have bw2 := two BW.out (below_regrown wr dq1 os1)
      clear m0 m1 cA
      go_wp2_with fail
      go_roundw
      case rel => exact ⟨k + 1, by omega, by go_num, bw2⟩
      case measure => simp [intOf]; omega
    · go_wp2_with fail
      go_ret
      exact ⟨rfl, BW.out⟩
theorem put_len (r : List Val) : ∀ l, (insR r l).length = l.length + 1
  | [] => rfl
  | o :: l => by unfold insR; split <;> simp [put_len r l]
theorem fold_len : ∀ (rs out : List (List Val)), (rs.foldl (fun out r => insR r out) out).length = rs.length + out.length
  | [], out => by simp
  | r :: rs, out => by rw [List.foldl_cons, fold_len, put_len, List.length_cons]; omega
theorem sortR_snoc (rs : List (List Val)) (k : Nat) (r : List Val) (h : rs[k]? = some r) : sortR (rs.take (k + 1)) = insR r (sortR (rs.take k)) := by
  rw [take_one rs k r h]
  unfold sortR
  rw [List.foldl_append]; rfl
theorem sortR_len (rs : List (List Val)) : (sortR rs).length = rs.length := (sort_perm rs).length_eq
/-- In the midst of putting r into out: those up to k have been gone through. -/
def Mid (r : List Val) (out : List (List Val)) (k : Nat) (put : Bool) (nx : List (List Val)) : Prop :=
  (put = false ∧ nx = out.take k ∧ insR r out = out.take k ++ insR r (out.drop k)) ∨ (put = true ∧ nx ++ out.drop k = insR r out)
theorem mid_start (r : List Val) (out : List (List Val)) : Mid r out 0 false [] := .inl ⟨rfl, rfl, rfl⟩
theorem drop_at {α : Type} {l : List α} {k : Nat} {x : α} (h : l[k]? = some x) : l.drop k = x :: l.drop (k + 1) := by
  obtain ⟨h1, e⟩ := List.getElem?_eq_some_iff.1 h
  rw [List.drop_eq_getElem_cons h1, e]
theorem mid_put {r : List Val} {out nx : List (List Val)} {k : Nat} {x : List Val} (h : Mid r out k false nx) (hx : out[k]? = some x) (hc : cmpR r x < 0) : Mid r out (k + 1) true (nx ++ [r] ++ [x]) := by
  rcases h with ⟨_, rfl, h⟩ | ⟨h, _⟩
  · refine .inr ⟨rfl, ?_⟩
    rw [h, drop_at hx]
    unfold insR
    rw [if_pos hc]
    simp
  · cases h
theorem mid_pass {r : List Val} {out nx : List (List Val)} {k : Nat} {x : List Val} (h : Mid r out k false nx) (hx : out[k]? = some x) (hc : ¬ cmpR r x < 0) : Mid r out (k + 1) false (nx ++ [x]) := by
  rcases h with ⟨_, rfl, h⟩ | ⟨h, _⟩
  · refine .inl ⟨rfl, (take_one out k x hx).symm, ?_⟩
    rw [h, drop_at hx]
    conv => lhs; unfold insR
    rw [if_neg hc, take_one out k x hx]
    simp
  · cases h
theorem mid_done {r : List Val} {out nx : List (List Val)} {k : Nat} {x : List Val} (h : Mid r out k true nx) (hx : out[k]? = some x) : Mid r out (k + 1) true (nx ++ [x]) := by
  rcases h with ⟨h, _⟩ | ⟨_, h⟩
  · cases h
  · refine .inr ⟨rfl, ?_⟩
    rw [← h, drop_at hx]; simp
theorem mid_end0 {r : List Val} {out nx : List (List Val)} (h : Mid r out out.length false nx) : nx ++ [r] = insR r out := by
  rcases h with ⟨_, rfl, h⟩ | ⟨h, _⟩
  · rw [h, List.take_length, List.drop_length]; rfl
  · cases h
theorem mid_end1 {r : List Val} {out nx : List (List Val)} (h : Mid r out out.length true nx) : nx = insR r out := by
  rcases h with ⟨h, _⟩ | ⟨_, h⟩
  · cases h
  · rw [List.drop_length, List.append_nil] at h; exact h
theorem mid_len {r : List Val} {out nx : List (List Val)} {k : Nat} {q : Bool} (h : Mid r out k q nx) (hk : k ≤ out.length) : nx.length ≤ out.length + 1 := by
  rcases h with ⟨_, rfl, _⟩ | ⟨_, h⟩
  · rw [List.length_take]; omega
  · have := congrArg List.length h
    rw [List.length_append, put_len] at this
    omega
/-- Headers of the call's own that read, in a first world, as these rows; the rows lie in old memory. -/
structure Hd (w W : World) (base : Nat) (v : Value) (hs : List Value) (rs : List (List Val)) : Prop where
  len : hs.length = rs.length
  row : W.ownsRow base 35 1 v hs.length hs
  at' : ∀ (i : Nat) (h : Value) (r : List Val), hs[i]? = some h → rs[i]? = some r → RowAt w h r
theorem Hd.nil (w W : World) (base : Nat) : Hd w W base (.slice none 0 0) [] [] := ⟨rfl, World.ownsRow_nil _ _ _ _, fun i h r hx => by simp at hx⟩
theorem Hd.at {w W : World} {base : Nat} {v : Value} {hs : List Value} {rs : List (List Val)} (h : Hd w W base v hs rs) (hb : Below w.heap.size w W) : RowsAt W v rs := by
  refine ⟨hs, h.len, SlAt.of (base := base) (e := 35) (xs := hs.map fun h => [h]) (fun x hx => ?_) ?_, fun i x r a b => (h.at' i x r a b).below hb⟩
  · obtain ⟨y, _, rfl⟩ := List.mem_map.1 hx; rfl
  · rw [List.length_map, flat1]
    exact h.row
theorem Hd.below {w W W' : World} {base : Nat} {v : Value} {hs : List Value} {rs : List (List Val)} (H : Hd w W base v hs rs) (hb : Below W.heap.size W W') : Hd w W' base v hs rs := ⟨H.len, own_below H.row hb (Nat.le_refl _), H.at'⟩
theorem Hd.base {w W : World} {base base' : Nat} {v : Value} {hs : List Value} {rs : List (List Val)} (H : Hd w W base v hs rs) (hb : base' ≤ base) : Hd w W base' v hs rs := by
  refine ⟨H.len, ⟨H.row.1, ?_⟩, H.at'⟩
  rcases H.row.2 with h2 | ⟨g, cap, cur, e, hg, x⟩
  · exact .inl h2
  · exact .inr ⟨g, cap, cur, e, by omega, x⟩
/-- Another row of the call's own has grown. -/
theorem Hd.other {w W W' : World} {base : Nat} {v u : Value} {hs : List Value} {rs : List (List Val)} (H : Hd w W base v hs rs) (hg : W.grownBy W' u.ownBlock) (hne : ∀ k, v.ownBlock = some k → u.ownBlock ≠ some k) : Hd w W' base v hs rs :=
  ⟨H.len, own_of_block H.row fun k hk => hg.block k (H.row.lt k hk).2 (fun e => hne k hk e.symm), H.at'⟩
theorem Hd.snoc {w W' : World} {base : Nat} {W : World} {v v' h : Value} {hs : List Value} {rs : List (List Val)} {r : List Val} (H : Hd w W base v hs rs) (hh : RowAt w h r) (hrow : W'.ownsRow base 35 1 v' (hs ++ [h]).length (hs ++ [h])) : Hd w W' base v' (hs ++ [h]) (rs ++ [r]) := by
  refine ⟨by rw [List.length_append, List.length_append, H.len]; rfl, hrow, fun i x y hx hy => ?_⟩
  rcases get_snoc _ _ _ _ hx with ⟨i1, e1⟩ | ⟨i1, rfl⟩
  · rcases get_snoc _ _ _ _ hy with ⟨i2, e2⟩ | ⟨i2, rfl⟩
    · exact H.at' i x y e1 e2
    · have := H.len; omega
  · rcases get_snoc _ _ _ _ hy with ⟨i2, e2⟩ | ⟨i2, rfl⟩
    · have := H.len; omega
    · exact hh
theorem Hd.cells {w W : World} {base k : Nat} {v h : Value} {hs : List Value} {rs : List (List Val)} (H : Hd w W base v hs rs) (hk : hs[k]? = some h) : ∃ b c, v = .slice (some ⟨b, 0, none⟩) hs.length c ∧ b < W.heap.size ∧ W.cell? ⟨b, k, none⟩ = some h := by
  rcases H.row.2 with ⟨rfl, h2⟩ | ⟨g, cap, cur, rfl, hg, hh, h3, h4, h5, h6⟩
  · have := (List.getElem?_eq_some_iff.1 hk).1; omega
  · have hi := (List.getElem?_eq_some_iff.1 hk).1
    refine ⟨g, cap, rfl, (H.row.lt g rfl).2, ?_⟩
    rw [H.row.cellAt k (by omega)]
    exact hk
theorem Hd.cell {w W : World} {base k b n c : Nat} {h : Value} {hs : List Value} {rs : List (List Val)} (H : Hd w W base (.slice (some ⟨b, 0, none⟩) n c) hs rs) (hk : hs[k]? = some h) : W.cell? ⟨b, k, none⟩ = some h := by
  obtain ⟨b', c', e, _, h2⟩ := H.cells hk
  injection e with e1
  injection e1 with e1
  injection e1 with e1
  rw [e1]; exact h2
theorem Hd.row' {w W : World} {base : Nat} {v : Value} {hs : List Value} {rs : List (List Val)} (H : Hd w W base v hs rs) : ∃ ao c, v = .slice ao rs.length c ∧ hs.length ≤ c ∧ c ≤ maxLen := by
  rw [← H.len]
  rcases H.row.2 with ⟨rfl, h2⟩ | ⟨g, cap, cur, rfl, hg, hh, h3, h4, h5, h6⟩
  · exact ⟨none, 0, by rw [h2], by omega, by unfold maxLen; omega⟩
  · exact ⟨_, cap, rfl, h3, h4⟩
end Go.Proofs.YtfmjeggomphliaaDoor.Tb
