/- Walks: what the statements themselves reckon: small tables, the document's forms of them, the error of a table. -/
import Derived.Test.YtfmjeggomphliaaGreatDoorRefWalk2
set_option linter.unusedVariables false
set_option linter.unusedSimpArgs false
namespace Go.Proofs.YtfmjeggomphliaaGreatDoor.Tb
open Go.RowKit Go Go.Sort Ba Va Sr

def OwnV (W : World) (base : Nat) (v : Value) (r : List Val) : Prop := W.ownsRow base 70 3 v r.length (r.map vc).flatten
theorem OwnV.at {W : World} {base : Nat} {v : Value} {r : List Val} (h : OwnV W base v r) : RowAt W v r :=
  SlAt.of (vc3 r) (by rw [List.length_map]; exact h)
theorem OwnV.base {W : World} {base base' : Nat} {v : Value} {r : List Val} (h : OwnV W base v r) (hb : base' ≤ base) : OwnV W base' v r := by
  refine ⟨h.1, ?_⟩
  rcases h.2 with h2 | ⟨g, cap, cur, e, hg, x⟩
  · exact .inl h2
  · exact .inr ⟨g, cap, cur, e, by omega, x⟩
theorem OwnV.grown {W W' : World} {base base' : Nat} {v v' : Value} {r : List Val} {n : Nat} {xs : List Value} (h : OwnV W base v r) (h' : W.ownsRow base' 68 1 v' n xs) (hg : W.grownBy W' v'.ownBlock) : OwnV W' base v r :=
  own_of_block h fun k hk => hg.block k (h.lt k hk).2 (fun e => own_neT h h' (by decide) k hk e.symm)
theorem OwnV.below {W W' : World} {base : Nat} {v : Value} {r : List Val} (h : OwnV W base v r) (hb : Below W.heap.size W W') : OwnV W' base v r := own_below h hb (Nat.le_refl _)
structure OwnVs (W : World) (base : Nat) (v : Value) (hs : List Value) (rs : List (List Val)) : Prop where
  len : hs.length = rs.length
  row : W.ownsRow base 68 1 v hs.length hs
  at' : ∀ (i : Nat) (h : Value) (r : List Val), hs[i]? = some h → rs[i]? = some r → OwnV W base h r
theorem OwnVs.at {W : World} {base : Nat} {v : Value} {hs : List Value} {rs : List (List Val)} (h : OwnVs W base v hs rs) : RowsAt W v rs := by
  refine ⟨hs, h.len, SlAt.of (base := base) (e := 68) (xs := hs.map fun h => [h]) (fun x hx => ?_) ?_, fun i x r a b => (h.at' i x r a b).at⟩
  · obtain ⟨y, _, rfl⟩ := List.mem_map.1 hx; rfl
  · rw [List.length_map, flat1]
    exact h.row
theorem OwnV.one {W : World} {base : Nat} {v : Value} {r : List Val} (h : OwnV W base v r) : v.oneCell' = true := by
  rcases h.2 with ⟨rfl, _⟩ | ⟨g, cap, cur, rfl, _⟩ <;> rfl
theorem OwnV.sh {W : World} {base : Nat} {v : Value} {r : List Val} (h : OwnV W base v r) : ∃ ao n c, v = .slice ao n c := by
  rcases h.2 with ⟨rfl, _⟩ | ⟨g, cap, cur, rfl, _⟩
  · exact ⟨_, _, _, rfl⟩
  · exact ⟨_, _, _, rfl⟩
theorem OwnVs.snoc {W W' : World} {base : Nat} {v v' h : Value} {hs : List Value} {rs : List (List Val)} {r : List Val} (H : OwnVs W base v hs rs) (hh : OwnV W base h r) (hg : W.grownBy W' v.ownBlock) (hrow : W'.ownsRow base 68 1 v' (hs ++ [h]).length (hs ++ [h])) : OwnVs W' base v' (hs ++ [h]) (rs ++ [r]) := by
  refine ⟨by rw [List.length_append, List.length_append, H.len]; rfl, hrow, fun i x y hx hy => ?_⟩
  rcases get_snoc _ _ _ _ hx with ⟨i1, e1⟩ | ⟨i1, rfl⟩
  · rcases get_snoc _ _ _ _ hy with ⟨i2, e2⟩ | ⟨i2, rfl⟩
    · exact (H.at' i x y e1 e2).grown H.row hg
    · have := H.len; omega
  · rcases get_snoc _ _ _ _ hy with ⟨i2, e2⟩ | ⟨i2, rfl⟩
    · have := H.len; omega
    · exact hh.grown H.row hg
theorem OwnVs.below {W W' : World} {base : Nat} {v : Value} {hs : List Value} {rs : List (List Val)} (H : OwnVs W base v hs rs) (hb : Below W.heap.size W W') : OwnVs W' base v hs rs :=
  ⟨H.len, own_below H.row hb (Nat.le_refl _), fun i x y hx hy => (H.at' i x y hx hy).below hb⟩
/-- 'append(out, y)', out a row of the call's own, of things of some cells. -/
theorem app_cells {P : Program} {ops : Array Oper} {rest : List Oper} {o : Oper} {a : Act} {Q : Exit → Act → World → Prop} {w : World} (hgd : o.guard = none) (s x : Operand) (t e : TypeId)
    (ho : o.op = .call { callee := .builtin .append, args := #[s, x], argTypes := #[t, t] }) {i : TypeInfo} {z : Value} {B sz : Nat} (ht : P.underlying t = some (.slice e)) (hi : P.info? e = some i) (hz : i.zero = some z) (hzs : z.cells.size = sz) (hsize : i.size = sz) (hby : i.bytes = B) (hB : B ≤ 100) (h0 : 0 < sz)
    (base : Nat) (v : Value) (xs : List (List Value)) (y : List Value) (hyl : y.length = sz) (hy : ∀ u ∈ y, u.oneCell' = true) (hs : a.eval s = v) (hown : w.ownsRow base e sz v xs.length xs.flatten) (H : Nat) (hH : w.heap.size = H) (hx : a.eval x = .slice (some ⟨H, 0, none⟩) 1 1)
    (hlen : xs.length + 1 ≤ 1000000) (hbase : base ≤ w.heap.size)
    (h : ∀ v' w', w'.ownsRow base e sz v' (xs ++ [y]).length (xs ++ [y]).flatten → w.grownBy w' v.ownBlock → wpList P ops Q rest (a.put o.dst v') w') :
    wpList P ops Q (o :: rest) a (w.alloc (.cells y.toArray e)) := by
  subst hH
  refine wpList_append_own (w.alloc (.cells y.toArray e)) hgd s x t ho base e i z sz B ht hi hz hsize hby hzs h0 v xs.length xs.flatten hs (hown.alloc _) ⟨w.heap.size, 0, none⟩ 1 1 y hx (by omega) ?_ hy ?_ ?_ ?_ ?_
  · intro j u hj
    rw [Addr.add_lit, Nat.zero_add, World.cell?_alloc_at _ _ _ _ rfl]
    simpa using hj
  · unfold maxLen; omega
  · have : (xs.length + 1) * B ≤ 1000000 * 100 := Nat.mul_le_mul hlen hB
    omega
  · simp only [World.size_alloc]; omega
  · intro v' w' h1 h2 _
    refine h v' w' ?_ ⟨h2.os, h2.tape, h2.output, ?_, fun k hk hne => ?_⟩
    · rw [List.length_append, List.flatten_append, List.flatten_singleton]; exact h1
    · have := h2.size; simp only [World.size_alloc] at this; omega
    · rw [h2.block k (by simp only [World.size_alloc]; omega) hne, Below.heap_alloc w _ k hk]
theorem infoRV : (Tryz.prog.info? 70).map (fun i => (i.zero, i.size, i.bytes)) = some (some (.agg #[.int .i64 0, .int .i64 0, .string ⟨#[]⟩]), 3, 32) := by kernel_rfl
theorem infoRC : (Tryz.prog.info? 71).map (fun i => (i.zero, i.size, i.bytes)) = some (some (.agg #[.string ⟨#[]⟩, .int .i64 0]), 2, 24) := by kernel_rfl
theorem infoRR : (Tryz.prog.info? 68).map (fun i => (i.zero, i.size, i.bytes)) = some (some (.slice none 0 0), 1, 24) := by kernel_rfl
/-- The document's form of columns. -/
def RefC (w : World) (cs : List Col) (e : Ending) (w' : World) : Prop := ∃ v', e = .returned v' ∧ ColsAt w' v' cs ∧ Below w.heap.size w w'
def RefR (w : World) (r : List Val) (e : Ending) (w' : World) : Prop := ∃ v', e = .returned v' ∧ OwnV w' w.heap.size v' r ∧ Below w.heap.size w w'
def RefRs (w : World) (rs : List (List Val)) (e : Ending) (w' : World) : Prop := ∃ v', e = .returned v' ∧ RowsAt w' v' rs ∧ Below w.heap.size w w'
set_option maxHeartbeats 1600000 in
set_option maxRecDepth 100000 in
theorem refSchema_is (v : Value) (cs : List Col) (w : World) (hl : cs.length ≤ 10000) (hv : ColsAt w v cs) :
    Calls Tryz.prog 10 #[v] w (RefC w cs) := by
  obtain ⟨ao, cap, rfl, hcap, _⟩ := hv.len
  obtain ⟨i0, hi, hz0, hz1, hz2⟩ := info_parts infoRC
  obtain ⟨n, hn⟩ : ∃ n, cs.length = n := ⟨_, rfl⟩
  have HV := Lib.hid hv
  rw [hn] at hcap hl HV ⊢
  have HN := Lib.hid hn
  clear hv hn
  go_enter Tryz.func10, Tryz.ntmps10
  go_wp2_with fail
  go_loopw [3, 8] (fun out i wr => ∃ k : Nat, k ≤ n ∧ i = .int .i64 k ∧ Hid (wr.ownsRow w.heap.size 71 2 out ((cs.take k).map cc).length ((cs.take k).map cc).flatten) ∧ Hid (Below w.heap.size w wr)) (fun out i _ => n - (intOf i).toNat)
  case atStart => exact ⟨0, Nat.zero_le _, rfl, World.ownsRow_nil _ _ _ _, Below.refl _ _⟩
  case round =>
    obtain ⟨k, hk, rfl, HO, BW⟩ := hrel
    by_cases hlt : k < n
    · obtain ⟨c, hc⟩ : ∃ c, cs[k]? = some c := ⟨_, List.getElem?_eq_getElem (by rw [HN.out]; exact hlt)⟩
      obtain ⟨b, o, rfl, hb, x0, x1⟩ := ColsAt.col HV.out hc
      replace x0 := (BW.out.cell (by exact hb)).trans x0
      replace x1 := (BW.out.cell (by exact hb)).trans x1
      obtain ⟨S, hS⟩ : ∃ S, c.name = S := ⟨_, rfl⟩
      obtain ⟨T, hT⟩ : ∃ T, c.ty = T := ⟨_, rfl⟩
      have hsn : ((cs.take (k + 1)).map cc) = ((cs.take k).map cc) ++ [[.string S, .int .i64 T]] := by rw [take_one cs k c hc, List.map_append]; simp [cc, hS, hT]
      have hln : ((cs.take k).map cc).length = k := by rw [List.length_map, List.length_take, HN.out]; omega
      rw [hS] at x0
      rw [hT] at x1
      have HSN := Lib.hid hsn
      have HLN := Lib.hid hln
      have bw1 : Hid (Below w.heap.size w (wr.alloc (.cells #[.string S, .int .i64 T] 45))) := BW.out.alloc BW.out.size _
      have own1 := Lib.hid (HO.out.alloc (.cells #[.string S, .int .i64 T] 45))
      clear hc hS hT hsn hln
      go_wp2_with (at_builtin; refine app_cells rfl _ _ 34 71 rfl Tryz.underlying34 hi hz0 rfl hz1 hz2 (by decide) (by decide) w.heap.size u3 ((cs.take k).map cc) [.string S, .int .i64 T] rfl (by intro u hu; simp at hu; rcases hu with rfl | rfl <;> rfl) rfl own1.out (wr.heap.size + 1) (by simp) rfl (by have := HLN.out; omega) bw1.out.size ?_; intro v2 w2 hown2 hgrow2)
      have bw2 := bw1.out.grown hgrow2 bw1.out.size (fun j e => (own1.out.lt j e).1)
      go_roundw
      case rel => exact ⟨k + 1, by omega, by go_num, (by rw [HSN.out]; exact hown2 : w2.ownsRow _ _ _ _ _ _), bw2⟩
      case measure => simp [intOf]; omega
    · obtain rfl : k = n := by omega
      have hO := HO.out
      rw [← HN.out, List.take_length] at hO
      have HCA := Lib.hid (SlAt.of (cc2 cs) hO)
      clear hO
      go_wp2_with fail
      go_ret
      exact ⟨_, rfl, HCA.out, BW.out⟩
set_option maxHeartbeats 1600000 in
set_option maxRecDepth 100000 in
theorem refRow_is (v : Value) (r : List Val) (w : World) (hl : r.length ≤ 10000) (hv : RowAt w v r) :
    Calls Tryz.prog 31 #[v] w (RefR w r) := by
  obtain ⟨ao, cap, rfl, hcap, _⟩ := hv.len
  obtain ⟨i0, hi, hz0, hz1, hz2⟩ := info_parts infoRV
  obtain ⟨n, hn⟩ : ∃ n, r.length = n := ⟨_, rfl⟩
  have HV := Lib.hid hv
  rw [hn] at hcap hl HV ⊢
  have HN := Lib.hid hn
  clear hv hn
  go_enter Tryz.func31, Tryz.ntmps31
  go_wp2_with fail
  go_loopw [3, 8] (fun out i wr => ∃ k : Nat, k ≤ n ∧ i = .int .i64 k ∧ Hid (wr.ownsRow w.heap.size 70 3 out ((r.take k).map vc).length ((r.take k).map vc).flatten) ∧ Hid (Below w.heap.size w wr)) (fun out i _ => n - (intOf i).toNat)
  case atStart => exact ⟨0, Nat.zero_le _, rfl, World.ownsRow_nil _ _ _ _, Below.refl _ _⟩
  case round =>
    obtain ⟨k, hk, rfl, HO, BW⟩ := hrel
    by_cases hlt : k < n
    · obtain ⟨x, hx⟩ : ∃ x, r[k]? = some x := ⟨_, List.getElem?_eq_getElem (by rw [HN.out]; exact hlt)⟩
      obtain ⟨b, o, rfl, hb, y0, y1, y2⟩ := RowAt.val HV.out hx
      replace y0 := (BW.out.cell (by exact hb)).trans y0
      replace y1 := (BW.out.cell (by exact hb)).trans y1
      replace y2 := (BW.out.cell (by exact hb)).trans y2
      obtain ⟨xk, hxk⟩ : ∃ q, x.k = q := ⟨_, rfl⟩
      obtain ⟨xn, hxn⟩ : ∃ q, x.n = q := ⟨_, rfl⟩
      obtain ⟨xt, hxt⟩ : ∃ q, x.t = q := ⟨_, rfl⟩
      have hsn : ((r.take (k + 1)).map vc) = ((r.take k).map vc) ++ [[.int .i64 xk, .int .i64 xn, .string xt]] := by rw [take_one r k x hx, List.map_append]; simp [vc, hxk, hxn, hxt]
      have hln : ((r.take k).map vc).length = k := by rw [List.length_map, List.length_take, HN.out]; omega
      rw [hxk] at y0
      rw [hxn] at y1
      rw [hxt] at y2
      have HSN := Lib.hid hsn
      have HLN := Lib.hid hln
      have bw1 : Hid (Below w.heap.size w (wr.alloc (.cells #[.int .i64 xk, .int .i64 xn, .string xt] 47))) := BW.out.alloc BW.out.size _
      have own1 := Lib.hid (HO.out.alloc (.cells #[.int .i64 xk, .int .i64 xn, .string xt] 47))
      clear hx hxk hxn hxt hsn hln
      go_wp2_with (at_builtin; refine app_cells rfl _ _ 68 70 rfl Tryz.underlying68 hi hz0 rfl hz1 hz2 (by decide) (by decide) w.heap.size u3 ((r.take k).map vc) [.int .i64 xk, .int .i64 xn, .string xt] rfl (by intro u hu; simp at hu; rcases hu with rfl | rfl | rfl <;> rfl) rfl own1.out (wr.heap.size + 1) (by simp) rfl (by have := HLN.out; omega) bw1.out.size ?_; intro v2 w2 hown2 hgrow2)
      have bw2 := bw1.out.grown hgrow2 bw1.out.size (fun j e => (own1.out.lt j e).1)
      go_roundw
      case rel => exact ⟨k + 1, by omega, by go_num, (by rw [HSN.out]; exact hown2 : w2.ownsRow _ _ _ _ _ _), bw2⟩
      case measure => simp [intOf]; omega
    · obtain rfl : k = n := by omega
      have hO := HO.out
      rw [← HN.out, List.take_length, List.length_map] at hO
      have HCA : Hid (OwnV wr w.heap.size u3 r) := hO
      clear hO
      go_wp2_with fail
      go_ret
      exact ⟨_, rfl, HCA.out, BW.out⟩
set_option maxHeartbeats 1600000 in
set_option maxRecDepth 100000 in
theorem refRows_is (v : Value) (rs : List (List Val)) (w : World) (br : BdRs rs) (hv : RowsAt w v rs) :
    Calls Tryz.prog 11 #[v] w (RefRs w rs) := by
  obtain ⟨ao, cap, rfl, hcap, _⟩ := hv.len
  obtain ⟨i0, hi, hz0, hz1, hz2⟩ := info_parts infoRR
  obtain ⟨n, hn⟩ : ∃ n, rs.length = n := ⟨_, rfl⟩
  have hl := br.len
  have HV := Lib.hid hv
  have BR := Lib.hid br
  rw [hn] at hcap hl HV ⊢
  have HN := Lib.hid hn
  clear hv hn br
  go_enter Tryz.func11, Tryz.ntmps11
  go_wp2_with fail
  go_loopw [3, 8] (fun out i wr => ∃ (k : Nat) (hs : List Value), k ≤ n ∧ i = .int .i64 k ∧ Hid (OwnVs wr w.heap.size out hs (rs.take k)) ∧ Hid (Below w.heap.size w wr)) (fun out i _ => n - (intOf i).toNat)
  case atStart => exact ⟨0, [], Nat.zero_le _, rfl, (⟨rfl, World.ownsRow_nil _ _ _ _, fun i h r hx => by simp at hx⟩ : OwnVs w w.heap.size (.slice none 0 0) [] []), Below.refl _ _⟩
  case round =>
    obtain ⟨k, hs, hk, rfl, HO, BW⟩ := hrel
    by_cases hlt : k < n
    · obtain ⟨r, hr⟩ : ∃ r, rs[k]? = some r := ⟨_, List.getElem?_eq_getElem (by rw [HN.out]; exact hlt)⟩
      obtain ⟨b, o, x, rfl, hb, hc, hx⟩ := RowsAt.row HV.out hr
      replace hc := (BW.out.cell (by exact hb)).trans hc
      have HC := Lib.hid (refRow_is x r wr (by have := (BR.out.row r (List.mem_of_getElem? hr)).len; omega) (hx.below BW.out))
      have HR := Lib.hid hr
      have hlen : Hid (hs.length = k) := by have := HO.out.len; rw [List.length_take, HN.out] at this; show _ = _; omega
      clear hr hx
      go_wp2_with (first | (go_at_call 31; refine HC.out.mono ?_; rintro e w1 ⟨v1, rfl, o1, hb1⟩; obtain ⟨a1, n1, c1, rfl⟩ := o1.sh) | (at_builtin; refine app_one rfl _ _ 36 68 rfl Tryz.underlying36 hi hz0 rfl hz1 hz2 (by decide) w.heap.size u3 hs _ o1.one rfl (HO.out.below hb1).row rfl (by have := hlen.out; omega) (by have := BW.out.size; have := hb1.size; omega) ?_; intro v2 w2 hown2 hgrow2))
      have o1' := o1.base BW.out.size
      have S2 := (HO.out.below hb1).snoc o1' hgrow2 hown2
      have bw2 := (two BW.out hb1).grown hgrow2 (two BW.out hb1).size (fun j hj => ((HO.out.below hb1).row.lt j hj).1)
      go_roundw
      case rel => exact ⟨k + 1, _, by omega, by go_num, (by rw [take_one rs k r HR.out]; exact S2 : OwnVs _ _ _ _ (rs.take (k + 1))), bw2⟩
      case measure => simp [intOf]; omega
    · obtain rfl : k = n := by omega
      go_wp2_with fail
      go_ret
      refine ⟨_, rfl, ?_, BW.out⟩
      have := HO.out
      rw [← HN.out, List.take_length] at this
      exact this.at
set_option maxHeartbeats 3200000 in
set_option maxRecDepth 100000 in
theorem right3_is {sv v : Value} {cs : List Col} {rs : List (List Val)} {E : Int} (hE : errT cs rs = E) (w : World) (bc : BdC cs) (br : BdRs rs) (hs : ColsAt w sv cs) (hv : RowsAt w v rs) :
    Calls Tryz.prog 8 #[.agg #[sv, v]] w fun e w' => e = .returned (.int .i64 E) ∧ Below w.heap.size w w' := by
  obtain ⟨F, hF⟩ : ∃ F, err cs rs = F := ⟨_, rfl⟩
  unfold errT at hE
  rw [hF] at hE
  obtain ⟨sao, scap, rfl, _, _⟩ := hs.len
  obtain ⟨ao, cap, rfl, _, _⟩ := hv.len
  have BR := Lib.hid br
  have BC := Lib.hid bc
  have HEE := Lib.hid hF
  have B1 := Box.new w [.slice sao cs.length scap, .slice ao rs.length cap] 27
  have bw1 : Hid (Below w.heap.size w (w.alloc (.cells #[.slice sao cs.length scap, .slice ao rs.length cap] 27))) := (Below.refl _ _).alloc (Nat.le_refl _) _
  have HA : Hid (∀ W, Below w.heap.size w W → Calls Tryz.prog 10 #[.slice sao cs.length scap] W (RefC W cs)) := fun W hb => refSchema_is _ cs W (by have := bc.len; omega) (hs.below hb)
  have HB : Hid (∀ W, Below w.heap.size w W → Calls Tryz.prog 11 #[.slice ao rs.length cap] W (RefRs W rs)) := fun W hb => refRows_is _ rs W br (hv.below hb)
  have HM : Hid (∀ W W', (W.cell? ⟨w.heap.size, 0, none⟩ = some (.slice sao cs.length scap) ∧ W.cell? ⟨w.heap.size, 1, none⟩ = some (.slice ao rs.length cap) ∧ Below w.heap.size w W) → Below W.heap.size W W' → W'.cell? ⟨w.heap.size, 0, none⟩ = some (.slice sao cs.length scap) ∧ W'.cell? ⟨w.heap.size, 1, none⟩ = some (.slice ao rs.length cap) ∧ Below w.heap.size w W') := fun W W' h hb => ⟨(hb.cell (by exact lt_of_cell h.1)).trans h.1, (hb.cell (by exact lt_of_cell h.2.1)).trans h.2.1, two h.2.2 hb⟩
  clear hs hv bc br hF
  go_enter Tryz.func8, Tryz.ntmps8
  go_wp2_with fail
  obtain ⟨z0, z1, _, _⟩ := B1.two
  clear B1
  generalize w.alloc (.cells #[.slice sao cs.length scap, .slice ao rs.length cap] 27) = W0 at *
  refine wp_region_held_drew (S := fun W => W.cell? ⟨w.heap.size, 0, none⟩ = some (.slice sao cs.length scap) ∧ W.cell? ⟨w.heap.size, 1, none⟩ = some (.slice ao rs.length cap) ∧ Below w.heap.size w W) (by kernel_rfl) (by exact ⟨z0, z1, Below.drew bw1.out⟩) (fun hHeld => ?_)
  refine wpAnyH_take (i := 0) (v := ?v1x) rfl (by kernel_rfl) (by kernel_rfl) (by kernel_rfl) (fun _ _ _ h => h) (Or.inl ⟨by rfl, ?hy1x⟩) hHeld ?rest1x
  case hy1x => (intro w hSw; (try dsimp only at hSw); go_simp <;> with_reducible rfl)
  try simp only [Array.reduceGetElem, Act.put, List.setIfInBounds_toArray, List.set_cons_zero, List.set_cons_succ]
  refine wpAnyH_take (i := 1) (v := ?v2x) rfl (by kernel_rfl) (by kernel_rfl) (by kernel_rfl) (fun _ _ _ h => h) (Or.inl ⟨by rfl, ?hy2x⟩) hHeld ?rest2x
  case hy2x => (intro w hSw; (try dsimp only at hSw); go_simp <;> with_reducible rfl)
  try simp only [Array.reduceGetElem, Act.put, List.setIfInBounds_toArray, List.set_cons_zero, List.set_cons_succ]
  refine wpAnyH_take (i := 3) (v := ?v3x) rfl (by kernel_rfl) (by kernel_rfl) (by kernel_rfl) (fun _ _ _ h => h) (Or.inl ⟨by rfl, ?hy3x⟩) hHeld ?rest3x
  case hy3x => (intro w hSw; (try dsimp only at hSw); go_simp <;> with_reducible rfl)
  try simp only [Array.reduceGetElem, Act.put, List.setIfInBounds_toArray, List.set_cons_zero, List.set_cons_succ]
  refine wpAnyH_take (i := 4) (v := ?v4x) rfl (by kernel_rfl) (by kernel_rfl) (by kernel_rfl) (fun _ _ _ h => h) (Or.inl ⟨by rfl, ?hy4x⟩) hHeld ?rest4x
  case hy4x => (intro w hSw; (try dsimp only at hSw); go_simp <;> with_reducible rfl)
  try simp only [Array.reduceGetElem, Act.put, List.setIfInBounds_toArray, List.set_cons_zero, List.set_cons_succ]
  refine wpAnyH_ready (rs := [2]) (by kernel_rfl) (by simp) ?_
  refine AllReadyH.cons rfl (fun K hK => ?_) AllReadyH.nil
  go_simp
  go_at_call 10; refine (HA.out _ hHeld.2.2).mono ?_; rintro e v1 ⟨x1, rfl, o1, hb1⟩; obtain ⟨xa, xc, rfl, _, _⟩ := o1.len; go_wp2_with fail
  refine hK.out _ _ ?_ (fun hHeld2 => ?_)
  · exact HM.out _ _ hHeld hb1
  clear hK K hHeld
  have hHeld := hHeld2
  clear hHeld2
  try simp only [Array.reduceGetElem, Act.put, List.setIfInBounds_toArray, List.set_cons_zero, List.set_cons_succ]
  refine wpAnyH_ready (rs := [5]) (by kernel_rfl) (by simp) ?_
  refine AllReadyH.cons rfl (fun K hK => ?_) AllReadyH.nil
  go_simp
  go_at_call 11; refine (HB.out _ hHeld.2.2).mono ?_; rintro e v2 ⟨x2, rfl, o2, hb2⟩; obtain ⟨ya, yc, rfl, _, _⟩ := o2.len; go_wp2_with fail
  refine hK.out _ _ ?_ (fun hHeld2 => ?_)
  · exact HM.out _ _ hHeld hb2
  clear hK K hHeld
  have hHeld := hHeld2
  clear hHeld2
  try simp only [Array.reduceGetElem, Act.put, List.setIfInBounds_toArray, List.set_cons_zero, List.set_cons_succ]
  refine wpAnyH_ready (rs := [6]) (by kernel_rfl) (by simp) ?_
  refine AllReadyH.cons rfl (fun K hK => ?_) AllReadyH.nil
  go_simp
  go_at_call 27; refine (ref3Check_is HEE.out _ BC.out BR.out (o1.below hb2) o2).mono ?_; rintro e v3 ⟨rfl, hb3⟩; go_wp2_with fail
  refine hK.out _ _ ?_ (fun hHeld2 => ?_)
  · exact HM.out _ _ hHeld hb3
  clear hK K hHeld
  have hHeld := hHeld2
  clear hHeld2
  try simp only [Array.reduceGetElem, Act.put, List.setIfInBounds_toArray, List.set_cons_zero, List.set_cons_succ]
  refine wpAnyH_take (i := 7) (v := ?v5x) rfl (by kernel_rfl) (by kernel_rfl) (by kernel_rfl) (fun _ _ _ h => h) (Or.inl ⟨by rfl, ?hy5x⟩) hHeld ?rest5x
  case hy5x => (intro w hSw; (try dsimp only at hSw); go_simp <;> with_reducible rfl)
  try simp only [Array.reduceGetElem, Act.put, List.setIfInBounds_toArray, List.set_cons_zero, List.set_cons_succ]
  refine wpAnyH_done (by kernel_rfl) ?_ _
  obtain ⟨y0, y1, b3⟩ := hHeld
  have HB3 := Lib.hid b3
  clear b3 o1 o2 hb1 hb2 hb3 z0 z1
  by_cases f0 : F = 0
  · subst f0
    rw [if_neg (by simp)] at hE
    obtain ⟨q, hq⟩ : ∃ q, srt rs = q := ⟨_, rfl⟩
    rw [hq] at hE
    have HQ := Lib.hid hq
    have HEQ := Lib.hid hE
    clear hq hE
    cases q with
    | true =>
      have HR : Hid (E = 0) := by show E = 0; rw [← HEQ.out]; rfl
      go_wp2_with (first | (go_at_call 11; refine (HB.out _ HB3.out).mono ?_; rintro e v4 ⟨x4, rfl, o4, hb4⟩; obtain ⟨qa, qc, rfl, _, _⟩ := o4.len) | (go_at_call 28; refine (refSorted_is _ rs _ HQ.out _ BR.out o4).mono ?_; rintro e v5 ⟨rfl, hb5⟩))
      go_ret
      exact ⟨by rw [HR.out]; rfl, two (two HB3.out hb4) hb5⟩
    | false =>
      have HR : Hid (E = 20) := by show E = 20; rw [← HEQ.out]; rfl
      go_wp2_with (first | (go_at_call 11; refine (HB.out _ HB3.out).mono ?_; rintro e v4 ⟨x4, rfl, o4, hb4⟩; obtain ⟨qa, qc, rfl, _, _⟩ := o4.len) | (go_at_call 28; refine (refSorted_is _ rs _ HQ.out _ BR.out o4).mono ?_; rintro e v5 ⟨rfl, hb5⟩))
      go_ret
      exact ⟨by rw [HR.out]; rfl, two (two HB3.out hb4) hb5⟩
  · rw [if_pos f0] at hE
    subst hE
    have d0 : (F == 0) = false := by simpa using f0
    clear f0
    go_wp2_with fail
    go_ret
    exact ⟨rfl, HB3.out⟩
end Go.Proofs.YtfmjeggomphliaaGreatDoor.Tb
