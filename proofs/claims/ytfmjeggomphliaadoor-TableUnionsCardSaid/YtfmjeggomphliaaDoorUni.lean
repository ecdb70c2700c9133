/- TableUnions: whatever the input, the call returns true, and each argument reads behind it as before: the law's card, out of its walk. Conditions: the listed package variables hold what the program's text lays in them (tied); Go's own sizes. -/
import Derived.Test.YtfmjeggomphliaaDoorHdr
import Derived.Test.YtfmjeggomphliaaDoorHeld
import Derived.Lib.AppendZeros
import Derived.Laws.OwnMore
import Derived.Deep.AppendLies
import Derived.Test.YtfmjeggomphliaaDoorSortWalk
import Derived.Test.YtfmjeggomphliaaDoorTabEnv
import Derived.Test.YtfmjeggomphliaaDoorTabFrame2
import Derived.Test.YtfmjeggomphliaaDoorFrame
set_option linter.unusedVariables false
set_option linter.unusedSimpArgs false
namespace Go.Proofs.YtfmjeggomphliaaDoor.Tb
open Go.RowKit Go Go.Sort Ba Va Sr

theorem append_nil_src {P : Program} {w : World} {base : Nat} {t ty e : TypeId} {i : TypeInfo} {size : Nat} (ht : P.underlying t = some (.slice e)) (hi : P.info? e = some i) {v : Value} {n : Nat} {xs : List Value} (hown : w.ownsRow base e size v n xs) (c : Nat) :
    (Builtin.append_ #[t, t] ty #[v, .slice none 0 c]).run P w = .ok v w := by
  rcases hown.2 with ⟨rfl, rfl⟩ | ⟨g, cap, cur, rfl, _, _, hnc, _⟩
  · simp [Builtin.append_, run_underlying ht, sizeOf, typeInfo, hi, Builtin.lenOf, Builtin.firstCells]
  · simp [Builtin.append_, run_underlying ht, sizeOf, typeInfo, hi, Builtin.lenOf, Builtin.firstCells, hnc, storeCells]
set_option maxRecDepth 10000 in
/-- Headers appended out of a slice of rows that reads, nil or not. -/
theorem run_app_rows {w w0 : World} {t ty e : TypeId} {i : TypeInfo} (ht : Tryd.prog.underlying t = some (.slice e)) (hi : Tryd.prog.info? e = some i) (hz : i.zero = some (.slice none 0 0)) (hsize : i.size = 1) (hby : i.bytes = 24)
    {base : Nat} {v : Value} {hs : List Value} {rs : List (List Val)} (H : Hg e w0 w base v hs rs) {u : Value} {us : List (List Val)} (hu : RowsAt w0 u us) (hb : Below w0.heap.size w0 w) (hl : rs.length + us.length ≤ 10000) (hbase : base ≤ w.heap.size) :
    ∃ v' w' gs, (Builtin.append_ #[t, t] ty #[v, u]).run Tryd.prog w = .ok v' w' ∧ Hg e w0 w' base v' (hs ++ gs) (rs ++ us) ∧ w.grownBy w' v.ownBlock := by
  obtain ⟨gs, g1, g2, g3⟩ := hu
  have hlen := H.len
  obtain ⟨ao, cap, rfl, hc, hm⟩ := g2.len
  rw [List.length_map]
  cases ao with
  | none =>
    have h0 : gs = [] := by
      cases gs with
      | nil => rfl
      | cons x l =>
        obtain ⟨b, o, e', _⟩ := SlAt.cells g2 (i := 0) (x := [x]) rfl
        cases e'
    subst h0
    have hu0 : us = [] := List.length_eq_zero_iff.1 (by rw [← g1]; rfl)
    subst hu0
    exact ⟨v, w, [], append_nil_src ht hi H.row _, by rw [List.append_nil, List.append_nil]; exact H, World.grownBy.refl _ _⟩
  | some ad =>
    obtain ⟨v', w', h1, h2, h3, _⟩ := run_append_own (P := Tryd.prog) w base t ty e i (.slice none 0 0) 1 24 ht hi hz hsize hby rfl (by decide) v hs.length hs H.row ad gs.length cap gs (by simp) (fun j x hx => by
      obtain ⟨b, o, e', hlt, hcc⟩ := SlAt.cells g2 (i := j) (x := [x]) (by rw [List.getElem?_map, hx]; rfl)
      obtain rfl := Option.some.inj e'
      have := hcc 0 (by decide)
      rw [Nat.mul_one, Nat.add_zero] at this
      rw [Addr.add_lit]
      exact (hb.cell (by exact hlt)).trans this) (fun x hx => by
      obtain ⟨j, hj, ej⟩ := List.mem_iff_getElem.1 hx
      exact (g3 j x (us[j]'(by omega)) (by rw [List.getElem?_eq_getElem hj, ej]) (List.getElem?_eq_getElem (by omega))).one) (by unfold maxLen; omega) (by omega) hbase
    refine ⟨v', w', gs, h1, ⟨by simp [hlen, g1], by rw [List.length_append]; exact h2, fun j x r hx hr => ?_⟩, h3⟩
    rw [List.getElem?_append] at hx hr
    by_cases hj : j < hs.length
    · rw [if_pos hj] at hx
      rw [if_pos (by omega)] at hr
      exact H.at' j x r hx hr
    · rw [if_neg hj] at hx
      rw [if_neg (by omega), ← hlen] at hr
      exact g3 _ x r hx hr
theorem wpList_app_rows {ops : Array Oper} {rest : List Oper} {o : Oper} {a : Act} {Q : Exit → Act → World → Prop} {w w0 : World} (hgd : o.guard = none) (s x : Operand) (t e : TypeId) (ho : o.op = .call { callee := .builtin .append, args := #[s, x], argTypes := #[t, t] })
    {i : TypeInfo} (ht : Tryd.prog.underlying t = some (.slice e)) (hi : Tryd.prog.info? e = some i) (hz : i.zero = some (.slice none 0 0)) (hsize : i.size = 1) (hby : i.bytes = 24)
    (base : Nat) (v : Value) (hs : List Value) (rs : List (List Val)) (hv : a.eval s = v) (H : Hg e w0 w base v hs rs) (u : Value) (us : List (List Val)) (hx : a.eval x = u) (hu : RowsAt w0 u us) (hb : Below w0.heap.size w0 w) (hl : rs.length + us.length ≤ 10000) (hbase : base ≤ w.heap.size)
    (h : ∀ v' w' gs, Hg e w0 w' base v' (hs ++ gs) (rs ++ us) → w.grownBy w' v.ownBlock → wpList Tryd.prog ops Q rest (a.put o.dst v') w') : wpList Tryd.prog ops Q (o :: rest) a w := by
  obtain ⟨v', w', gs, h1, h2, h3⟩ := run_app_rows (ty := o.type) ht hi hz hsize hby H hu hb hl hbase
  exact Lib.wpList_append_run w hgd s x t t ho v u hv hx v' w' h1 (h v' w' gs h2 h3)
theorem wp_app_rows {o : Oper} {a : Act} {K : Act → World → Prop} {Q : Exit → Act → World → Prop} {w w0 : World} (s x : Operand) (t e : TypeId) (ho : o.op = .call { callee := .builtin .append, args := #[s, x], argTypes := #[t, t] })
    {i : TypeInfo} (ht : Tryd.prog.underlying t = some (.slice e)) (hi : Tryd.prog.info? e = some i) (hz : i.zero = some (.slice none 0 0)) (hsize : i.size = 1) (hby : i.bytes = 24)
    (base : Nat) (v : Value) (hs : List Value) (rs : List (List Val)) (hv : a.eval s = v) (H : Hg e w0 w base v hs rs) (u : Value) (us : List (List Val)) (hx : a.eval x = u) (hu : RowsAt w0 u us) (hb : Below w0.heap.size w0 w) (hl : rs.length + us.length ≤ 10000) (hbase : base ≤ w.heap.size)
    (h : ∀ v' w' gs, Hg e w0 w' base v' (hs ++ gs) (rs ++ us) → w.grownBy w' v.ownBlock → K (a.put o.dst v') w') : o.wp Tryd.prog a w K Q := by
  obtain ⟨v', w', gs, h1, h2, h3⟩ := run_app_rows (ty := o.type) ht hi hz hsize hby H hu hb hl hbase
  exact Lib.wp_append_run w s x t t ho v u hv hx v' w' h1 (h v' w' gs h2 h3)

def Room (w : World) (e : Ending) (w' : World) : Prop := ∃ ao c, e = .returned (.slice ao 0 c) ∧ w'.ownsRow w.heap.size 27 1 (.slice ao 0 c) 0 [] ∧ Below w.heap.size w w'
set_option maxHeartbeats 800000 in
theorem grow_is (n : Nat) (w : World) (hn : n ≤ 10000) :
    Calls Tryd.prog 70 #[.slice none 0 0, .int .i64 n] w (Room w) := by
  by_cases h0 : n = 0
  · subst h0
    go_enter Tryd.func70, Tryd.ntmps70
    go_wp2
    go_ret
    exact ⟨none, 0, rfl, World.ownsRow_nil _ _ _ _, Below.refl _ _⟩
  · obtain ⟨i0, hi, hz0, hz1, hz2⟩ := info_parts infoRow
    have hr : ∀ ty, (Builtin.append_ #[24, 3] ty #[.slice none 0 0, .int .i64 n]).run Tryd.prog w = _ := fun ty => Lib.run_append_nil_zeros w 24 3 ty 27 i0 (.slice none 0 0) .i64 .i64 Tryd.underlying24 Tryd.underlying3 hi hz0 n (by omega) (by omega) (by omega) (by rw [hz2]; omega)
    have hge := grownCap_ge w n 0 27
    have hcm : grownCap w n 0 27 ≤ maxLen := grownCap_le_maxLen w n 0 27 (by unfold maxLen; omega)
    have hsz : ((Builtin.zeroCells (Value.slice none 0 0).cells n ++ Builtin.zeroCells (Value.slice none 0 0).cells (grownCap w n 0 27 - n))).size = grownCap w n 0 27 * 1 := by
      rw [Array.size_append, size_zeroCells, size_zeroCells]
      show n * 1 + (grownCap w n 0 27 - n) * 1 = _
      omega
    generalize grownCap w n 0 27 = G at *
    generalize Builtin.zeroCells (Value.slice none 0 0).cells n ++ Builtin.zeroCells (Value.slice none 0 0).cells (G - n) = C at *
    have HZ := Lib.hid hsz
    have hG : G ≤ 9223372036854775807 := by unfold maxLen at hcm; omega
    have HM := Lib.hid hcm
    have g1 : ¬ ((n : Int) < 0) := by omega
    have g2 : (n : Int) > 0 := by omega
    clear hsz hcm hi hz0 hz1 hz2
    go_enter Tryd.func70, Tryd.ntmps70
    go_wp2_with (at_builtin; refine Lib.wpList_append_run _ rfl _ _ _ _ rfl _ _ rfl rfl _ _ (hr _) ?_)
    go_ret
    exact ⟨some ⟨w.heap.size, 0, none⟩, G, rfl, (World.ownsRow_made w.drew C G (Nat.le_refl _) HM.out HZ.out : (w.drew.alloc (.cells C 27)).ownsRow w.heap.size _ _ _ _ _), (Below.drew (Below.refl _ _)).alloc (Nat.le_refl _) _⟩

def Catted (w : World) (rs : List (List Val)) (e : Ending) (w' : World) : Prop := ∃ ao n c, e = .returned (.slice ao n c) ∧ RowsAt w' (.slice ao n c) rs ∧ Below w.heap.size w w'
set_option maxHeartbeats 1600000 in
set_option maxRecDepth 100000 in
theorem concat_is (B : Nat) (va vb : Value) (a b : List (List Val)) (w : World) (hB : Box w B [va, vb]) (ha : RowsAt w va a) (hb : RowsAt w vb b) (la : a.length ≤ 4096) (lb : b.length ≤ 4096) :
    Calls Tryd.prog 52 #[.slice (some ⟨B, 0, none⟩) 2 2] w (Catted w (a ++ b)) := by
  obtain ⟨aa, ca, rfl, _, _⟩ := ha.len
  obtain ⟨ab, cb, rfl, _, _⟩ := hb.len
  obtain ⟨i0, hi, hz0, hz1, hz2⟩ := info_parts infoRow
  obtain ⟨n, hn⟩ : ∃ n, a.length = n := ⟨_, rfl⟩
  obtain ⟨m, hm⟩ : ∃ m, b.length = m := ⟨_, rfl⟩
  rw [hn] at ha hB la
  rw [hm] at hb hB lb
  have HN := Lib.hid hn
  have HMM := Lib.hid hm
  have HB := Lib.hid hB
  have HA := Lib.hid ha
  have HBR := Lib.hid hb
  obtain ⟨z0, z1, _, _⟩ := hB.two
  clear hn hm hB ha hb
  have s1 : ¬ ((n : Int) < 0) := by omega
  have s2 : ¬ ((n : Int) + m < 0) := by omega
  have HG : Hid (Calls Tryd.prog 70 #[.slice none 0 0, .int .i64 ((n : Int) + m)] w (Room w)) := by
    have := grow_is (n + m) w (by omega)
    rw [Int.natCast_add] at this
    exact this
  go_enter Tryd.func52, Tryd.ntmps52
  go_wp2_with fail
  refine wp_loop_rounds 3 ?_
  rw [rounds_succ]
  go_wp2_with fail
  rw [rounds_succ]
  go_wp2_with fail
  rw [rounds_succ]
  go_wp2_with (go_at_call 70; refine HG.out.mono ?_; rintro e w1 ⟨ga, gc, rfl, hown1, hb1⟩)
  refine wp_loop_rounds 3 ?_
  rw [rounds_succ]
  have H1 := Lib.hid (Hg.mk (T := 27) (w := w) (W := w1) (base := w.heap.size) (hs := []) (rs := []) rfl hown1 (fun i h r hx => by simp at hx))
  have z0' := (hb1.cell (by exact lt_of_cell z0)).trans z0
  go_wp2_with (at_builtin; refine wpList_app_rows rfl _ _ 24 27 rfl Tryd.underlying24 hi hz0 hz1 hz2 w.heap.size _ [] [] rfl H1.out _ a rfl HA.out hb1 (by have := HN.out; simp; omega) hb1.size ?_; intro v2 w2 gs H2 g2)
  have bw2 := hb1.grown g2 hb1.size (fun k e => (H1.out.row.lt k e).1)
  have z1' := (bw2.cell (by exact lt_of_cell z1)).trans z1
  have H2' := Lib.hid H2
  clear z0 z0' z1 H2 g2 H1 hown1
  rw [rounds_succ]
  go_wp2_with (at_builtin; refine wpList_app_rows rfl _ _ 24 27 rfl Tryd.underlying24 hi hz0 hz1 hz2 w.heap.size _ _ _ rfl H2'.out _ b rfl HBR.out bw2 (by have h1 := HN.out; have h2 := HMM.out; simp; omega) bw2.size ?_; intro v3 w3 gs3 H3 g3)
  have bw3 := bw2.grown g3 bw2.size (fun k e => (H2'.out.row.lt k e).1)
  obtain ⟨ea, ec, rfl, _, _⟩ := H3.row'
  have H3' := Lib.hid H3
  clear z1' H3 g3
  rw [rounds_succ]
  go_wp2_with fail
  go_ret
  exact ⟨_, _, _, rfl, H3'.out.at bw3, bw3⟩
end Go.Proofs.YtfmjeggomphliaaDoor.Tb

set_option linter.unusedVariables false
set_option linter.unusedSimpArgs false
namespace Go.Proofs.YtfmjeggomphliaaDoor.Tb
open Go.RowKit Go Go.Sort Ba Va Sr

/-- What is made lies in memory of the call's own. -/
def MadeOwn (w : World) (cs : List Col) (rs : List (List Val)) (e : Ending) (w' : World) : Prop :=
  ∃ base a1 n1 c1 a2 n2 c2, w.heap.size ≤ base ∧ e = .returned (.tuple #[.agg #[.slice a1 n1 c1, .slice a2 n2 c2], .int .i64 0]) ∧ OwnC w' base (.slice a1 n1 c1) cs ∧ Rows' w' base (.slice a2 n2 c2) (sortR rs) ∧ Below w.heap.size w w'
set_option maxHeartbeats 3200000 in
set_option maxRecDepth 100000 in
theorem make_own (sv rv : Value) (cs : List Col) (rs : List (List Val)) (w : World) (bc : BdC cs) (br : BdRs rs) (hs : ColsAt w sv cs) (hv : RowsAt w rv rs) (hE : err cs rs = 0) :
    Calls Tryd.prog 19 #[sv, rv] w (MadeOwn w cs rs) := by
  obtain ⟨sa, sc, rfl, _, _⟩ := hs.len
  obtain ⟨ra, rc, rfl, _, _⟩ := hv.len
  have HS := Lib.hid hs
  have HV := Lib.hid hv
  have BR := Lib.hid br
  have BC := Lib.hid bc
  have B1 := Lib.hid (Box.new w [.slice none 0 0, .slice none 0 0] 26)
  have bw1 : Hid (Below w.heap.size w (w.alloc (.cells #[.slice none 0 0, .slice none 0 0] 26))) := (Below.refl _ _).alloc (Nat.le_refl _) _
  have HF := Lib.hid (fit_is hE (w.alloc (.cells #[.slice none 0 0, .slice none 0 0] 26)) bc br (hs.below bw1.out) (hv.below bw1.out))
  clear hs hv bc br hE
  go_enter Tryd.func19, Tryd.ntmps19
  go_wp2_with (first | (go_at_call 41; refine HF.out.mono ?_; rintro e w1 ⟨rfl, hb1⟩) | (go_at_call 23; refine (copy_is _ _ cs rs _ BC.out BR.out ((HS.out.below bw1.out).below hb1) ((HV.out.below bw1.out).below hb1)).mono ?_; rintro e w2 ⟨x1, x2, hs, rfl, o1, o2, hb2⟩; obtain ⟨xa, xn, xc, rfl⟩ := o1.sh; obtain ⟨ya, yn, yc, rfl⟩ := o2.sh) | (go_at_call 42; refine (sorts_is (o2.below ((Below.refl _ w2).alloc (Nat.le_refl _) (.cells #[.slice xa xn xc, .slice ya yn yc] 26))) BR.out).mono ?_; rintro e w3 ⟨rfl, r3, g3⟩; have n2 : some w2.heap.size ≠ (Value.slice ya yn yc).ownBlock := (fun e => by have := (o2.row.lt _ e.symm).2; omega); have n0 : some w.heap.size ≠ (Value.slice ya yn yc).ownBlock := (fun e => by have := (o2.row.lt _ e.symm).1; have := hb1.size; simp at this; omega); obtain ⟨z0, z1, _, _⟩ := (Box.kept (Box.new w2 [.slice xa xn xc, .slice ya yn yc] 26) g3 n2).two; have RB := Box.kept (((B1.out.next hb1).next hb2).alloc _) g3 n0; obtain ⟨y0, y1, f0, f1⟩ := RB.two; have y1' := (World.cell?_setCell_other w3 ⟨w.heap.size, 0, none⟩ ⟨w.heap.size, 1, none⟩ (.slice xa xn xc) (by intro e; simp only [Addr.mk.injEq] at e; omega)).trans y1))
  have hw1 : w.heap.size < w1.heap.size := by have := hb1.size; simp at this; omega
  obtain ⟨q0, q1, _, _⟩ := ((RB.put 0 (.slice xa xn xc)).put 1 (.slice ya yn yc)).two
  have o1' := own_put (World.ownsRow.kept (own_below o1 ((Below.refl _ w2).alloc (Nat.le_refl _) (.cells #[.slice xa xn xc, .slice ya yn yc] 26)) (Nat.le_refl _)) g3 (by
    cases hk : (Value.slice xa xn xc).ownBlock with
    | none => exact .inl rfl
    | some k => exact .inr fun e => own_neT o1 o2.row (by decide) k hk e.symm)) w.heap.size hw1 0 1 (.slice xa xn xc) (.slice ya yn yc)
  have r3' := r3.put w.heap.size hw1 0 1 (.slice xa xn xc) (.slice ya yn yc)
  have b2 := two (two bw1.out hb1) hb2
  have b3 := (b2.alloc b2.size (.cells #[.slice xa xn xc, .slice ya yn yc] 26)).grown g3 (by have := b2.size; simp; omega) (fun k e => by have := (o2.row.lt _ e).1; omega)
  have b4 := (b3.setCell (p := ⟨w.heap.size, 0, none⟩) (Nat.le_refl _) (.slice xa xn xc)).setCell (p := ⟨w.heap.size, 1, none⟩) (Nat.le_refl _) (.slice ya yn yc)
  refine bodyPost_ret (by simp [results, Tryd.results19, go_sem, q0, q1]; try rfl) rfl ?_
  exact ⟨_, _, _, _, _, _, _, Nat.le_of_lt hw1, rfl, o1', r3', b4⟩
set_option maxHeartbeats 3200000 in
set_option maxRecDepth 100000 in
theorem union_a (s1 r1 s2 r2 : Value) (cs ds : List Col) (rs ss : List (List Val)) (w : World) (bc : BdC cs) (br : BdRs rs) (bc2 : BdC ds) (br2 : BdRs ss) (hs : ColsAt w s1 cs) (hv : RowsAt w r1 rs) (hs2 : ColsAt w s2 ds) (hv2 : RowsAt w r2 ss) (E F : Int) (hF : errT cs rs = F) (hE : E = F) (h0 : F ≠ 0) :
    Calls Tryd.prog 30 #[.agg #[s1, r1], .agg #[s2, r2]] w fun e w' => e = .returned (.tuple #[.agg #[.slice none 0 0, .slice none 0 0], .int .i64 E]) ∧ Below w.heap.size w w' := by
  subst hE
  obtain ⟨sa, sc, rfl, _, _⟩ := hs.len
  obtain ⟨ra, rc, rfl, _, _⟩ := hv.len
  obtain ⟨ta, tc, rfl, _, _⟩ := hs2.len
  obtain ⟨qa, qc, rfl, _, _⟩ := hv2.len
  have HS := Lib.hid hs
  have HV := Lib.hid hv
  have HS2 := Lib.hid hs2
  have HV2 := Lib.hid hv2
  obtain ⟨sn, hsn⟩ : ∃ n, cs.length = n := ⟨_, rfl⟩
  obtain ⟨rn, hrn⟩ : ∃ n, rs.length = n := ⟨_, rfl⟩
  obtain ⟨tn, htn⟩ : ∃ n, ds.length = n := ⟨_, rfl⟩
  obtain ⟨qn, hqn⟩ : ∃ n, ss.length = n := ⟨_, rfl⟩
  rw [hsn] at HS ⊢
  rw [hrn] at HV ⊢
  rw [htn] at HS2 ⊢
  rw [hqn] at HV2 ⊢
  have HL := Lib.hid (And.intro hrn hqn)
  have BC := Lib.hid bc
  have BR := Lib.hid br
  have BC2 := Lib.hid bc2
  have BR2 := Lib.hid br2
  have B1 : Hid (Box (((w.alloc (.cells #[.slice sa sn sc, .slice ra rn rc] 26)).alloc (.cells #[.slice ta tn tc, .slice qa qn qc] 26)).alloc (.cells #[.slice none 0 0, .slice none 0 0] 26)) w.heap.size [.slice sa sn sc, .slice ra rn rc]) := ((Box.new w [.slice sa sn sc, .slice ra rn rc] 26).alloc _).alloc _
  have B2 : Hid (Box (((w.alloc (.cells #[.slice sa sn sc, .slice ra rn rc] 26)).alloc (.cells #[.slice ta tn tc, .slice qa qn qc] 26)).alloc (.cells #[.slice none 0 0, .slice none 0 0] 26)) (w.heap.size + 1) [.slice ta tn tc, .slice qa qn qc]) := by
    have := (Box.new (w.alloc (.cells #[.slice sa sn sc, .slice ra rn rc] 26)) [.slice ta tn tc, .slice qa qn qc] 26).alloc (.cells #[.slice none 0 0, .slice none 0 0] 26)
    simp only [World.size_alloc] at this
    exact this
  have B3 : Hid (Box (((w.alloc (.cells #[.slice sa sn sc, .slice ra rn rc] 26)).alloc (.cells #[.slice ta tn tc, .slice qa qn qc] 26)).alloc (.cells #[.slice none 0 0, .slice none 0 0] 26)) (w.heap.size + 2) [.slice none 0 0, .slice none 0 0]) := by
    have := Box.new ((w.alloc (.cells #[.slice sa sn sc, .slice ra rn rc] 26)).alloc (.cells #[.slice ta tn tc, .slice qa qn qc] 26)) [.slice none 0 0, .slice none 0 0] 26
    simp only [World.size_alloc] at this
    exact this
  have bw : Hid (Below w.heap.size w (((w.alloc (.cells #[.slice sa sn sc, .slice ra rn rc] 26)).alloc (.cells #[.slice ta tn tc, .slice qa qn qc] 26)).alloc (.cells #[.slice none 0 0, .slice none 0 0] 26))) := (((Below.refl _ w).alloc (Nat.le_refl _) _).alloc (by simp) _).alloc (by simp; omega) _
  have HC1 : Hid (∀ W, Below w.heap.size w W → Calls Tryd.prog 20 #[.agg #[.slice sa sn sc, .slice ra rn rc]] W fun e w' => e = .returned (.int .i64 E) ∧ Below W.heap.size W w') := fun W hb => tcheck_is hF W BC.out BR.out (HS.out.below hb) (HV.out.below hb)
  have d0 : (E != 0) = true := by simpa using h0
  clear hs hv hs2 hv2 bc br bc2 br2 hF h0 hsn hrn htn hqn
  go_enter Tryd.func30, Tryd.ntmps30
  go_wp2_with fail
  generalize ((w.alloc (.cells #[.slice sa sn sc, .slice ra rn rc] 26)).alloc (.cells #[.slice ta tn tc, .slice qa qn qc] 26)).alloc (.cells #[.slice none 0 0, .slice none 0 0] 26) = W0 at *
  obtain ⟨a0, a1, _, _⟩ := B1.out.two
  obtain ⟨b0, b1, _, _⟩ := B2.out.two
  go_wp2_with (go_at_call 20; refine (HC1.out _ bw.out).mono ?_; rintro e w1 ⟨rfl, hb1⟩; have RB := B3.out.next hb1; obtain ⟨y0, y1, f0, f1⟩ := RB.two; have y1' := (World.cell?_setCell_other w1 ⟨w.heap.size + 2, 0, none⟩ ⟨w.heap.size + 2, 1, none⟩ (.slice none 0 0) (by intro e; simp only [Addr.mk.injEq] at e; omega)).trans y1)
  obtain ⟨q0, q1, _, _⟩ := ((RB.put 0 (.slice none 0 0)).put 1 (.slice none 0 0)).two
  refine bodyPost_ret (by simp [results, Tryd.results30, go_sem, q0, q1]; try rfl) rfl ?_
  exact ⟨rfl, ((two bw.out hb1).setCell (p := ⟨w.heap.size + 2, 0, none⟩) (by simp) _).setCell (p := ⟨w.heap.size + 2, 1, none⟩) (by simp) _⟩
set_option maxHeartbeats 3200000 in
set_option maxRecDepth 100000 in
theorem union_b (s1 r1 s2 r2 : Value) (cs ds : List Col) (rs ss : List (List Val)) (w : World) (bc : BdC cs) (br : BdRs rs) (bc2 : BdC ds) (br2 : BdRs ss) (hs : ColsAt w s1 cs) (hv : RowsAt w r1 rs) (hs2 : ColsAt w s2 ds) (hv2 : RowsAt w r2 ss) (E G : Int) (hF : errT cs rs = 0) (hG : errT ds ss = G) (hE : E = G) (h0 : G ≠ 0) :
    Calls Tryd.prog 30 #[.agg #[s1, r1], .agg #[s2, r2]] w fun e w' => e = .returned (.tuple #[.agg #[.slice none 0 0, .slice none 0 0], .int .i64 E]) ∧ Below w.heap.size w w' := by
  subst hE
  obtain ⟨sa, sc, rfl, _, _⟩ := hs.len
  obtain ⟨ra, rc, rfl, _, _⟩ := hv.len
  obtain ⟨ta, tc, rfl, _, _⟩ := hs2.len
  obtain ⟨qa, qc, rfl, _, _⟩ := hv2.len
  have HS := Lib.hid hs
  have HV := Lib.hid hv
  have HS2 := Lib.hid hs2
  have HV2 := Lib.hid hv2
  obtain ⟨sn, hsn⟩ : ∃ n, cs.length = n := ⟨_, rfl⟩
  obtain ⟨rn, hrn⟩ : ∃ n, rs.length = n := ⟨_, rfl⟩
  obtain ⟨tn, htn⟩ : ∃ n, ds.length = n := ⟨_, rfl⟩
  obtain ⟨qn, hqn⟩ : ∃ n, ss.length = n := ⟨_, rfl⟩
  rw [hsn] at HS ⊢
  rw [hrn] at HV ⊢
  rw [htn] at HS2 ⊢
  rw [hqn] at HV2 ⊢
  have HL := Lib.hid (And.intro hrn hqn)
  have BC := Lib.hid bc
  have BR := Lib.hid br
  have BC2 := Lib.hid bc2
  have BR2 := Lib.hid br2
  have B1 : Hid (Box (((w.alloc (.cells #[.slice sa sn sc, .slice ra rn rc] 26)).alloc (.cells #[.slice ta tn tc, .slice qa qn qc] 26)).alloc (.cells #[.slice none 0 0, .slice none 0 0] 26)) w.heap.size [.slice sa sn sc, .slice ra rn rc]) := ((Box.new w [.slice sa sn sc, .slice ra rn rc] 26).alloc _).alloc _
  have B2 : Hid (Box (((w.alloc (.cells #[.slice sa sn sc, .slice ra rn rc] 26)).alloc (.cells #[.slice ta tn tc, .slice qa qn qc] 26)).alloc (.cells #[.slice none 0 0, .slice none 0 0] 26)) (w.heap.size + 1) [.slice ta tn tc, .slice qa qn qc]) := by
    have := (Box.new (w.alloc (.cells #[.slice sa sn sc, .slice ra rn rc] 26)) [.slice ta tn tc, .slice qa qn qc] 26).alloc (.cells #[.slice none 0 0, .slice none 0 0] 26)
    simp only [World.size_alloc] at this
    exact this
  have B3 : Hid (Box (((w.alloc (.cells #[.slice sa sn sc, .slice ra rn rc] 26)).alloc (.cells #[.slice ta tn tc, .slice qa qn qc] 26)).alloc (.cells #[.slice none 0 0, .slice none 0 0] 26)) (w.heap.size + 2) [.slice none 0 0, .slice none 0 0]) := by
    have := Box.new ((w.alloc (.cells #[.slice sa sn sc, .slice ra rn rc] 26)).alloc (.cells #[.slice ta tn tc, .slice qa qn qc] 26)) [.slice none 0 0, .slice none 0 0] 26
    simp only [World.size_alloc] at this
    exact this
  have bw : Hid (Below w.heap.size w (((w.alloc (.cells #[.slice sa sn sc, .slice ra rn rc] 26)).alloc (.cells #[.slice ta tn tc, .slice qa qn qc] 26)).alloc (.cells #[.slice none 0 0, .slice none 0 0] 26))) := (((Below.refl _ w).alloc (Nat.le_refl _) _).alloc (by simp) _).alloc (by simp; omega) _
  have HC1 : Hid (∀ W, Below w.heap.size w W → Calls Tryd.prog 20 #[.agg #[.slice sa sn sc, .slice ra rn rc]] W fun e w' => e = .returned (.int .i64 0) ∧ Below W.heap.size W w') := fun W hb => tcheck_is hF W BC.out BR.out (HS.out.below hb) (HV.out.below hb)
  have HC2 : Hid (∀ W, Below w.heap.size w W → Calls Tryd.prog 20 #[.agg #[.slice ta tn tc, .slice qa qn qc]] W fun e w' => e = .returned (.int .i64 E) ∧ Below W.heap.size W w') := fun W hb => tcheck_is hG W BC2.out BR2.out (HS2.out.below hb) (HV2.out.below hb)
  have d0 : (E != 0) = true := by simpa using h0
  have tok1 : True := trivial
  clear hs hv hs2 hv2 bc br bc2 br2 hF hG h0 hsn hrn htn hqn
  go_enter Tryd.func30, Tryd.ntmps30
  go_wp2_with fail
  generalize ((w.alloc (.cells #[.slice sa sn sc, .slice ra rn rc] 26)).alloc (.cells #[.slice ta tn tc, .slice qa qn qc] 26)).alloc (.cells #[.slice none 0 0, .slice none 0 0] 26) = W0 at *
  obtain ⟨a0, a1, _, _⟩ := B1.out.two
  obtain ⟨b0, b1, _, _⟩ := B2.out.two
  go_wp2_with (first | (go_at_call 20; have _t := tok1; refine (HC1.out _ bw.out).mono ?_; clear tok1; rintro e w1 ⟨rfl, hb1⟩; obtain ⟨b2, b3, _, _⟩ := (B2.out.next hb1).two) | (go_at_call 20; refine (HC2.out _ (two bw.out hb1)).mono ?_; rintro e w2 ⟨rfl, hb2⟩; have RB := (B3.out.next hb1).next hb2; obtain ⟨y0, y1, f0, f1⟩ := RB.two; have y1' := (World.cell?_setCell_other w2 ⟨w.heap.size + 2, 0, none⟩ ⟨w.heap.size + 2, 1, none⟩ (.slice none 0 0) (by intro e; simp only [Addr.mk.injEq] at e; omega)).trans y1))
  obtain ⟨q0, q1, _, _⟩ := ((RB.put 0 (.slice none 0 0)).put 1 (.slice none 0 0)).two
  refine bodyPost_ret (by simp [results, Tryd.results30, go_sem, q0, q1]; try rfl) rfl ?_
  exact ⟨rfl, ((two (two bw.out hb1) hb2).setCell (p := ⟨w.heap.size + 2, 0, none⟩) (by simp) _).setCell (p := ⟨w.heap.size + 2, 1, none⟩) (by simp) _⟩
set_option maxHeartbeats 3200000 in
set_option maxRecDepth 100000 in
theorem union_c (s1 r1 s2 r2 : Value) (cs ds : List Col) (rs ss : List (List Val)) (w : World) (bc : BdC cs) (br : BdRs rs) (bc2 : BdC ds) (br2 : BdRs ss) (hs : ColsAt w s1 cs) (hv : RowsAt w r1 rs) (hs2 : ColsAt w s2 ds) (hv2 : RowsAt w r2 ss) (hF : errT cs rs = 0) (hG : errT ds ss = 0) (hne : cs ≠ ds) :
    Calls Tryd.prog 30 #[.agg #[s1, r1], .agg #[s2, r2]] w fun e w' => e = .returned (.tuple #[.agg #[.slice none 0 0, .slice none 0 0], .int .i64 12]) ∧ Below w.heap.size w w' := by
  obtain ⟨q, hq0, hq⟩ : ∃ q : Bool, q = false ∧ (cs = ds ↔ q = true) := ⟨false, rfl, by simp [hne]⟩
  obtain ⟨sa, sc, rfl, _, _⟩ := hs.len
  obtain ⟨ra, rc, rfl, _, _⟩ := hv.len
  obtain ⟨ta, tc, rfl, _, _⟩ := hs2.len
  obtain ⟨qa, qc, rfl, _, _⟩ := hv2.len
  have HS := Lib.hid hs
  have HV := Lib.hid hv
  have HS2 := Lib.hid hs2
  have HV2 := Lib.hid hv2
  obtain ⟨sn, hsn⟩ : ∃ n, cs.length = n := ⟨_, rfl⟩
  obtain ⟨rn, hrn⟩ : ∃ n, rs.length = n := ⟨_, rfl⟩
  obtain ⟨tn, htn⟩ : ∃ n, ds.length = n := ⟨_, rfl⟩
  obtain ⟨qn, hqn⟩ : ∃ n, ss.length = n := ⟨_, rfl⟩
  rw [hsn] at HS ⊢
  rw [hrn] at HV ⊢
  rw [htn] at HS2 ⊢
  rw [hqn] at HV2 ⊢
  have HL := Lib.hid (And.intro hrn hqn)
  have BC := Lib.hid bc
  have BR := Lib.hid br
  have BC2 := Lib.hid bc2
  have BR2 := Lib.hid br2
  have B1 : Hid (Box (((w.alloc (.cells #[.slice sa sn sc, .slice ra rn rc] 26)).alloc (.cells #[.slice ta tn tc, .slice qa qn qc] 26)).alloc (.cells #[.slice none 0 0, .slice none 0 0] 26)) w.heap.size [.slice sa sn sc, .slice ra rn rc]) := ((Box.new w [.slice sa sn sc, .slice ra rn rc] 26).alloc _).alloc _
  have B2 : Hid (Box (((w.alloc (.cells #[.slice sa sn sc, .slice ra rn rc] 26)).alloc (.cells #[.slice ta tn tc, .slice qa qn qc] 26)).alloc (.cells #[.slice none 0 0, .slice none 0 0] 26)) (w.heap.size + 1) [.slice ta tn tc, .slice qa qn qc]) := by
    have := (Box.new (w.alloc (.cells #[.slice sa sn sc, .slice ra rn rc] 26)) [.slice ta tn tc, .slice qa qn qc] 26).alloc (.cells #[.slice none 0 0, .slice none 0 0] 26)
    simp only [World.size_alloc] at this
    exact this
  have B3 : Hid (Box (((w.alloc (.cells #[.slice sa sn sc, .slice ra rn rc] 26)).alloc (.cells #[.slice ta tn tc, .slice qa qn qc] 26)).alloc (.cells #[.slice none 0 0, .slice none 0 0] 26)) (w.heap.size + 2) [.slice none 0 0, .slice none 0 0]) := by
    have := Box.new ((w.alloc (.cells #[.slice sa sn sc, .slice ra rn rc] 26)).alloc (.cells #[.slice ta tn tc, .slice qa qn qc] 26)) [.slice none 0 0, .slice none 0 0] 26
    simp only [World.size_alloc] at this
    exact this
  have bw : Hid (Below w.heap.size w (((w.alloc (.cells #[.slice sa sn sc, .slice ra rn rc] 26)).alloc (.cells #[.slice ta tn tc, .slice qa qn qc] 26)).alloc (.cells #[.slice none 0 0, .slice none 0 0] 26))) := (((Below.refl _ w).alloc (Nat.le_refl _) _).alloc (by simp) _).alloc (by simp; omega) _
  have HC1 : Hid (∀ W, Below w.heap.size w W → Calls Tryd.prog 20 #[.agg #[.slice sa sn sc, .slice ra rn rc]] W fun e w' => e = .returned (.int .i64 0) ∧ Below W.heap.size W w') := fun W hb => tcheck_is hF W BC.out BR.out (HS.out.below hb) (HV.out.below hb)
  have HC2 : Hid (∀ W, Below w.heap.size w W → Calls Tryd.prog 20 #[.agg #[.slice ta tn tc, .slice qa qn qc]] W fun e w' => e = .returned (.int .i64 0) ∧ Below W.heap.size W w') := fun W hb => tcheck_is hG W BC2.out BR2.out (HS2.out.below hb) (HV2.out.below hb)
  have HQ : Hid (∀ W, Below w.heap.size w W → Calls Tryd.prog 27 #[.slice sa sn sc, .slice ta tn tc] W fun e w' => e = .returned (.bool q) ∧ Below W.heap.size W w') := fun W hb => schEq_is _ _ cs ds q hq W BC.out.len BC2.out.len (HS.out.below hb) (HS2.out.below hb)
  subst hq0
  have tok1 : True := trivial
  clear hs hv hs2 hv2 bc br bc2 br2 hF hG hne hq hsn hrn htn hqn
  go_enter Tryd.func30, Tryd.ntmps30
  go_wp2_with fail
  generalize ((w.alloc (.cells #[.slice sa sn sc, .slice ra rn rc] 26)).alloc (.cells #[.slice ta tn tc, .slice qa qn qc] 26)).alloc (.cells #[.slice none 0 0, .slice none 0 0] 26) = W0 at *
  obtain ⟨a0, a1, _, _⟩ := B1.out.two
  obtain ⟨b0, b1, _, _⟩ := B2.out.two
  go_wp2_with (first | (go_at_call 20; have _t := tok1; refine (HC1.out _ bw.out).mono ?_; clear tok1; rintro e w1 ⟨rfl, hb1⟩; obtain ⟨b2, b3, _, _⟩ := (B2.out.next hb1).two) | (go_at_call 20; refine (HC2.out _ (two bw.out hb1)).mono ?_; rintro e w2 ⟨rfl, hb2⟩; obtain ⟨c0, c1, _, _⟩ := ((B1.out.next hb1).next hb2).two; obtain ⟨b4, b5, _, _⟩ := ((B2.out.next hb1).next hb2).two) | (go_at_call 27; refine (HQ.out _ (two (two bw.out hb1) hb2)).mono ?_; rintro e w3 ⟨rfl, hb3⟩; have RB := ((B3.out.next hb1).next hb2).next hb3; obtain ⟨y0, y1, f0, f1⟩ := RB.two; have y1' := (World.cell?_setCell_other w3 ⟨w.heap.size + 2, 0, none⟩ ⟨w.heap.size + 2, 1, none⟩ (.slice none 0 0) (by intro e; simp only [Addr.mk.injEq] at e; omega)).trans y1))
  obtain ⟨q0, q1, _, _⟩ := ((RB.put 0 (.slice none 0 0)).put 1 (.slice none 0 0)).two
  refine bodyPost_ret (by simp [results, Tryd.results30, go_sem, q0, q1]; try rfl) rfl ?_
  exact ⟨rfl, ((two (two (two bw.out hb1) hb2) hb3).setCell (p := ⟨w.heap.size + 2, 0, none⟩) (by simp) _).setCell (p := ⟨w.heap.size + 2, 1, none⟩) (by simp) _⟩
theorem err_app {cs : List Col} {rs ss : List (List Val)} (h1 : errT cs rs = 0) (h2 : errT cs ss = 0) (hl : rs.length + ss.length ≤ 4096) : err cs (rs ++ ss) = 0 := by
  obtain ⟨a1, a2, a3, a4⟩ := errT_zero h1
  obtain ⟨b1, b2, b3, b4⟩ := errT_zero h2
  unfold err
  rw [if_neg (by omega), if_neg (by rw [List.length_append]; omega), if_pos]
  rw [List.all_eq_true]
  intro r hr
  rcases List.mem_append.1 hr with hr | hr
  · exact a2 r hr
  · exact b2 r hr
set_option maxHeartbeats 3200000 in
set_option maxRecDepth 100000 in
theorem union_d (s1 r1 s2 r2 : Value) (cs ds : List Col) (rs ss : List (List Val)) (w : World) (bc : BdC cs) (br : BdRs rs) (bc2 : BdC ds) (br2 : BdRs ss) (hs : ColsAt w s1 cs) (hv : RowsAt w r1 rs) (hs2 : ColsAt w s2 ds) (hv2 : RowsAt w r2 ss) (hl : rs.length + ss.length ≤ 4096) (hF : errT cs rs = 0) (hG : errT ds ss = 0) (hcd : cs = ds) :
    Calls Tryd.prog 30 #[.agg #[s1, r1], .agg #[s2, r2]] w (MadeAny cs (rs ++ ss) 0 w) := by
  subst hcd
  obtain ⟨q, hq0, hq⟩ : ∃ q : Bool, q = true ∧ (cs = cs ↔ q = true) := ⟨true, rfl, by simp⟩
  have HE := Lib.hid (err_app hF hG hl)
  have BRA : Hid (BdRs (rs ++ ss)) := ⟨by rw [List.length_append]; omega, fun r hr => (List.mem_append.1 hr).elim (br.row r) (br2.row r)⟩
  have LA : Hid (rs.length ≤ 4096 ∧ ss.length ≤ 4096) := ⟨by omega, by omega⟩
  obtain ⟨sa, sc, rfl, _, _⟩ := hs.len
  obtain ⟨ra, rc, rfl, _, _⟩ := hv.len
  obtain ⟨ta, tc, rfl, _, _⟩ := hs2.len
  obtain ⟨qa, qc, rfl, _, _⟩ := hv2.len
  have HS := Lib.hid hs
  have HV := Lib.hid hv
  have HS2 := Lib.hid hs2
  have HV2 := Lib.hid hv2
  obtain ⟨sn, hsn⟩ : ∃ n, cs.length = n := ⟨_, rfl⟩
  obtain ⟨rn, hrn⟩ : ∃ n, rs.length = n := ⟨_, rfl⟩
  obtain ⟨qn, hqn⟩ : ∃ n, ss.length = n := ⟨_, rfl⟩
  rw [hsn] at HS ⊢
  rw [hrn] at HV ⊢
  rw [hsn] at HS2
  rw [hqn] at HV2 ⊢
  have HL := Lib.hid (And.intro hrn hqn)
  have BC := Lib.hid bc
  have BR := Lib.hid br
  have BC2 := Lib.hid bc2
  have BR2 := Lib.hid br2
  have B1 : Hid (Box (((w.alloc (.cells #[.slice sa sn sc, .slice ra rn rc] 26)).alloc (.cells #[.slice ta sn tc, .slice qa qn qc] 26)).alloc (.cells #[.slice none 0 0, .slice none 0 0] 26)) w.heap.size [.slice sa sn sc, .slice ra rn rc]) := ((Box.new w [.slice sa sn sc, .slice ra rn rc] 26).alloc _).alloc _
  have B2 : Hid (Box (((w.alloc (.cells #[.slice sa sn sc, .slice ra rn rc] 26)).alloc (.cells #[.slice ta sn tc, .slice qa qn qc] 26)).alloc (.cells #[.slice none 0 0, .slice none 0 0] 26)) (w.heap.size + 1) [.slice ta sn tc, .slice qa qn qc]) := by
    have := (Box.new (w.alloc (.cells #[.slice sa sn sc, .slice ra rn rc] 26)) [.slice ta sn tc, .slice qa qn qc] 26).alloc (.cells #[.slice none 0 0, .slice none 0 0] 26)
    simp only [World.size_alloc] at this
    exact this
  have B3 : Hid (Box (((w.alloc (.cells #[.slice sa sn sc, .slice ra rn rc] 26)).alloc (.cells #[.slice ta sn tc, .slice qa qn qc] 26)).alloc (.cells #[.slice none 0 0, .slice none 0 0] 26)) (w.heap.size + 2) [.slice none 0 0, .slice none 0 0]) := by
    have := Box.new ((w.alloc (.cells #[.slice sa sn sc, .slice ra rn rc] 26)).alloc (.cells #[.slice ta sn tc, .slice qa qn qc] 26)) [.slice none 0 0, .slice none 0 0] 26
    simp only [World.size_alloc] at this
    exact this
  have bw : Hid (Below w.heap.size w (((w.alloc (.cells #[.slice sa sn sc, .slice ra rn rc] 26)).alloc (.cells #[.slice ta sn tc, .slice qa qn qc] 26)).alloc (.cells #[.slice none 0 0, .slice none 0 0] 26))) := (((Below.refl _ w).alloc (Nat.le_refl _) _).alloc (by simp) _).alloc (by simp; omega) _
  have HC1 : Hid (∀ W, Below w.heap.size w W → Calls Tryd.prog 20 #[.agg #[.slice sa sn sc, .slice ra rn rc]] W fun e w' => e = .returned (.int .i64 0) ∧ Below W.heap.size W w') := fun W hb => tcheck_is hF W BC.out BR.out (HS.out.below hb) (HV.out.below hb)
  have HC2 : Hid (∀ W, Below w.heap.size w W → Calls Tryd.prog 20 #[.agg #[.slice ta sn tc, .slice qa qn qc]] W fun e w' => e = .returned (.int .i64 0) ∧ Below W.heap.size W w') := fun W hb => tcheck_is hG W BC2.out BR2.out (HS2.out.below hb) (HV2.out.below hb)
  have HQ : Hid (∀ W, Below w.heap.size w W → Calls Tryd.prog 27 #[.slice sa sn sc, .slice ta sn tc] W fun e w' => e = .returned (.bool q) ∧ Below W.heap.size W w') := fun W hb => schEq_is _ _ cs cs q hq W BC.out.len BC2.out.len (HS.out.below hb) (HS2.out.below hb)
  subst hq0
  have tok1 : True := trivial
  have HCC : Hid (∀ W, Below w.heap.size w W → Calls Tryd.prog 52 #[.slice (some ⟨W.heap.size, 0, none⟩) 2 2] (W.alloc (.cells #[.slice ra rn rc, .slice qa qn qc] 24)).drew (Catted (W.alloc (.cells #[.slice ra rn rc, .slice qa qn qc] 24)).drew (rs ++ ss))) := fun W hb => concat_is _ _ _ rs ss _ ((Box.new W [.slice ra rn rc, .slice qa qn qc] 24).next (Below.drew (Below.refl _ _))) (((HV.out.below hb).below (balloc _ _)).below (Below.drew (Below.refl _ _))) (((HV2.out.below hb).below (balloc _ _)).below (Below.drew (Below.refl _ _))) LA.out.1 LA.out.2
  have HMK : Hid (∀ W u, Below w.heap.size w W → RowsAt W u (rs ++ ss) → Calls Tryd.prog 19 #[.slice sa sn sc, u] W (MadeOwn W cs (rs ++ ss))) := fun W u hb hu => make_own _ _ cs _ W BC.out BRA.out (HS.out.below hb) hu HE.out
  have HM : Hid (∀ W W', (W.cell? ⟨w.heap.size, 0, none⟩ = some (.slice sa sn sc) ∧ W.cell? ⟨w.heap.size, 1, none⟩ = some (.slice ra rn rc) ∧ W.cell? ⟨w.heap.size + 1, 0, none⟩ = some (.slice ta sn tc) ∧ W.cell? ⟨w.heap.size + 1, 1, none⟩ = some (.slice qa qn qc) ∧ (∃ p q, Box W (w.heap.size + 2) [p, q]) ∧ Below w.heap.size w W) → Below W.heap.size W W' → W'.cell? ⟨w.heap.size, 0, none⟩ = some (.slice sa sn sc) ∧ W'.cell? ⟨w.heap.size, 1, none⟩ = some (.slice ra rn rc) ∧ W'.cell? ⟨w.heap.size + 1, 0, none⟩ = some (.slice ta sn tc) ∧ W'.cell? ⟨w.heap.size + 1, 1, none⟩ = some (.slice qa qn qc) ∧ (∃ p q, Box W' (w.heap.size + 2) [p, q]) ∧ Below w.heap.size w W') := fun W W' h hb => ⟨(hb.cell (by exact lt_of_cell h.1)).trans h.1, (hb.cell (by exact lt_of_cell h.2.1)).trans h.2.1, (hb.cell (by exact lt_of_cell h.2.2.1)).trans h.2.2.1, (hb.cell (by exact lt_of_cell h.2.2.2.1)).trans h.2.2.2.1, (by obtain ⟨p, q, hB⟩ := h.2.2.2.2.1; exact ⟨p, q, hB.next hb⟩), two h.2.2.2.2.2 hb⟩
  have HP : Hid (∀ W u v, (W.cell? ⟨w.heap.size, 0, none⟩ = some (.slice sa sn sc) ∧ W.cell? ⟨w.heap.size, 1, none⟩ = some (.slice ra rn rc) ∧ W.cell? ⟨w.heap.size + 1, 0, none⟩ = some (.slice ta sn tc) ∧ W.cell? ⟨w.heap.size + 1, 1, none⟩ = some (.slice qa qn qc) ∧ (∃ p q, Box W (w.heap.size + 2) [p, q]) ∧ Below w.heap.size w W) → (fun W => W.cell? ⟨w.heap.size, 0, none⟩ = some (.slice sa sn sc) ∧ W.cell? ⟨w.heap.size, 1, none⟩ = some (.slice ra rn rc) ∧ W.cell? ⟨w.heap.size + 1, 0, none⟩ = some (.slice ta sn tc) ∧ W.cell? ⟨w.heap.size + 1, 1, none⟩ = some (.slice qa qn qc) ∧ (∃ p q, Box W (w.heap.size + 2) [p, q]) ∧ Below w.heap.size w W) ((W.setCell ⟨w.heap.size + 2, 0, none⟩ u).setCell ⟨w.heap.size + 2, 1, none⟩ v)) := fun W u v h => ⟨(by rw [World.cell?_setCell_other _ _ _ _ (by intro e; simp only [Addr.mk.injEq] at e; omega), World.cell?_setCell_other _ _ _ _ (by intro e; simp only [Addr.mk.injEq] at e; omega)]; exact h.1), (by rw [World.cell?_setCell_other _ _ _ _ (by intro e; simp only [Addr.mk.injEq] at e; omega), World.cell?_setCell_other _ _ _ _ (by intro e; simp only [Addr.mk.injEq] at e; omega)]; exact h.2.1), (by rw [World.cell?_setCell_other _ _ _ _ (by intro e; simp only [Addr.mk.injEq] at e; omega), World.cell?_setCell_other _ _ _ _ (by intro e; simp only [Addr.mk.injEq] at e; omega)]; exact h.2.2.1), (by rw [World.cell?_setCell_other _ _ _ _ (by intro e; simp only [Addr.mk.injEq] at e; omega), World.cell?_setCell_other _ _ _ _ (by intro e; simp only [Addr.mk.injEq] at e; omega)]; exact h.2.2.2.1), (by obtain ⟨p, q, hB⟩ := h.2.2.2.2.1; exact ⟨u, v, (hB.put 0 u).put 1 v⟩), (h.2.2.2.2.2.setCell (p := ⟨w.heap.size + 2, 0, none⟩) (by simp) _).setCell (p := ⟨w.heap.size + 2, 1, none⟩) (by simp) _⟩
  clear hs hv hs2 hv2 bc br bc2 br2 hF hG hq hsn hrn hqn hl
  go_enter Tryd.func30, Tryd.ntmps30
  go_wp2_with fail
  generalize ((w.alloc (.cells #[.slice sa sn sc, .slice ra rn rc] 26)).alloc (.cells #[.slice ta sn tc, .slice qa qn qc] 26)).alloc (.cells #[.slice none 0 0, .slice none 0 0] 26) = W0 at *
  obtain ⟨a0, a1, _, _⟩ := B1.out.two
  obtain ⟨b0, b1, _, _⟩ := B2.out.two
  go_wp2_with (first | (go_at_call 20; have _t := tok1; refine (HC1.out _ bw.out).mono ?_; clear tok1; rintro e w1 ⟨rfl, hb1⟩; obtain ⟨b2, b3, _, _⟩ := (B2.out.next hb1).two) | (go_at_call 20; refine (HC2.out _ (two bw.out hb1)).mono ?_; rintro e w2 ⟨rfl, hb2⟩; obtain ⟨c0, c1, _, _⟩ := ((B1.out.next hb1).next hb2).two; obtain ⟨b4, b5, _, _⟩ := ((B2.out.next hb1).next hb2).two) | (go_at_call 27; refine (HQ.out _ (two (two bw.out hb1) hb2)).mono ?_; rintro e W1 ⟨rfl, hb3⟩))
  have bw3 := Lib.hid (two (two (two bw.out hb1) hb2) hb3)
  have H0 : Hid ((fun W => W.cell? ⟨w.heap.size, 0, none⟩ = some (.slice sa sn sc) ∧ W.cell? ⟨w.heap.size, 1, none⟩ = some (.slice ra rn rc) ∧ W.cell? ⟨w.heap.size + 1, 0, none⟩ = some (.slice ta sn tc) ∧ W.cell? ⟨w.heap.size + 1, 1, none⟩ = some (.slice qa qn qc) ∧ (∃ p q, Box W (w.heap.size + 2) [p, q]) ∧ Below w.heap.size w W) W1) := ⟨(hb3.cell (by exact lt_of_cell c0)).trans c0, (hb3.cell (by exact lt_of_cell c1)).trans c1, (hb3.cell (by exact lt_of_cell b4)).trans b4, (hb3.cell (by exact lt_of_cell b5)).trans b5, ⟨_, _, ((B3.out.next hb1).next hb2).next hb3⟩, bw3.out⟩
  have HSZ : Hid (∀ {base : Nat} {v1 : World}, v1.heap.size ≤ base → Below (W1.alloc (.cells #[.slice ra rn rc, .slice qa qn qc] 24)).drew.heap.size (W1.alloc (.cells #[.slice ra rn rc, .slice qa qn qc] 24)).drew v1 → w.heap.size + 2 < base) := fun h1 h2 => by
    have e1 := h2.size
    have e2 := (((B3.out.next hb1).next hb2).next hb3).lt
    have e3 : (W1.alloc (.cells #[.slice ra rn rc, .slice qa qn qc] 24)).drew.heap.size = W1.heap.size + 1 := by show (W1.alloc _).heap.size = _; simp
    omega
  clear hb1 hb2 hb3 a0 a1 b0 b1 b2 b3 b4 b5 c0 c1
  refine wp_region_held_drew (S := fun W => W.cell? ⟨w.heap.size, 0, none⟩ = some (.slice sa sn sc) ∧ W.cell? ⟨w.heap.size, 1, none⟩ = some (.slice ra rn rc) ∧ W.cell? ⟨w.heap.size + 1, 0, none⟩ = some (.slice ta sn tc) ∧ W.cell? ⟨w.heap.size + 1, 1, none⟩ = some (.slice qa qn qc) ∧ (∃ p q, Box W (w.heap.size + 2) [p, q]) ∧ Below w.heap.size w W) (by kernel_rfl) (by exact HM.out _ _ H0.out (Below.drew (Below.refl _ _))) (fun hHeld => ?_)
  refine wpAnyH_take (i := 0) (v := ?v1x) rfl (by kernel_rfl) (by kernel_rfl) (by kernel_rfl) (fun _ _ _ h => h) (Or.inl ⟨by rfl, ?hy1x⟩) hHeld ?rest1x
  case hy1x => (intro w hSw; (try dsimp only at hSw); go_simp <;> with_reducible rfl)
  try simp only [Array.reduceGetElem, Act.put, List.setIfInBounds_toArray, List.set_cons_zero, List.set_cons_succ]
  refine wpAnyH_take (i := 1) (v := ?v2x) rfl (by kernel_rfl) (by kernel_rfl) (by kernel_rfl) (fun _ _ _ h => h) (Or.inl ⟨by rfl, ?hy2x⟩) hHeld ?rest2x
  case hy2x => (intro w hSw; (try dsimp only at hSw); go_simp <;> with_reducible rfl)
  try simp only [Array.reduceGetElem, Act.put, List.setIfInBounds_toArray, List.set_cons_zero, List.set_cons_succ]
  refine wpAnyH_take (i := 2) (v := ?v3x) rfl (by kernel_rfl) (by kernel_rfl) (by kernel_rfl) (fun _ _ _ h => h) (Or.inl ⟨by rfl, ?hy3x⟩) hHeld ?rest3x
  case hy3x => (intro w hSw; (try dsimp only at hSw); go_simp <;> with_reducible rfl)
  try simp only [Array.reduceGetElem, Act.put, List.setIfInBounds_toArray, List.set_cons_zero, List.set_cons_succ]
  refine wpAnyH_take (i := 3) (v := ?v4x) rfl (by kernel_rfl) (by kernel_rfl) (by kernel_rfl) (fun _ _ _ h => h) (Or.inl ⟨by rfl, ?hy4x⟩) hHeld ?rest4x
  case hy4x => (intro w hSw; (try dsimp only at hSw); go_simp <;> with_reducible rfl)
  try simp only [Array.reduceGetElem, Act.put, List.setIfInBounds_toArray, List.set_cons_zero, List.set_cons_succ]
  refine wpAnyH_take (i := 4) (v := ?v5x) rfl (by kernel_rfl) (by kernel_rfl) (by kernel_rfl) (fun _ _ _ h => h) (Or.inl ⟨by rfl, ?hy5x⟩) hHeld ?rest5x
  case hy5x => (intro w hSw; (try dsimp only at hSw); go_simp <;> with_reducible rfl)
  try simp only [Array.reduceGetElem, Act.put, List.setIfInBounds_toArray, List.set_cons_zero, List.set_cons_succ]
  refine wpAnyH_take (i := 5) (v := ?v6x) rfl (by kernel_rfl) (by kernel_rfl) (by kernel_rfl) (fun _ _ _ h => h) (Or.inl ⟨by rfl, ?hy6x⟩) hHeld ?rest6x
  case hy6x => (intro w hSw; (try dsimp only at hSw); go_simp <;> with_reducible rfl)
  try simp only [Array.reduceGetElem, Act.put, List.setIfInBounds_toArray, List.set_cons_zero, List.set_cons_succ]
  refine wpAnyH_ready (rs := [6]) (by kernel_rfl) (by simp) ?_
  refine AllReadyH.cons rfl (fun K hK => ?_) AllReadyH.nil
  go_simp
  refine hK.out _ _ ?_ (fun hHeld2 => ?_)
  · exact HM.out _ _ hHeld ((Below.refl _ W1.drew).alloc (Nat.le_refl _) (.cells #[.slice ra rn rc, .slice qa qn qc] 24))
  clear hK K hHeld
  have hHeld := hHeld2
  clear hHeld2
  try simp only [Array.reduceGetElem, Act.put, List.setIfInBounds_toArray, List.set_cons_zero, List.set_cons_succ]
  refine wpAnyH_ready (rs := [7]) (by kernel_rfl) (by simp) ?_
  refine AllReadyH.cons rfl (fun K hK => ?_) AllReadyH.nil
  go_simp
  go_at_call 52; refine (HCC.out W1 bw3.out).mono ?_; rintro e v1 ⟨ca, cn, cc, rfl, o1, hb1⟩; go_wp2_with fail
  refine hK.out _ _ ?_ (fun hHeld2 => ?_)
  · exact HM.out _ _ hHeld hb1
  clear hK K hHeld
  have hHeld := hHeld2
  clear hHeld2
  try simp only [Array.reduceGetElem, Act.put, List.setIfInBounds_toArray, List.set_cons_zero, List.set_cons_succ]
  refine wpAnyH_ready (rs := [8]) (by kernel_rfl) (by simp) ?_
  refine AllReadyH.cons rfl (fun K hK => ?_) AllReadyH.nil
  go_simp
  go_at_call 19; refine (HMK.out _ _ hHeld.2.2.2.2.2 o1).mono ?_; rintro e v2 ⟨base, ma, mn, mc, na, nn, nc, hbs, rfl, p1, p2, hb2⟩; go_wp2_with fail
  refine hK.out _ _ ?_ (fun hHeld2 => ?_)
  · exact HM.out _ _ hHeld hb2
  clear hK K hHeld
  have hHeld := hHeld2
  clear hHeld2
  obtain ⟨p, q, HBX⟩ := hHeld.2.2.2.2.1
  obtain ⟨z0, z1, f0, f1⟩ := HBX.two
  have z1' := (World.cell?_setCell_other v2 ⟨w.heap.size + 2, 0, none⟩ ⟨w.heap.size + 2, 1, none⟩ (.slice ma mn mc) (by intro e; simp only [Addr.mk.injEq] at e; omega)).trans z1
  try simp only [Array.reduceGetElem, Act.put, List.setIfInBounds_toArray, List.set_cons_zero, List.set_cons_succ]
  refine wpAnyH_take (i := 9) (v := ?v7x) rfl (by kernel_rfl) (by kernel_rfl) (by kernel_rfl) (fun _ _ _ h => h) (Or.inl ⟨by rfl, ?hy7x⟩) hHeld ?rest7x
  case hy7x => (intro w hSw; (try dsimp only at hSw); go_simp <;> with_reducible rfl)
  try simp only [Array.reduceGetElem, Act.put, List.setIfInBounds_toArray, List.set_cons_zero, List.set_cons_succ]
  refine wpAnyH_take (i := 10) (v := ?v8x) rfl (by kernel_rfl) (by kernel_rfl) (by kernel_rfl) (fun _ _ _ h => h) (Or.inl ⟨by rfl, ?hy8x⟩) hHeld ?rest8x
  case hy8x => (intro w hSw; (try dsimp only at hSw); go_simp <;> with_reducible rfl)
  try simp only [Array.reduceGetElem, Act.put, List.setIfInBounds_toArray, List.set_cons_zero, List.set_cons_succ]
  refine wpAnyH_ready (rs := [11]) (by kernel_rfl) (by simp) ?_
  refine AllReadyH.cons rfl (fun K hK => ?_) AllReadyH.nil
  go_simp
  refine hK.out _ _ ?_ (fun hHeld2 => ?_)
  · exact HP.out _ _ _ hHeld
  clear hK K hHeld
  have hHeld := hHeld2
  clear hHeld2
  try simp only [Array.reduceGetElem, Act.put, List.setIfInBounds_toArray, List.set_cons_zero, List.set_cons_succ]
  refine wpAnyH_take (i := 12) (v := ?v9x) rfl (by kernel_rfl) (by kernel_rfl) (by kernel_rfl) (fun _ _ _ h => h) (Or.inl ⟨by rfl, ?hy9x⟩) hHeld ?rest9x
  case hy9x => (intro w hSw; (try dsimp only at hSw); go_simp <;> with_reducible rfl)
  try simp only [Array.reduceGetElem, Act.put, List.setIfInBounds_toArray, List.set_cons_zero, List.set_cons_succ]
  refine wpAnyH_done (by kernel_rfl) ?_ _
  go_wp2_with fail
  obtain ⟨r0, r1, _, _⟩ := ((HBX.put 0 (.slice ma mn mc)).put 1 (.slice na nn nc)).two
  refine bodyPost_ret (by simp [results, Tryd.results30, go_sem, r0, r1]; try rfl) rfl ?_
  have hbl := HSZ.out hbs hb1
  exact ⟨_, _, _, _, _, _, rfl, hHeld.2.2.2.2.2, .inl ⟨rfl, OwnC.at (own_put p1 _ hbl 0 1 _ _), (p2.put _ hbl 0 1 _ _).at⟩⟩
/-- What Union tells. -/
def UnionE (cs ds : List Col) (rs ss : List (List Val)) (E : Int) : Prop :=
  (errT cs rs = E ∧ E ≠ 0) ∨ (errT cs rs = 0 ∧ errT ds ss = E ∧ E ≠ 0) ∨ (errT cs rs = 0 ∧ errT ds ss = 0 ∧ cs ≠ ds ∧ E = 12) ∨ (errT cs rs = 0 ∧ errT ds ss = 0 ∧ cs = ds ∧ E = 0)
theorem union_any (s1 r1 s2 r2 : Value) (cs ds : List Col) (rs ss : List (List Val)) (w : World) (bc : BdC cs) (br : BdRs rs) (bc2 : BdC ds) (br2 : BdRs ss) (hs : ColsAt w s1 cs) (hv : RowsAt w r1 rs) (hs2 : ColsAt w s2 ds) (hv2 : RowsAt w r2 ss) (hl : rs.length + ss.length ≤ 4096) (E : Int) (hE : UnionE cs ds rs ss E) :
    Calls Tryd.prog 30 #[.agg #[s1, r1], .agg #[s2, r2]] w (MadeAny cs (rs ++ ss) E w) := by
  rcases hE with ⟨h1, h2⟩ | ⟨h1, h2, h3⟩ | ⟨h1, h2, h3, rfl⟩ | ⟨h1, h2, h3, rfl⟩
  · refine (union_a s1 r1 s2 r2 cs ds rs ss w bc br bc2 br2 hs hv hs2 hv2 E E h1 rfl h2).mono ?_
    rintro e w' ⟨g1, g2⟩
    exact ⟨_, _, _, _, _, _, g1, g2, .inr ⟨h2, rfl, rfl, rfl, rfl, rfl, rfl⟩⟩
  · refine (union_b s1 r1 s2 r2 cs ds rs ss w bc br bc2 br2 hs hv hs2 hv2 E E h1 h2 rfl h3).mono ?_
    rintro e w' ⟨g1, g2⟩
    exact ⟨_, _, _, _, _, _, g1, g2, .inr ⟨h3, rfl, rfl, rfl, rfl, rfl, rfl⟩⟩
  · refine (union_c s1 r1 s2 r2 cs ds rs ss w bc br bc2 br2 hs hv hs2 hv2 h1 h2 h3).mono ?_
    rintro e w' ⟨g1, g2⟩
    exact ⟨_, _, _, _, _, _, g1, g2, .inr ⟨by decide, rfl, rfl, rfl, rfl, rfl, rfl⟩⟩
  · exact union_d s1 r1 s2 r2 cs ds rs ss w bc br bc2 br2 hs hv hs2 hv2 hl h1 h2 h3
end Go.Proofs.YtfmjeggomphliaaDoor.Tb

set_option linter.unusedVariables false
set_option linter.unusedSimpArgs false
namespace Go.Proofs.YtfmjeggomphliaaDoor.Tb
open Go.RowKit Go Go.Sort Ba Va Sr

theorem small_right {k n : Int} {t : ByteArray} (h : rightB k n t = true) : t.size ≤ 64 := (right_text h).2
theorem txt_fit : ∀ {cs : List Col} {r : List Val}, fitL cs r = true → ∀ x ∈ r, x.t.size ≤ 64
  | [], [], _, x, hx => by cases hx
  | [], _ :: _, h, _, _ => by cases h
  | _ :: _, [], h, _, _ => by cases h
  | c :: cs, v :: r, h, x, hx => by
    have h' : (fitC c v && fitL cs r) = true := h
    rw [Bool.and_eq_true] at h'
    rcases List.mem_cons.1 hx with rfl | hx
    · have h2 := h'.1
      unfold fitC at h2
      rw [Bool.and_eq_true] at h2
      exact small_right h2.1
    · exact txt_fit h'.2 x hx
theorem fits_len {cs : List Col} {r : List Val} (h : fits cs r = true) : r.length = cs.length := by
  unfold fits at h
  rw [Bool.and_eq_true] at h
  exact fitL_len h.2
/-- Rows that are told, in memory of the call's own. -/
def RefOwn (w : World) (rs : List (List Val)) (e : Ending) (w' : World) : Prop := ∃ v' hs, e = .returned v' ∧ OwnVs w' w.heap.size v' hs rs ∧ Below w.heap.size w w'
set_option maxHeartbeats 3200000 in
set_option maxRecDepth 100000 in
theorem refRows_own (v : Value) (rs : List (List Val)) (w : World) (br : BdRs rs) (hv : RowsAt w v rs) :
    Calls Tryd.prog 13 #[v] w (RefOwn w rs) := by
  obtain ⟨ao, cap, rfl, hcap, _⟩ := hv.len
  obtain ⟨i0, hi, hz0, hz1, hz2⟩ := info_parts infoRR
  obtain ⟨n, hn⟩ : ∃ n, rs.length = n := ⟨_, rfl⟩
  have hl := br.len
  have HV := Lib.hid hv
  have BR := Lib.hid br
  rw [hn] at hcap hl HV ⊢
  have HN := Lib.hid hn
  clear hv hn br
  go_enter Tryd.func13, Tryd.ntmps13
  go_wp2_with fail
  go_loopw [3, 8] (fun out i wr => ∃ (k : Nat) (hs : List Value), k ≤ n ∧ i = .int .i64 k ∧ Hid (OwnVs wr w.heap.size out hs (rs.take k)) ∧ Hid (Below w.heap.size w wr)) (fun out i _ => n - (intOf i).toNat)
  case atStart => exact ⟨0, [], Nat.zero_le _, rfl, (⟨rfl, World.ownsRow_nil _ _ _ _, fun i h r hx => by simp at hx⟩ : OwnVs w w.heap.size (.slice none 0 0) [] []), Below.refl _ _⟩
  case round =>
    obtain ⟨k, hs, hk, rfl, HO, BW⟩ := hrel
    by_cases hlt : k < n
    · obtain ⟨r, hr⟩ : ∃ r, rs[k]? = some r := ⟨_, List.getElem?_eq_getElem (by rw [HN.out]; exact hlt)⟩
      obtain ⟨b, o, x, rfl, hb, hc, hx⟩ := RowsAt.row HV.out hr
      replace hc := (BW.out.cell (by exact hb)).trans hc
      have HC := Lib.hid (refRow_is x r wr (by have := (BR.out.row r (List.mem_of_getElem? hr)).len; omega) (hx.below BW.out))
      have HR := Lib.hid hr
      have hlen : Hid (hs.length = k) := by have := HO.out.len; rw [List.length_take, HN.out] at this; show _ = _; omega
      clear hr hx
      go_wp2_with (first | (go_at_call 15; refine HC.out.mono ?_; rintro e w1 ⟨v1, rfl, o1, hb1⟩; obtain ⟨a1, n1, c1, rfl⟩ := o1.sh) | (at_builtin; refine app_one rfl _ _ 32 35 rfl Tryd.underlying32 hi hz0 rfl hz1 hz2 (by decide) w.heap.size u3 hs _ o1.one rfl (HO.out.below hb1).row rfl (by have := hlen.out; omega) (by have := BW.out.size; have := hb1.size; omega) ?_; intro v2 w2 hown2 hgrow2))
      have o1' := o1.base BW.out.size
      have S2 := (HO.out.below hb1).snoc o1' hgrow2 hown2
      have bw2 := (two BW.out hb1).grown hgrow2 (two BW.out hb1).size (fun j hj => ((HO.out.below hb1).row.lt j hj).1)
      go_roundw
      case rel => exact ⟨k + 1, _, by omega, by go_num, (by rw [take_one rs k r HR.out]; exact S2 : OwnVs _ _ _ _ (rs.take (k + 1))), bw2⟩
      case measure => simp [intOf]; omega
    · obtain rfl : k = n := by omega
      go_wp2_with fail
      go_ret
      refine ⟨_, hs, rfl, ?_, BW.out⟩
      have := HO.out
      rw [← HN.out, List.take_length] at this
      exact this
theorem Hg.opened {T : TypeId} {w W : World} {base : Nat} {v h : Value} {hs : List Value} {rs : List (List Val)} (H : Hg T w W base v ([h] ++ hs) rs) : ∃ g n c, v = .slice (some ⟨g, 0, none⟩) n c ∧ ([h] ++ hs).length = n ∧ rs.length = n ∧ n ≤ c := by
  have hl := H.len
  rcases H.row.2 with ⟨_, h2⟩ | ⟨g, cap, cur, rfl, _, _, h3, _⟩
  · simp at h2
  · exact ⟨g, _, cap, rfl, rfl, hl.symm, h3⟩
theorem OwnVs.base {W : World} {base base' : Nat} {v : Value} {hs : List Value} {rs : List (List Val)} (H : OwnVs W base v hs rs) (hb : base' ≤ base) : OwnVs W base' v hs rs := by
  refine ⟨H.len, ⟨H.row.1, ?_⟩, fun i h r h1 h2 => (H.at' i h r h1 h2).base hb⟩
  rcases H.row.2 with h2 | ⟨g, cap, cur, e, hg, x⟩
  · exact .inl h2
  · exact .inr ⟨g, cap, cur, e, by omega, x⟩
theorem OwnVs.made {w W : World} {base : Nat} (hb : base ≤ W.heap.size) : OwnVs (W.alloc (.cells #[] 35)) base (.slice (some ⟨W.heap.size, 0, none⟩) 0 0) [] [] :=
  ⟨rfl, World.ownsRow_made W #[] 0 hb (by unfold maxLen; decide) rfl, fun i h r hx => by simp at hx⟩
theorem OwnVs.sh {W : World} {base : Nat} {v : Value} {hs : List Value} {rs : List (List Val)} (h : OwnVs W base v hs rs) : ∃ ao c, v = .slice ao rs.length c := by
  rcases h.row.2 with ⟨rfl, h2⟩ | ⟨g, cap, cur, rfl, _⟩
  · exact ⟨none, 0, by rw [← h.len, h2]⟩
  · exact ⟨_, _, by rw [← h.len]⟩
set_option maxRecDepth 10000 in
theorem run_app_vs {w : World} {ty : TypeId} {i : TypeInfo} (hi : Tryd.prog.info? 35 = some i) (hz : i.zero = some (.slice none 0 0)) (hsize : i.size = 1) (hby : i.bytes = 24)
    {base : Nat} {v u : Value} {hs gs : List Value} {rs us : List (List Val)} (H : OwnVs w base v hs rs) (Hu : OwnVs w base u gs us) (hl : rs.length + us.length ≤ 10000) (hbase : base ≤ w.heap.size) :
    ∃ v' w', (Builtin.append_ #[32, 32] ty #[v, u]).run Tryd.prog w = .ok v' w' ∧ OwnVs w' base v' (hs ++ gs) (rs ++ us) ∧ w.grownBy w' v.ownBlock := by
  have hlen := H.len
  have hlu := Hu.len
  have ht := Tryd.underlying32
  have key : ∀ v' w', w'.ownsRow base 35 1 v' (hs.length + gs.length) (hs ++ gs) → w.grownBy w' v.ownBlock → OwnVs w' base v' (hs ++ gs) (rs ++ us) := fun v' w' h2 h3 => by
    refine ⟨by simp [hlen, hlu], by rw [List.length_append]; exact h2, fun j x r hx hr => ?_⟩
    rw [List.getElem?_append] at hx hr
    by_cases hj : j < hs.length
    · rw [if_pos hj] at hx
      rw [if_pos (by omega)] at hr
      exact (H.at' j x r hx hr).grown H.row h3
    · rw [if_neg hj] at hx
      rw [if_neg (by omega), ← hlen] at hr
      exact (Hu.at' _ x r hx hr).grown H.row h3
  rcases Hu.row.2 with ⟨rfl, h2⟩ | ⟨g, cap, cur, rfl, hg, hh, _⟩
  · have h0 : gs = [] := List.length_eq_zero_iff.1 h2
    subst h0
    have hu0 : us = [] := List.length_eq_zero_iff.1 (by rw [← hlu]; rfl)
    subst hu0
    exact ⟨v, w, append_nil_src ht hi H.row _, by rw [List.append_nil, List.append_nil]; exact H, World.grownBy.refl _ _⟩
  · obtain ⟨v', w', h1, h2, h3, _⟩ := run_append_own (P := Tryd.prog) w base 32 ty 35 i (.slice none 0 0) 1 24 ht hi hz hsize hby rfl (by decide) v hs.length hs H.row ⟨g, 0, none⟩ gs.length cap gs (by simp) (fun j x hx => by
      have hj := (List.getElem?_eq_some_iff.1 hx).1
      rw [Addr.add_lit, Nat.zero_add, Hu.row.cellAt j (by omega)]
      exact hx) (fun x hx => by
      obtain ⟨j, hj, ej⟩ := List.mem_iff_getElem.1 hx
      exact (Hu.at' j x (us[j]'(by omega)) (by rw [List.getElem?_eq_getElem hj, ej]) (List.getElem?_eq_getElem (by omega))).one) (by unfold maxLen; omega) (by omega) hbase
    exact ⟨v', w', h1, key v' w' h2 h3, h3⟩
theorem wp_app_vs {o : Oper} {a : Act} {K : Act → World → Prop} {Q : Exit → Act → World → Prop} {w : World} (s x : Operand) (ho : o.op = .call { callee := .builtin .append, args := #[s, x], argTypes := #[32, 32] })
    {i : TypeInfo} (hi : Tryd.prog.info? 35 = some i) (hz : i.zero = some (.slice none 0 0)) (hsize : i.size = 1) (hby : i.bytes = 24)
    (base : Nat) (v u : Value) (hs gs : List Value) (rs us : List (List Val)) (hv : a.eval s = v) (hx : a.eval x = u) (H : OwnVs w base v hs rs) (Hu : OwnVs w base u gs us) (hl : rs.length + us.length ≤ 10000) (hbase : base ≤ w.heap.size)
    (h : ∀ v' w', OwnVs w' base v' (hs ++ gs) (rs ++ us) → w.grownBy w' v.ownBlock → K (a.put o.dst v') w') : o.wp Tryd.prog a w K Q := by
  obtain ⟨v', w', h1, h2, h3⟩ := run_app_vs (ty := o.type) hi hz hsize hby H Hu hl hbase
  exact Lib.wp_append_run w s x 32 32 ho v u hv hx v' w' h1 (h v' w' h2 h3)
set_option maxHeartbeats 12800000 in
set_option maxRecDepth 100000 in
theorem unions_n1 (s1 r1 s2 r2 u : Value) (cs ds : List Col) (rs ss : List (List Val)) (r : List Val) (w : World) (hE : EnvT w) (hs : ColsAt w s1 cs) (hv : RowsAt w r1 rs) (hs2 : ColsAt w s2 ds) (hv2 : RowsAt w r2 ss) (hu : RowAt w u r)
    (h1 : ∀ c ∈ cs, c.name.size ≤ maxLen) (h2 : ∀ r ∈ rs, ∀ x ∈ r, x.t.size ≤ maxLen) (k1 : ∀ c ∈ ds, c.name.size ≤ maxLen) (k2 : ∀ r ∈ ss, ∀ x ∈ r, x.t.size ≤ maxLen) (h3 : ∀ x ∈ r, x.t.size ≤ maxLen) (hn : ∀ r ∈ rs, Num r) (kn : ∀ r ∈ ss, Num r) (hnr : Num r) (q1 : Bool) (hq1 : q1 = true ↔ Small cs rs) (hf : q1 = false) :
    Calls Tryd.prog 8 #[.agg #[s1, r1], .agg #[s2, r2], u] w fun e w' => e = .returned (.bool true) ∧ Below w.heap.size w w' := by
  obtain ⟨sa, sc, rfl, _, _⟩ := hs.len
  obtain ⟨ra, rc, rfl, _, _⟩ := hv.len
  obtain ⟨ta, tc, rfl, _, _⟩ := hs2.len
  obtain ⟨qa, qc, rfl, _, _⟩ := hv2.len
  obtain ⟨ua, uc, rfl, _, _⟩ := hu.len
  obtain ⟨sn, hsn⟩ : ∃ n, cs.length = n := ⟨_, rfl⟩
  obtain ⟨rn, hrn⟩ : ∃ n, rs.length = n := ⟨_, rfl⟩
  obtain ⟨tn, htn⟩ : ∃ n, ds.length = n := ⟨_, rfl⟩
  obtain ⟨qn, hqn⟩ : ∃ n, ss.length = n := ⟨_, rfl⟩
  obtain ⟨un, hun⟩ : ∃ n, r.length = n := ⟨_, rfl⟩
  rw [hsn] at hs ⊢
  rw [hrn] at hv ⊢
  rw [htn] at hs2 ⊢
  rw [hqn] at hv2 ⊢
  rw [hun] at hu ⊢
  have HEN := Lib.hid hE
  have HS := Lib.hid hs
  have HV := Lib.hid hv
  have HS2 := Lib.hid hs2
  have HV2 := Lib.hid hv2
  have HU := Lib.hid hu
  have HUN := Lib.hid hun
  have B1 : Hid (Box ((w.alloc (.cells #[.slice sa sn sc, .slice ra rn rc] 26)).alloc (.cells #[.slice ta tn tc, .slice qa qn qc] 26)) w.heap.size [.slice sa sn sc, .slice ra rn rc]) := (Box.new w [.slice sa sn sc, .slice ra rn rc] 26).alloc _
  have B2 : Hid (Box ((w.alloc (.cells #[.slice sa sn sc, .slice ra rn rc] 26)).alloc (.cells #[.slice ta tn tc, .slice qa qn qc] 26)) (w.heap.size + 1) [.slice ta tn tc, .slice qa qn qc]) := by
    have := Box.new (w.alloc (.cells #[.slice sa sn sc, .slice ra rn rc] 26)) [.slice ta tn tc, .slice qa qn qc] 26
    simp only [World.size_alloc] at this
    exact this
  have bw : Hid (Below w.heap.size w ((w.alloc (.cells #[.slice sa sn sc, .slice ra rn rc] 26)).alloc (.cells #[.slice ta tn tc, .slice qa qn qc] 26))) := ((Below.refl _ w).alloc (Nat.le_refl _) _).alloc (by simp) _
  have HAW : Hid (∀ W, Below w.heap.size w W → Calls Tryd.prog 12 #[] W fun e w' => e = .returned (.bool true) ∧ Below W.heap.size W w') := fun W hb => awake_any W (HEN.out.below hb)
  have HSM1 : Hid (∀ W, Below w.heap.size w W → Calls Tryd.prog 9 #[.agg #[.slice sa sn sc, .slice ra rn rc]] W fun e w' => e = .returned (.bool q1) ∧ Below W.heap.size W w') := fun W hb => small_is _ _ cs rs q1 hq1 W (HS.out.below hb) (HV.out.below hb) h1 h2
  subst hf
  clear hs hv hs2 hv2 hu hE h1 h2 k1 k2 h3 hn kn hnr hsn hrn htn hqn hun hq1
  go_enter Tryd.func8, Tryd.ntmps8
  go_wp2_with fail
  obtain ⟨a0, a1, _, _⟩ := B1.out.two
  obtain ⟨b0, b1, _, _⟩ := B2.out.two
  generalize (w.alloc (.cells #[.slice sa sn sc, .slice ra rn rc] 26)).alloc (.cells #[.slice ta tn tc, .slice qa qn qc] 26) = W0 at *
  go_wp2_with (first | (go_at_call 9; refine (HSM1.out _ bw.out).mono ?_; rintro e v1 ⟨rfl, hb1⟩) | (go_at_call 12; refine (HAW.out _ (two bw.out hb1)).mono ?_; rintro e v2 ⟨rfl, hb2⟩))
  go_ret
  exact ⟨rfl, two (two bw.out hb1) hb2⟩
set_option maxHeartbeats 12800000 in
set_option maxRecDepth 100000 in
theorem unions_n2 (s1 r1 s2 r2 u : Value) (cs ds : List Col) (rs ss : List (List Val)) (r : List Val) (w : World) (hE : EnvT w) (hs : ColsAt w s1 cs) (hv : RowsAt w r1 rs) (hs2 : ColsAt w s2 ds) (hv2 : RowsAt w r2 ss) (hu : RowAt w u r)
    (h1 : ∀ c ∈ cs, c.name.size ≤ maxLen) (h2 : ∀ r ∈ rs, ∀ x ∈ r, x.t.size ≤ maxLen) (k1 : ∀ c ∈ ds, c.name.size ≤ maxLen) (k2 : ∀ r ∈ ss, ∀ x ∈ r, x.t.size ≤ maxLen) (h3 : ∀ x ∈ r, x.t.size ≤ maxLen) (hn : ∀ r ∈ rs, Num r) (kn : ∀ r ∈ ss, Num r) (hnr : Num r) (q1 q2 : Bool) (hq1 : q1 = true ↔ Small cs rs) (hq2 : q2 = true ↔ Small ds ss) (ht : q1 = true) (hf : q2 = false) :
    Calls Tryd.prog 8 #[.agg #[s1, r1], .agg #[s2, r2], u] w fun e w' => e = .returned (.bool true) ∧ Below w.heap.size w w' := by
  obtain ⟨sa, sc, rfl, _, _⟩ := hs.len
  obtain ⟨ra, rc, rfl, _, _⟩ := hv.len
  obtain ⟨ta, tc, rfl, _, _⟩ := hs2.len
  obtain ⟨qa, qc, rfl, _, _⟩ := hv2.len
  obtain ⟨ua, uc, rfl, _, _⟩ := hu.len
  obtain ⟨sn, hsn⟩ : ∃ n, cs.length = n := ⟨_, rfl⟩
  obtain ⟨rn, hrn⟩ : ∃ n, rs.length = n := ⟨_, rfl⟩
  obtain ⟨tn, htn⟩ : ∃ n, ds.length = n := ⟨_, rfl⟩
  obtain ⟨qn, hqn⟩ : ∃ n, ss.length = n := ⟨_, rfl⟩
  obtain ⟨un, hun⟩ : ∃ n, r.length = n := ⟨_, rfl⟩
  rw [hsn] at hs ⊢
  rw [hrn] at hv ⊢
  rw [htn] at hs2 ⊢
  rw [hqn] at hv2 ⊢
  rw [hun] at hu ⊢
  have HEN := Lib.hid hE
  have HS := Lib.hid hs
  have HV := Lib.hid hv
  have HS2 := Lib.hid hs2
  have HV2 := Lib.hid hv2
  have HU := Lib.hid hu
  have HUN := Lib.hid hun
  have B1 : Hid (Box ((w.alloc (.cells #[.slice sa sn sc, .slice ra rn rc] 26)).alloc (.cells #[.slice ta tn tc, .slice qa qn qc] 26)) w.heap.size [.slice sa sn sc, .slice ra rn rc]) := (Box.new w [.slice sa sn sc, .slice ra rn rc] 26).alloc _
  have B2 : Hid (Box ((w.alloc (.cells #[.slice sa sn sc, .slice ra rn rc] 26)).alloc (.cells #[.slice ta tn tc, .slice qa qn qc] 26)) (w.heap.size + 1) [.slice ta tn tc, .slice qa qn qc]) := by
    have := Box.new (w.alloc (.cells #[.slice sa sn sc, .slice ra rn rc] 26)) [.slice ta tn tc, .slice qa qn qc] 26
    simp only [World.size_alloc] at this
    exact this
  have bw : Hid (Below w.heap.size w ((w.alloc (.cells #[.slice sa sn sc, .slice ra rn rc] 26)).alloc (.cells #[.slice ta tn tc, .slice qa qn qc] 26))) := ((Below.refl _ w).alloc (Nat.le_refl _) _).alloc (by simp) _
  have HAW : Hid (∀ W, Below w.heap.size w W → Calls Tryd.prog 12 #[] W fun e w' => e = .returned (.bool true) ∧ Below W.heap.size W w') := fun W hb => awake_any W (HEN.out.below hb)
  have HSM1 : Hid (∀ W, Below w.heap.size w W → Calls Tryd.prog 9 #[.agg #[.slice sa sn sc, .slice ra rn rc]] W fun e w' => e = .returned (.bool q1) ∧ Below W.heap.size W w') := fun W hb => small_is _ _ cs rs q1 hq1 W (HS.out.below hb) (HV.out.below hb) h1 h2
  have HSM2 : Hid (∀ W, Below w.heap.size w W → Calls Tryd.prog 9 #[.agg #[.slice ta tn tc, .slice qa qn qc]] W fun e w' => e = .returned (.bool q2) ∧ Below W.heap.size W w') := fun W hb => small_is _ _ ds ss q2 hq2 W (HS2.out.below hb) (HV2.out.below hb) k1 k2
  subst ht
  subst hf
  have tok1 : True := trivial
  clear hs hv hs2 hv2 hu hE h1 h2 k1 k2 h3 hn kn hnr hsn hrn htn hqn hun hq1 hq2
  go_enter Tryd.func8, Tryd.ntmps8
  go_wp2_with fail
  obtain ⟨a0, a1, _, _⟩ := B1.out.two
  obtain ⟨b0, b1, _, _⟩ := B2.out.two
  generalize (w.alloc (.cells #[.slice sa sn sc, .slice ra rn rc] 26)).alloc (.cells #[.slice ta tn tc, .slice qa qn qc] 26) = W0 at *
  go_wp2_with (first | (go_at_call 9; have _t := tok1; refine (HSM1.out _ bw.out).mono ?_; clear tok1; rintro e v1 ⟨rfl, hb1⟩; obtain ⟨b2, b3, _, _⟩ := (B2.out.next hb1).two) | (go_at_call 9; refine (HSM2.out _ (two bw.out hb1)).mono ?_; rintro e v2 ⟨rfl, hb2⟩) | (go_at_call 12; refine (HAW.out _ (two (two bw.out hb1) hb2)).mono ?_; rintro e v3 ⟨rfl, hb3⟩))
  go_ret
  exact ⟨rfl, two (two (two bw.out hb1) hb2) hb3⟩
set_option maxHeartbeats 12800000 in
set_option maxRecDepth 100000 in
theorem unions_n3 (s1 r1 s2 r2 u : Value) (cs ds : List Col) (rs ss : List (List Val)) (r : List Val) (w : World) (hE : EnvT w) (hs : ColsAt w s1 cs) (hv : RowsAt w r1 rs) (hs2 : ColsAt w s2 ds) (hv2 : RowsAt w r2 ss) (hu : RowAt w u r)
    (h1 : ∀ c ∈ cs, c.name.size ≤ maxLen) (h2 : ∀ r ∈ rs, ∀ x ∈ r, x.t.size ≤ maxLen) (k1 : ∀ c ∈ ds, c.name.size ≤ maxLen) (k2 : ∀ r ∈ ss, ∀ x ∈ r, x.t.size ≤ maxLen) (h3 : ∀ x ∈ r, x.t.size ≤ maxLen) (hn : ∀ r ∈ rs, Num r) (kn : ∀ r ∈ ss, Num r) (hnr : Num r) (q1 q2 : Bool) (hq1 : q1 = true ↔ Small cs rs) (hq2 : q2 = true ↔ Small ds ss) (ht : q1 = true) (hf : q2 = true) (hl : 20 < r.length) :
    Calls Tryd.prog 8 #[.agg #[s1, r1], .agg #[s2, r2], u] w fun e w' => e = .returned (.bool true) ∧ Below w.heap.size w w' := by
  obtain ⟨sa, sc, rfl, _, _⟩ := hs.len
  obtain ⟨ra, rc, rfl, _, _⟩ := hv.len
  obtain ⟨ta, tc, rfl, _, _⟩ := hs2.len
  obtain ⟨qa, qc, rfl, _, _⟩ := hv2.len
  obtain ⟨ua, uc, rfl, _, _⟩ := hu.len
  obtain ⟨sn, hsn⟩ : ∃ n, cs.length = n := ⟨_, rfl⟩
  obtain ⟨rn, hrn⟩ : ∃ n, rs.length = n := ⟨_, rfl⟩
  obtain ⟨tn, htn⟩ : ∃ n, ds.length = n := ⟨_, rfl⟩
  obtain ⟨qn, hqn⟩ : ∃ n, ss.length = n := ⟨_, rfl⟩
  obtain ⟨un, hun⟩ : ∃ n, r.length = n := ⟨_, rfl⟩
  rw [hsn] at hs ⊢
  rw [hrn] at hv ⊢
  rw [htn] at hs2 ⊢
  rw [hqn] at hv2 ⊢
  rw [hun] at hu ⊢
  have HEN := Lib.hid hE
  have HS := Lib.hid hs
  have HV := Lib.hid hv
  have HS2 := Lib.hid hs2
  have HV2 := Lib.hid hv2
  have HU := Lib.hid hu
  have HUN := Lib.hid hun
  have B1 : Hid (Box ((w.alloc (.cells #[.slice sa sn sc, .slice ra rn rc] 26)).alloc (.cells #[.slice ta tn tc, .slice qa qn qc] 26)) w.heap.size [.slice sa sn sc, .slice ra rn rc]) := (Box.new w [.slice sa sn sc, .slice ra rn rc] 26).alloc _
  have B2 : Hid (Box ((w.alloc (.cells #[.slice sa sn sc, .slice ra rn rc] 26)).alloc (.cells #[.slice ta tn tc, .slice qa qn qc] 26)) (w.heap.size + 1) [.slice ta tn tc, .slice qa qn qc]) := by
    have := Box.new (w.alloc (.cells #[.slice sa sn sc, .slice ra rn rc] 26)) [.slice ta tn tc, .slice qa qn qc] 26
    simp only [World.size_alloc] at this
    exact this
  have bw : Hid (Below w.heap.size w ((w.alloc (.cells #[.slice sa sn sc, .slice ra rn rc] 26)).alloc (.cells #[.slice ta tn tc, .slice qa qn qc] 26))) := ((Below.refl _ w).alloc (Nat.le_refl _) _).alloc (by simp) _
  have HAW : Hid (∀ W, Below w.heap.size w W → Calls Tryd.prog 12 #[] W fun e w' => e = .returned (.bool true) ∧ Below W.heap.size W w') := fun W hb => awake_any W (HEN.out.below hb)
  have HSM1 : Hid (∀ W, Below w.heap.size w W → Calls Tryd.prog 9 #[.agg #[.slice sa sn sc, .slice ra rn rc]] W fun e w' => e = .returned (.bool q1) ∧ Below W.heap.size W w') := fun W hb => small_is _ _ cs rs q1 hq1 W (HS.out.below hb) (HV.out.below hb) h1 h2
  have HSM2 : Hid (∀ W, Below w.heap.size w W → Calls Tryd.prog 9 #[.agg #[.slice ta tn tc, .slice qa qn qc]] W fun e w' => e = .returned (.bool q2) ∧ Below W.heap.size W w') := fun W hb => small_is _ _ ds ss q2 hq2 W (HS2.out.below hb) (HV2.out.below hb) k1 k2
  subst ht
  subst hf
  have tok1 : True := trivial
  rw [hun] at hl
  have dl : decide ((un : Int) > 20) = true := decide_eq_true (by omega)
  clear hs hv hs2 hv2 hu hE h1 h2 k1 k2 h3 hn kn hnr hsn hrn htn hqn hun hq1 hq2
  go_enter Tryd.func8, Tryd.ntmps8
  go_wp2_with fail
  obtain ⟨a0, a1, _, _⟩ := B1.out.two
  obtain ⟨b0, b1, _, _⟩ := B2.out.two
  generalize (w.alloc (.cells #[.slice sa sn sc, .slice ra rn rc] 26)).alloc (.cells #[.slice ta tn tc, .slice qa qn qc] 26) = W0 at *
  go_wp2_with (first | (go_at_call 9; have _t := tok1; refine (HSM1.out _ bw.out).mono ?_; clear tok1; rintro e v1 ⟨rfl, hb1⟩; obtain ⟨b2, b3, _, _⟩ := (B2.out.next hb1).two) | (go_at_call 9; refine (HSM2.out _ (two bw.out hb1)).mono ?_; rintro e v2 ⟨rfl, hb2⟩; obtain ⟨a4, a5, _, _⟩ := ((B1.out.next hb1).next hb2).two; obtain ⟨b4, b5, _, _⟩ := ((B2.out.next hb1).next hb2).two) | (go_at_call 12; refine (HAW.out _ (two (two bw.out hb1) hb2)).mono ?_; rintro e v3 ⟨rfl, hb3⟩))
  go_ret
  exact ⟨rfl, two (two (two bw.out hb1) hb2) hb3⟩
set_option maxHeartbeats 12800000 in
set_option maxRecDepth 100000 in
theorem unions_a (s1 r1 s2 r2 u : Value) (cs ds : List Col) (rs ss : List (List Val)) (r : List Val) (w : World) (hE : EnvT w) (hs : ColsAt w s1 cs) (hv : RowsAt w r1 rs) (hs2 : ColsAt w s2 ds) (hv2 : RowsAt w r2 ss) (hu : RowAt w u r)
    (h1 : ∀ c ∈ cs, c.name.size ≤ maxLen) (h2 : ∀ r ∈ rs, ∀ x ∈ r, x.t.size ≤ maxLen) (k1 : ∀ c ∈ ds, c.name.size ≤ maxLen) (k2 : ∀ r ∈ ss, ∀ x ∈ r, x.t.size ≤ maxLen) (h3 : ∀ x ∈ r, x.t.size ≤ maxLen) (hn : ∀ r ∈ rs, Num r) (kn : ∀ r ∈ ss, Num r) (hnr : Num r) (q1 q2 : Bool) (hq1 : q1 = true ↔ Small cs rs) (hq2 : q2 = true ↔ Small ds ss) (ht : q1 = true) (hf : q2 = true) (hl : r.length ≤ 20) (E : Int) (hUE : UnionE cs ds rs ss E) (hF : errT cs rs = E) (h0 : E ≠ 0) :
    Calls Tryd.prog 8 #[.agg #[s1, r1], .agg #[s2, r2], u] w fun e w' => e = .returned (.bool true) ∧ Below w.heap.size w w' := by
  obtain ⟨sa, sc, rfl, _, _⟩ := hs.len
  obtain ⟨ra, rc, rfl, _, _⟩ := hv.len
  obtain ⟨ta, tc, rfl, _, _⟩ := hs2.len
  obtain ⟨qa, qc, rfl, _, _⟩ := hv2.len
  obtain ⟨ua, uc, rfl, _, _⟩ := hu.len
  obtain ⟨sn, hsn⟩ : ∃ n, cs.length = n := ⟨_, rfl⟩
  obtain ⟨rn, hrn⟩ : ∃ n, rs.length = n := ⟨_, rfl⟩
  obtain ⟨tn, htn⟩ : ∃ n, ds.length = n := ⟨_, rfl⟩
  obtain ⟨qn, hqn⟩ : ∃ n, ss.length = n := ⟨_, rfl⟩
  obtain ⟨un, hun⟩ : ∃ n, r.length = n := ⟨_, rfl⟩
  rw [hsn] at hs ⊢
  rw [hrn] at hv ⊢
  rw [htn] at hs2 ⊢
  rw [hqn] at hv2 ⊢
  rw [hun] at hu ⊢
  have HEN := Lib.hid hE
  have HS := Lib.hid hs
  have HV := Lib.hid hv
  have HS2 := Lib.hid hs2
  have HV2 := Lib.hid hv2
  have HU := Lib.hid hu
  have HUN := Lib.hid hun
  have B1 : Hid (Box ((w.alloc (.cells #[.slice sa sn sc, .slice ra rn rc] 26)).alloc (.cells #[.slice ta tn tc, .slice qa qn qc] 26)) w.heap.size [.slice sa sn sc, .slice ra rn rc]) := (Box.new w [.slice sa sn sc, .slice ra rn rc] 26).alloc _
  have B2 : Hid (Box ((w.alloc (.cells #[.slice sa sn sc, .slice ra rn rc] 26)).alloc (.cells #[.slice ta tn tc, .slice qa qn qc] 26)) (w.heap.size + 1) [.slice ta tn tc, .slice qa qn qc]) := by
    have := Box.new (w.alloc (.cells #[.slice sa sn sc, .slice ra rn rc] 26)) [.slice ta tn tc, .slice qa qn qc] 26
    simp only [World.size_alloc] at this
    exact this
  have bw : Hid (Below w.heap.size w ((w.alloc (.cells #[.slice sa sn sc, .slice ra rn rc] 26)).alloc (.cells #[.slice ta tn tc, .slice qa qn qc] 26))) := ((Below.refl _ w).alloc (Nat.le_refl _) _).alloc (by simp) _
  have HAW : Hid (∀ W, Below w.heap.size w W → Calls Tryd.prog 12 #[] W fun e w' => e = .returned (.bool true) ∧ Below W.heap.size W w') := fun W hb => awake_any W (HEN.out.below hb)
  have HSM1 : Hid (∀ W, Below w.heap.size w W → Calls Tryd.prog 9 #[.agg #[.slice sa sn sc, .slice ra rn rc]] W fun e w' => e = .returned (.bool q1) ∧ Below W.heap.size W w') := fun W hb => small_is _ _ cs rs q1 hq1 W (HS.out.below hb) (HV.out.below hb) h1 h2
  have HSM2 : Hid (∀ W, Below w.heap.size w W → Calls Tryd.prog 9 #[.agg #[.slice ta tn tc, .slice qa qn qc]] W fun e w' => e = .returned (.bool q2) ∧ Below W.heap.size W w') := fun W hb => small_is _ _ ds ss q2 hq2 W (HS2.out.below hb) (HV2.out.below hb) k1 k2
  have hS1 := hq1.1 ht
  have hS2 := hq2.1 hf
  have BC := Lib.hid hS1.bc
  have BR := Lib.hid (hS1.br hn)
  have BC2 := Lib.hid hS2.bc
  have BR2 := Lib.hid (hS2.br kn)
  have SM := Lib.hid (And.intro hS1 hS2)
  have LL : Hid (rs.length + ss.length ≤ 4096) := by have := hS1.r1; have := hS2.r1; show _ ≤ _; omega
  have HUE := Lib.hid hUE
  rw [hun] at hl
  have dl : decide ((un : Int) > 20) = false := decide_eq_false (by omega)
  have H3 := Lib.hid h3
  have HNR := Lib.hid hnr
  have HUNI : Hid (∀ W, Below w.heap.size w W → Calls Tryd.prog 30 #[.agg #[.slice sa sn sc, .slice ra rn rc], .agg #[.slice ta tn tc, .slice qa qn qc]] W (MadeAny cs (rs ++ ss) E W)) := fun W hb => union_any _ _ _ _ cs ds rs ss W BC.out BR.out BC2.out BR2.out (HS.out.below hb) (HV.out.below hb) (HS2.out.below hb) (HV2.out.below hb) LL.out E HUE.out
  have HR1 : Hid (∀ W, Below w.heap.size w W → Calls Tryd.prog 10 #[.agg #[.slice sa sn sc, .slice ra rn rc]] W fun e w' => e = .returned (.int .i64 E) ∧ Below W.heap.size W w') := fun W hb => right3_is hF W BC.out BR.out (HS.out.below hb) (HV.out.below hb)
  have NE : Hid (∀ {W : World} {ma : Option Addr} {mn mc : Nat} {na : Option Addr} {nn nc : Nat}, ((E = 0 ∧ ColsAt W (.slice ma mn mc) cs ∧ RowsAt W (.slice na nn nc) (sortR (rs ++ ss))) ∨ (E ≠ 0 ∧ ma = none ∧ mn = 0 ∧ mc = 0 ∧ na = none ∧ nn = 0 ∧ nc = 0)) → ma = none ∧ mn = 0 ∧ mc = 0 ∧ na = none ∧ nn = 0 ∧ nc = 0) := fun h => by
    rcases h with ⟨g1, _⟩ | ⟨_, g1⟩
    · exact absurd g1 h0
    · exact g1
  subst ht
  subst hf
  have tok1 : True := trivial
  have tok2 : True := trivial
  have d0 : (E != 0) = true := by simpa using h0
  have d1 : (E == 0) = false := by simpa using h0
  clear hF h0
  clear hs hv hs2 hv2 hu hE h1 h2 k1 k2 h3 hn kn hnr hsn hrn htn hqn hun hq1 hq2 hS1 hS2 hUE
  go_enter Tryd.func8, Tryd.ntmps8
  go_wp2_with fail
  obtain ⟨a0, a1, _, _⟩ := B1.out.two
  obtain ⟨b0, b1, _, _⟩ := B2.out.two
  generalize (w.alloc (.cells #[.slice sa sn sc, .slice ra rn rc] 26)).alloc (.cells #[.slice ta tn tc, .slice qa qn qc] 26) = W0 at *
  go_wp2_with (first | (go_at_call 9; have _t := tok1; refine (HSM1.out _ bw.out).mono ?_; clear tok1; rintro e v1 ⟨rfl, hb1⟩; obtain ⟨b2, b3, _, _⟩ := (B2.out.next hb1).two) | (go_at_call 9; refine (HSM2.out _ (two bw.out hb1)).mono ?_; rintro e v2 ⟨rfl, hb2⟩; obtain ⟨a4, a5, _, _⟩ := ((B1.out.next hb1).next hb2).two; obtain ⟨b4, b5, _, _⟩ := ((B2.out.next hb1).next hb2).two) | (go_at_call 30; refine (HUNI.out _ (two (two bw.out hb1) hb2)).mono ?_; rintro e v3 ⟨ma, mn, mc, na, nn, nc, rfl, hb3, hma⟩; obtain ⟨rfl, rfl, rfl, rfl, rfl, rfl⟩ : ma = none ∧ mn = 0 ∧ mc = 0 ∧ na = none ∧ nn = 0 ∧ nc = 0 := NE.out hma; have hb4 := balloc v3 (.cells #[.slice none 0 0, .slice none 0 0] 26); have RB1 := Lib.hid ((((B1.out.next hb1).next hb2).next hb3).next hb4); have RB2 := Lib.hid ((((B2.out.next hb1).next hb2).next hb3).next hb4); have RB3 := Lib.hid (Box.new v3 [.slice none 0 0, .slice none 0 0] 26); obtain ⟨a6, a7, _, _⟩ := RB1.out.two; have bw4 := Lib.hid (two (two (two (two bw.out hb1) hb2) hb3) hb4); clear hma) | (go_at_call 10; refine (HR1.out _ bw4.out).mono ?_; rintro e v5 ⟨rfl, hb5⟩; obtain ⟨m0, m1, _, _⟩ := (RB3.out.next hb5).two) | (go_at_call 26; refine (empty_is _).mono ?_; rintro e v7 ⟨rfl, hb7⟩) | (go_at_call 12; refine (HAW.out _ (two (two bw4.out hb5) hb7)).mono ?_; rintro e v8 ⟨rfl, hb8⟩))
  go_ret
  exact ⟨rfl, two (two (two bw4.out hb5) hb7) hb8⟩
set_option maxHeartbeats 12800000 in
set_option maxRecDepth 100000 in
theorem unions_b (s1 r1 s2 r2 u : Value) (cs ds : List Col) (rs ss : List (List Val)) (r : List Val) (w : World) (hE : EnvT w) (hs : ColsAt w s1 cs) (hv : RowsAt w r1 rs) (hs2 : ColsAt w s2 ds) (hv2 : RowsAt w r2 ss) (hu : RowAt w u r)
    (h1 : ∀ c ∈ cs, c.name.size ≤ maxLen) (h2 : ∀ r ∈ rs, ∀ x ∈ r, x.t.size ≤ maxLen) (k1 : ∀ c ∈ ds, c.name.size ≤ maxLen) (k2 : ∀ r ∈ ss, ∀ x ∈ r, x.t.size ≤ maxLen) (h3 : ∀ x ∈ r, x.t.size ≤ maxLen) (hn : ∀ r ∈ rs, Num r) (kn : ∀ r ∈ ss, Num r) (hnr : Num r) (q1 q2 : Bool) (hq1 : q1 = true ↔ Small cs rs) (hq2 : q2 = true ↔ Small ds ss) (ht : q1 = true) (hf : q2 = true) (hl : r.length ≤ 20) (E : Int) (hUE : UnionE cs ds rs ss E) (hF : errT cs rs = 0) (hG : errT ds ss = E) (h0 : E ≠ 0) :
    Calls Tryd.prog 8 #[.agg #[s1, r1], .agg #[s2, r2], u] w fun e w' => e = .returned (.bool true) ∧ Below w.heap.size w w' := by
  obtain ⟨sa, sc, rfl, _, _⟩ := hs.len
  obtain ⟨ra, rc, rfl, _, _⟩ := hv.len
  obtain ⟨ta, tc, rfl, _, _⟩ := hs2.len
  obtain ⟨qa, qc, rfl, _, _⟩ := hv2.len
  obtain ⟨ua, uc, rfl, _, _⟩ := hu.len
  obtain ⟨sn, hsn⟩ : ∃ n, cs.length = n := ⟨_, rfl⟩
  obtain ⟨rn, hrn⟩ : ∃ n, rs.length = n := ⟨_, rfl⟩
  obtain ⟨tn, htn⟩ : ∃ n, ds.length = n := ⟨_, rfl⟩
  obtain ⟨qn, hqn⟩ : ∃ n, ss.length = n := ⟨_, rfl⟩
  obtain ⟨un, hun⟩ : ∃ n, r.length = n := ⟨_, rfl⟩
  rw [hsn] at hs ⊢
  rw [hrn] at hv ⊢
  rw [htn] at hs2 ⊢
  rw [hqn] at hv2 ⊢
  rw [hun] at hu ⊢
  have HEN := Lib.hid hE
  have HS := Lib.hid hs
  have HV := Lib.hid hv
  have HS2 := Lib.hid hs2
  have HV2 := Lib.hid hv2
  have HU := Lib.hid hu
  have HUN := Lib.hid hun
  have B1 : Hid (Box ((w.alloc (.cells #[.slice sa sn sc, .slice ra rn rc] 26)).alloc (.cells #[.slice ta tn tc, .slice qa qn qc] 26)) w.heap.size [.slice sa sn sc, .slice ra rn rc]) := (Box.new w [.slice sa sn sc, .slice ra rn rc] 26).alloc _
  have B2 : Hid (Box ((w.alloc (.cells #[.slice sa sn sc, .slice ra rn rc] 26)).alloc (.cells #[.slice ta tn tc, .slice qa qn qc] 26)) (w.heap.size + 1) [.slice ta tn tc, .slice qa qn qc]) := by
    have := Box.new (w.alloc (.cells #[.slice sa sn sc, .slice ra rn rc] 26)) [.slice ta tn tc, .slice qa qn qc] 26
    simp only [World.size_alloc] at this
    exact this
  have bw : Hid (Below w.heap.size w ((w.alloc (.cells #[.slice sa sn sc, .slice ra rn rc] 26)).alloc (.cells #[.slice ta tn tc, .slice qa qn qc] 26))) := ((Below.refl _ w).alloc (Nat.le_refl _) _).alloc (by simp) _
  have HAW : Hid (∀ W, Below w.heap.size w W → Calls Tryd.prog 12 #[] W fun e w' => e = .returned (.bool true) ∧ Below W.heap.size W w') := fun W hb => awake_any W (HEN.out.below hb)
  have HSM1 : Hid (∀ W, Below w.heap.size w W → Calls Tryd.prog 9 #[.agg #[.slice sa sn sc, .slice ra rn rc]] W fun e w' => e = .returned (.bool q1) ∧ Below W.heap.size W w') := fun W hb => small_is _ _ cs rs q1 hq1 W (HS.out.below hb) (HV.out.below hb) h1 h2
  have HSM2 : Hid (∀ W, Below w.heap.size w W → Calls Tryd.prog 9 #[.agg #[.slice ta tn tc, .slice qa qn qc]] W fun e w' => e = .returned (.bool q2) ∧ Below W.heap.size W w') := fun W hb => small_is _ _ ds ss q2 hq2 W (HS2.out.below hb) (HV2.out.below hb) k1 k2
  have hS1 := hq1.1 ht
  have hS2 := hq2.1 hf
  have BC := Lib.hid hS1.bc
  have BR := Lib.hid (hS1.br hn)
  have BC2 := Lib.hid hS2.bc
  have BR2 := Lib.hid (hS2.br kn)
  have SM := Lib.hid (And.intro hS1 hS2)
  have LL : Hid (rs.length + ss.length ≤ 4096) := by have := hS1.r1; have := hS2.r1; show _ ≤ _; omega
  have HUE := Lib.hid hUE
  rw [hun] at hl
  have dl : decide ((un : Int) > 20) = false := decide_eq_false (by omega)
  have H3 := Lib.hid h3
  have HNR := Lib.hid hnr
  have HUNI : Hid (∀ W, Below w.heap.size w W → Calls Tryd.prog 30 #[.agg #[.slice sa sn sc, .slice ra rn rc], .agg #[.slice ta tn tc, .slice qa qn qc]] W (MadeAny cs (rs ++ ss) E W)) := fun W hb => union_any _ _ _ _ cs ds rs ss W BC.out BR.out BC2.out BR2.out (HS.out.below hb) (HV.out.below hb) (HS2.out.below hb) (HV2.out.below hb) LL.out E HUE.out
  have HR1 : Hid (∀ W, Below w.heap.size w W → Calls Tryd.prog 10 #[.agg #[.slice sa sn sc, .slice ra rn rc]] W fun e w' => e = .returned (.int .i64 0) ∧ Below W.heap.size W w') := fun W hb => right3_is hF W BC.out BR.out (HS.out.below hb) (HV.out.below hb)
  have HR2 : Hid (∀ W, Below w.heap.size w W → Calls Tryd.prog 10 #[.agg #[.slice ta tn tc, .slice qa qn qc]] W fun e w' => e = .returned (.int .i64 E) ∧ Below W.heap.size W w') := fun W hb => right3_is hG W BC2.out BR2.out (HS2.out.below hb) (HV2.out.below hb)
  have NE : Hid (∀ {W : World} {ma : Option Addr} {mn mc : Nat} {na : Option Addr} {nn nc : Nat}, ((E = 0 ∧ ColsAt W (.slice ma mn mc) cs ∧ RowsAt W (.slice na nn nc) (sortR (rs ++ ss))) ∨ (E ≠ 0 ∧ ma = none ∧ mn = 0 ∧ mc = 0 ∧ na = none ∧ nn = 0 ∧ nc = 0)) → ma = none ∧ mn = 0 ∧ mc = 0 ∧ na = none ∧ nn = 0 ∧ nc = 0) := fun h => by
    rcases h with ⟨g1, _⟩ | ⟨_, g1⟩
    · exact absurd g1 h0
    · exact g1
  subst ht
  subst hf
  have tok1 : True := trivial
  have tok2 : True := trivial
  have d0 : (E != 0) = true := by simpa using h0
  have d1 : (E == 0) = false := by simpa using h0
  clear hF hG h0
  clear hs hv hs2 hv2 hu hE h1 h2 k1 k2 h3 hn kn hnr hsn hrn htn hqn hun hq1 hq2 hS1 hS2 hUE
  go_enter Tryd.func8, Tryd.ntmps8
  go_wp2_with fail
  obtain ⟨a0, a1, _, _⟩ := B1.out.two
  obtain ⟨b0, b1, _, _⟩ := B2.out.two
  generalize (w.alloc (.cells #[.slice sa sn sc, .slice ra rn rc] 26)).alloc (.cells #[.slice ta tn tc, .slice qa qn qc] 26) = W0 at *
  go_wp2_with (first | (go_at_call 9; have _t := tok1; refine (HSM1.out _ bw.out).mono ?_; clear tok1; rintro e v1 ⟨rfl, hb1⟩; obtain ⟨b2, b3, _, _⟩ := (B2.out.next hb1).two) | (go_at_call 9; refine (HSM2.out _ (two bw.out hb1)).mono ?_; rintro e v2 ⟨rfl, hb2⟩; obtain ⟨a4, a5, _, _⟩ := ((B1.out.next hb1).next hb2).two; obtain ⟨b4, b5, _, _⟩ := ((B2.out.next hb1).next hb2).two) | (go_at_call 30; refine (HUNI.out _ (two (two bw.out hb1) hb2)).mono ?_; rintro e v3 ⟨ma, mn, mc, na, nn, nc, rfl, hb3, hma⟩; obtain ⟨rfl, rfl, rfl, rfl, rfl, rfl⟩ : ma = none ∧ mn = 0 ∧ mc = 0 ∧ na = none ∧ nn = 0 ∧ nc = 0 := NE.out hma; have hb4 := balloc v3 (.cells #[.slice none 0 0, .slice none 0 0] 26); have RB1 := Lib.hid ((((B1.out.next hb1).next hb2).next hb3).next hb4); have RB2 := Lib.hid ((((B2.out.next hb1).next hb2).next hb3).next hb4); have RB3 := Lib.hid (Box.new v3 [.slice none 0 0, .slice none 0 0] 26); obtain ⟨a6, a7, _, _⟩ := RB1.out.two; have bw4 := Lib.hid (two (two (two (two bw.out hb1) hb2) hb3) hb4); clear hma; obtain ⟨b6, b7, _, _⟩ := RB2.out.two) | (go_at_call 10; have _t := tok2; refine (HR1.out _ bw4.out).mono ?_; clear tok2; rintro e v5 ⟨rfl, hb5⟩; obtain ⟨b8, b9, _, _⟩ := (RB2.out.next hb5).two) | (go_at_call 10; refine (HR2.out _ (two bw4.out hb5)).mono ?_; rintro e v6 ⟨rfl, hb6⟩; obtain ⟨m0, m1, _, _⟩ := ((RB3.out.next hb5).next hb6).two) | (go_at_call 26; refine (empty_is _).mono ?_; rintro e v7 ⟨rfl, hb7⟩) | (go_at_call 12; refine (HAW.out _ (two (two (two bw4.out hb5) hb6) hb7)).mono ?_; rintro e v8 ⟨rfl, hb8⟩))
  go_ret
  exact ⟨rfl, two (two (two (two bw4.out hb5) hb6) hb7) hb8⟩
set_option maxHeartbeats 12800000 in
set_option maxRecDepth 100000 in
theorem unions_c (s1 r1 s2 r2 u : Value) (cs ds : List Col) (rs ss : List (List Val)) (r : List Val) (w : World) (hE : EnvT w) (hs : ColsAt w s1 cs) (hv : RowsAt w r1 rs) (hs2 : ColsAt w s2 ds) (hv2 : RowsAt w r2 ss) (hu : RowAt w u r)
    (h1 : ∀ c ∈ cs, c.name.size ≤ maxLen) (h2 : ∀ r ∈ rs, ∀ x ∈ r, x.t.size ≤ maxLen) (k1 : ∀ c ∈ ds, c.name.size ≤ maxLen) (k2 : ∀ r ∈ ss, ∀ x ∈ r, x.t.size ≤ maxLen) (h3 : ∀ x ∈ r, x.t.size ≤ maxLen) (hn : ∀ r ∈ rs, Num r) (kn : ∀ r ∈ ss, Num r) (hnr : Num r) (q1 q2 : Bool) (hq1 : q1 = true ↔ Small cs rs) (hq2 : q2 = true ↔ Small ds ss) (ht : q1 = true) (hf : q2 = true) (hl : r.length ≤ 20) (E : Int) (hUE : UnionE cs ds rs ss E) (hF : errT cs rs = 0) (hG : errT ds ss = 0) (hne : cs ≠ ds) (hE12 : E = 12) :
    Calls Tryd.prog 8 #[.agg #[s1, r1], .agg #[s2, r2], u] w fun e w' => e = .returned (.bool true) ∧ Below w.heap.size w w' := by
  obtain ⟨sa, sc, rfl, _, _⟩ := hs.len
  obtain ⟨ra, rc, rfl, _, _⟩ := hv.len
  obtain ⟨ta, tc, rfl, _, _⟩ := hs2.len
  obtain ⟨qa, qc, rfl, _, _⟩ := hv2.len
  obtain ⟨ua, uc, rfl, _, _⟩ := hu.len
  obtain ⟨sn, hsn⟩ : ∃ n, cs.length = n := ⟨_, rfl⟩
  obtain ⟨rn, hrn⟩ : ∃ n, rs.length = n := ⟨_, rfl⟩
  obtain ⟨tn, htn⟩ : ∃ n, ds.length = n := ⟨_, rfl⟩
  obtain ⟨qn, hqn⟩ : ∃ n, ss.length = n := ⟨_, rfl⟩
  obtain ⟨un, hun⟩ : ∃ n, r.length = n := ⟨_, rfl⟩
  rw [hsn] at hs ⊢
  rw [hrn] at hv ⊢
  rw [htn] at hs2 ⊢
  rw [hqn] at hv2 ⊢
  rw [hun] at hu ⊢
  have HEN := Lib.hid hE
  have HS := Lib.hid hs
  have HV := Lib.hid hv
  have HS2 := Lib.hid hs2
  have HV2 := Lib.hid hv2
  have HU := Lib.hid hu
  have HUN := Lib.hid hun
  have B1 : Hid (Box ((w.alloc (.cells #[.slice sa sn sc, .slice ra rn rc] 26)).alloc (.cells #[.slice ta tn tc, .slice qa qn qc] 26)) w.heap.size [.slice sa sn sc, .slice ra rn rc]) := (Box.new w [.slice sa sn sc, .slice ra rn rc] 26).alloc _
  have B2 : Hid (Box ((w.alloc (.cells #[.slice sa sn sc, .slice ra rn rc] 26)).alloc (.cells #[.slice ta tn tc, .slice qa qn qc] 26)) (w.heap.size + 1) [.slice ta tn tc, .slice qa qn qc]) := by
    have := Box.new (w.alloc (.cells #[.slice sa sn sc, .slice ra rn rc] 26)) [.slice ta tn tc, .slice qa qn qc] 26
    simp only [World.size_alloc] at this
    exact this
  have bw : Hid (Below w.heap.size w ((w.alloc (.cells #[.slice sa sn sc, .slice ra rn rc] 26)).alloc (.cells #[.slice ta tn tc, .slice qa qn qc] 26))) := ((Below.refl _ w).alloc (Nat.le_refl _) _).alloc (by simp) _
  have HAW : Hid (∀ W, Below w.heap.size w W → Calls Tryd.prog 12 #[] W fun e w' => e = .returned (.bool true) ∧ Below W.heap.size W w') := fun W hb => awake_any W (HEN.out.below hb)
  have HSM1 : Hid (∀ W, Below w.heap.size w W → Calls Tryd.prog 9 #[.agg #[.slice sa sn sc, .slice ra rn rc]] W fun e w' => e = .returned (.bool q1) ∧ Below W.heap.size W w') := fun W hb => small_is _ _ cs rs q1 hq1 W (HS.out.below hb) (HV.out.below hb) h1 h2
  have HSM2 : Hid (∀ W, Below w.heap.size w W → Calls Tryd.prog 9 #[.agg #[.slice ta tn tc, .slice qa qn qc]] W fun e w' => e = .returned (.bool q2) ∧ Below W.heap.size W w') := fun W hb => small_is _ _ ds ss q2 hq2 W (HS2.out.below hb) (HV2.out.below hb) k1 k2
  have hS1 := hq1.1 ht
  have hS2 := hq2.1 hf
  have BC := Lib.hid hS1.bc
  have BR := Lib.hid (hS1.br hn)
  have BC2 := Lib.hid hS2.bc
  have BR2 := Lib.hid (hS2.br kn)
  have SM := Lib.hid (And.intro hS1 hS2)
  have LL : Hid (rs.length + ss.length ≤ 4096) := by have := hS1.r1; have := hS2.r1; show _ ≤ _; omega
  have HUE := Lib.hid hUE
  rw [hun] at hl
  have dl : decide ((un : Int) > 20) = false := decide_eq_false (by omega)
  have H3 := Lib.hid h3
  have HNR := Lib.hid hnr
  have HUNI : Hid (∀ W, Below w.heap.size w W → Calls Tryd.prog 30 #[.agg #[.slice sa sn sc, .slice ra rn rc], .agg #[.slice ta tn tc, .slice qa qn qc]] W (MadeAny cs (rs ++ ss) E W)) := fun W hb => union_any _ _ _ _ cs ds rs ss W BC.out BR.out BC2.out BR2.out (HS.out.below hb) (HV.out.below hb) (HS2.out.below hb) (HV2.out.below hb) LL.out E HUE.out
  have HR1 : Hid (∀ W, Below w.heap.size w W → Calls Tryd.prog 10 #[.agg #[.slice sa sn sc, .slice ra rn rc]] W fun e w' => e = .returned (.int .i64 0) ∧ Below W.heap.size W w') := fun W hb => right3_is hF W BC.out BR.out (HS.out.below hb) (HV.out.below hb)
  have HR2 : Hid (∀ W, Below w.heap.size w W → Calls Tryd.prog 10 #[.agg #[.slice ta tn tc, .slice qa qn qc]] W fun e w' => e = .returned (.int .i64 0) ∧ Below W.heap.size W w') := fun W hb => right3_is hG W BC2.out BR2.out (HS2.out.below hb) (HV2.out.below hb)
  obtain ⟨q, hqf, hq⟩ : ∃ q : Bool, q = false ∧ (cs = ds ↔ q = true) := ⟨false, rfl, by simp [hne]⟩
  have HSE : Hid (∀ W, Below w.heap.size w W → Calls Tryd.prog 27 #[.slice sa sn sc, .slice ta tn tc] W fun e w' => e = .returned (.bool q) ∧ Below W.heap.size W w') := fun W hb => schEq_is _ _ cs ds q hq W BC.out.len BC2.out.len (HS.out.below hb) (HS2.out.below hb)
  have h0 : E ≠ 0 := by omega
  have NE : Hid (∀ {W : World} {ma : Option Addr} {mn mc : Nat} {na : Option Addr} {nn nc : Nat}, ((E = 0 ∧ ColsAt W (.slice ma mn mc) cs ∧ RowsAt W (.slice na nn nc) (sortR (rs ++ ss))) ∨ (E ≠ 0 ∧ ma = none ∧ mn = 0 ∧ mc = 0 ∧ na = none ∧ nn = 0 ∧ nc = 0)) → ma = none ∧ mn = 0 ∧ mc = 0 ∧ na = none ∧ nn = 0 ∧ nc = 0) := fun h => by
    rcases h with ⟨g1, _⟩ | ⟨_, g1⟩
    · exact absurd g1 h0
    · exact g1
  subst ht
  subst hf
  have tok1 : True := trivial
  have tok2 : True := trivial
  subst hqf
  subst hE12
  clear hF hG h0 hne hq
  clear hs hv hs2 hv2 hu hE h1 h2 k1 k2 h3 hn kn hnr hsn hrn htn hqn hun hq1 hq2 hS1 hS2 hUE
  go_enter Tryd.func8, Tryd.ntmps8
  go_wp2_with fail
  obtain ⟨a0, a1, _, _⟩ := B1.out.two
  obtain ⟨b0, b1, _, _⟩ := B2.out.two
  generalize (w.alloc (.cells #[.slice sa sn sc, .slice ra rn rc] 26)).alloc (.cells #[.slice ta tn tc, .slice qa qn qc] 26) = W0 at *
  go_wp2_with (first | (go_at_call 9; have _t := tok1; refine (HSM1.out _ bw.out).mono ?_; clear tok1; rintro e v1 ⟨rfl, hb1⟩; obtain ⟨b2, b3, _, _⟩ := (B2.out.next hb1).two) | (go_at_call 9; refine (HSM2.out _ (two bw.out hb1)).mono ?_; rintro e v2 ⟨rfl, hb2⟩; obtain ⟨a4, a5, _, _⟩ := ((B1.out.next hb1).next hb2).two; obtain ⟨b4, b5, _, _⟩ := ((B2.out.next hb1).next hb2).two) | (go_at_call 30; refine (HUNI.out _ (two (two bw.out hb1) hb2)).mono ?_; rintro e v3 ⟨ma, mn, mc, na, nn, nc, rfl, hb3, hma⟩; obtain ⟨rfl, rfl, rfl, rfl, rfl, rfl⟩ : ma = none ∧ mn = 0 ∧ mc = 0 ∧ na = none ∧ nn = 0 ∧ nc = 0 := NE.out hma; have hb4 := balloc v3 (.cells #[.slice none 0 0, .slice none 0 0] 26); have RB1 := Lib.hid ((((B1.out.next hb1).next hb2).next hb3).next hb4); have RB2 := Lib.hid ((((B2.out.next hb1).next hb2).next hb3).next hb4); have RB3 := Lib.hid (Box.new v3 [.slice none 0 0, .slice none 0 0] 26); obtain ⟨a6, a7, _, _⟩ := RB1.out.two; have bw4 := Lib.hid (two (two (two (two bw.out hb1) hb2) hb3) hb4); clear hma; obtain ⟨b6, b7, _, _⟩ := RB2.out.two) | (go_at_call 10; have _t := tok2; refine (HR1.out _ bw4.out).mono ?_; clear tok2; rintro e v5 ⟨rfl, hb5⟩; obtain ⟨b8, b9, _, _⟩ := (RB2.out.next hb5).two) | (go_at_call 10; refine (HR2.out _ (two bw4.out hb5)).mono ?_; rintro e v6 ⟨rfl, hb6⟩; obtain ⟨a8, a9, _, _⟩ := ((RB1.out.next hb5).next hb6).two; obtain ⟨b10, b11, _, _⟩ := ((RB2.out.next hb5).next hb6).two) | (go_at_call 27; refine (HSE.out _ (two (two bw4.out hb5) hb6)).mono ?_; rintro e v9 ⟨rfl, hb9⟩; obtain ⟨m0, m1, _, _⟩ := (((RB3.out.next hb5).next hb6).next hb9).two) | (go_at_call 26; refine (empty_is _).mono ?_; rintro e v7 ⟨rfl, hb7⟩) | (go_at_call 12; refine (HAW.out _ (two (two (two (two bw4.out hb5) hb6) hb9) hb7)).mono ?_; rintro e v8 ⟨rfl, hb8⟩))
  go_ret
  exact ⟨rfl, two (two (two (two (two bw4.out hb5) hb6) hb9) hb7) hb8⟩
set_option maxHeartbeats 12800000 in
set_option maxRecDepth 100000 in
theorem unions_d (s1 r1 s2 r2 u : Value) (cs ds : List Col) (rs ss : List (List Val)) (r : List Val) (w : World) (hE : EnvT w) (hs : ColsAt w s1 cs) (hv : RowsAt w r1 rs) (hs2 : ColsAt w s2 ds) (hv2 : RowsAt w r2 ss) (hu : RowAt w u r)
    (h1 : ∀ c ∈ cs, c.name.size ≤ maxLen) (h2 : ∀ r ∈ rs, ∀ x ∈ r, x.t.size ≤ maxLen) (k1 : ∀ c ∈ ds, c.name.size ≤ maxLen) (k2 : ∀ r ∈ ss, ∀ x ∈ r, x.t.size ≤ maxLen) (h3 : ∀ x ∈ r, x.t.size ≤ maxLen) (hn : ∀ r ∈ rs, Num r) (kn : ∀ r ∈ ss, Num r) (hnr : Num r) (q1 q2 : Bool) (hq1 : q1 = true ↔ Small cs rs) (hq2 : q2 = true ↔ Small ds ss) (ht : q1 = true) (hf : q2 = true) (hl : r.length ≤ 20) (E : Int) (hUE : UnionE cs ds rs ss E) (hF : errT cs rs = 0) (hG : errT ds ss = 0) (hcd : cs = ds) (hE0 : E = 0) :
    Calls Tryd.prog 8 #[.agg #[s1, r1], .agg #[s2, r2], u] w fun e w' => e = .returned (.bool true) ∧ Below w.heap.size w w' := by
  obtain ⟨sa, sc, rfl, _, _⟩ := hs.len
  obtain ⟨ra, rc, rfl, _, _⟩ := hv.len
  obtain ⟨ta, tc, rfl, _, _⟩ := hs2.len
  obtain ⟨qa, qc, rfl, _, _⟩ := hv2.len
  obtain ⟨ua, uc, rfl, _, _⟩ := hu.len
  obtain ⟨sn, hsn⟩ : ∃ n, cs.length = n := ⟨_, rfl⟩
  obtain ⟨rn, hrn⟩ : ∃ n, rs.length = n := ⟨_, rfl⟩
  obtain ⟨tn, htn⟩ : ∃ n, ds.length = n := ⟨_, rfl⟩
  obtain ⟨qn, hqn⟩ : ∃ n, ss.length = n := ⟨_, rfl⟩
  obtain ⟨un, hun⟩ : ∃ n, r.length = n := ⟨_, rfl⟩
  rw [hsn] at hs ⊢
  rw [hrn] at hv ⊢
  rw [htn] at hs2 ⊢
  rw [hqn] at hv2 ⊢
  rw [hun] at hu ⊢
  have HEN := Lib.hid hE
  have HS := Lib.hid hs
  have HV := Lib.hid hv
  have HS2 := Lib.hid hs2
  have HV2 := Lib.hid hv2
  have HU := Lib.hid hu
  have HUN := Lib.hid hun
  have B1 : Hid (Box ((w.alloc (.cells #[.slice sa sn sc, .slice ra rn rc] 26)).alloc (.cells #[.slice ta tn tc, .slice qa qn qc] 26)) w.heap.size [.slice sa sn sc, .slice ra rn rc]) := (Box.new w [.slice sa sn sc, .slice ra rn rc] 26).alloc _
  have B2 : Hid (Box ((w.alloc (.cells #[.slice sa sn sc, .slice ra rn rc] 26)).alloc (.cells #[.slice ta tn tc, .slice qa qn qc] 26)) (w.heap.size + 1) [.slice ta tn tc, .slice qa qn qc]) := by
    have := Box.new (w.alloc (.cells #[.slice sa sn sc, .slice ra rn rc] 26)) [.slice ta tn tc, .slice qa qn qc] 26
    simp only [World.size_alloc] at this
    exact this
  have bw : Hid (Below w.heap.size w ((w.alloc (.cells #[.slice sa sn sc, .slice ra rn rc] 26)).alloc (.cells #[.slice ta tn tc, .slice qa qn qc] 26))) := ((Below.refl _ w).alloc (Nat.le_refl _) _).alloc (by simp) _
  have HAW : Hid (∀ W, Below w.heap.size w W → Calls Tryd.prog 12 #[] W fun e w' => e = .returned (.bool true) ∧ Below W.heap.size W w') := fun W hb => awake_any W (HEN.out.below hb)
  have HSM1 : Hid (∀ W, Below w.heap.size w W → Calls Tryd.prog 9 #[.agg #[.slice sa sn sc, .slice ra rn rc]] W fun e w' => e = .returned (.bool q1) ∧ Below W.heap.size W w') := fun W hb => small_is _ _ cs rs q1 hq1 W (HS.out.below hb) (HV.out.below hb) h1 h2
  have HSM2 : Hid (∀ W, Below w.heap.size w W → Calls Tryd.prog 9 #[.agg #[.slice ta tn tc, .slice qa qn qc]] W fun e w' => e = .returned (.bool q2) ∧ Below W.heap.size W w') := fun W hb => small_is _ _ ds ss q2 hq2 W (HS2.out.below hb) (HV2.out.below hb) k1 k2
  have hS1 := hq1.1 ht
  have hS2 := hq2.1 hf
  have BC := Lib.hid hS1.bc
  have BR := Lib.hid (hS1.br hn)
  have BC2 := Lib.hid hS2.bc
  have BR2 := Lib.hid (hS2.br kn)
  have SM := Lib.hid (And.intro hS1 hS2)
  have LL : Hid (rs.length + ss.length ≤ 4096) := by have := hS1.r1; have := hS2.r1; show _ ≤ _; omega
  have HUE := Lib.hid hUE
  rw [hun] at hl
  have dl : decide ((un : Int) > 20) = false := decide_eq_false (by omega)
  have H3 := Lib.hid h3
  have HNR := Lib.hid hnr
  have HUNI : Hid (∀ W, Below w.heap.size w W → Calls Tryd.prog 30 #[.agg #[.slice sa sn sc, .slice ra rn rc], .agg #[.slice ta tn tc, .slice qa qn qc]] W (MadeAny cs (rs ++ ss) E W)) := fun W hb => union_any _ _ _ _ cs ds rs ss W BC.out BR.out BC2.out BR2.out (HS.out.below hb) (HV.out.below hb) (HS2.out.below hb) (HV2.out.below hb) LL.out E HUE.out
  have HR1 : Hid (∀ W, Below w.heap.size w W → Calls Tryd.prog 10 #[.agg #[.slice sa sn sc, .slice ra rn rc]] W fun e w' => e = .returned (.int .i64 0) ∧ Below W.heap.size W w') := fun W hb => right3_is hF W BC.out BR.out (HS.out.below hb) (HV.out.below hb)
  have HR2 : Hid (∀ W, Below w.heap.size w W → Calls Tryd.prog 10 #[.agg #[.slice ta tn tc, .slice qa qn qc]] W fun e w' => e = .returned (.int .i64 0) ∧ Below W.heap.size W w') := fun W hb => right3_is hG W BC2.out BR2.out (HS2.out.below hb) (HV2.out.below hb)
  obtain ⟨q, hqt, hq⟩ : ∃ q : Bool, q = true ∧ (cs = ds ↔ q = true) := ⟨true, rfl, by simp [hcd]⟩
  have HSE : Hid (∀ W, Below w.heap.size w W → Calls Tryd.prog 27 #[.slice sa sn sc, .slice ta tn tc] W fun e w' => e = .returned (.bool q) ∧ Below W.heap.size W w') := fun W hb => schEq_is _ _ cs ds q hq W BC.out.len BC2.out.len (HS.out.below hb) (HS2.out.below hb)
  have HEQ := Lib.hid hcd
  have HERR := Lib.hid (And.intro hF hG)
  subst ht
  subst hf
  have tok1 : True := trivial
  have tok2 : True := trivial
  subst hqt
  subst hE0
  clear hF hG hcd hq
  clear hs hv hs2 hv2 hu hE h1 h2 k1 k2 h3 hn kn hnr hsn hrn htn hqn hun hq1 hq2 hS1 hS2 hUE
  go_enter Tryd.func8, Tryd.ntmps8
  go_wp2_with fail
  obtain ⟨a0, a1, _, _⟩ := B1.out.two
  obtain ⟨b0, b1, _, _⟩ := B2.out.two
  generalize (w.alloc (.cells #[.slice sa sn sc, .slice ra rn rc] 26)).alloc (.cells #[.slice ta tn tc, .slice qa qn qc] 26) = W0 at *
  go_wp2_with (first | (go_at_call 9; have _t := tok1; refine (HSM1.out _ bw.out).mono ?_; clear tok1; rintro e v1 ⟨rfl, hb1⟩; obtain ⟨b2, b3, _, _⟩ := (B2.out.next hb1).two) | (go_at_call 9; refine (HSM2.out _ (two bw.out hb1)).mono ?_; rintro e v2 ⟨rfl, hb2⟩; obtain ⟨a4, a5, _, _⟩ := ((B1.out.next hb1).next hb2).two; obtain ⟨b4, b5, _, _⟩ := ((B2.out.next hb1).next hb2).two) | (go_at_call 30; refine (HUNI.out _ (two (two bw.out hb1) hb2)).mono ?_; rintro e v3 ⟨ma, mn, mc, na, nn, nc, rfl, hb3, hma⟩; have hb4 := balloc v3 (.cells #[.slice ma mn mc, .slice na nn nc] 26); have RB1 := Lib.hid ((((B1.out.next hb1).next hb2).next hb3).next hb4); have RB2 := Lib.hid ((((B2.out.next hb1).next hb2).next hb3).next hb4); have RB3 := Lib.hid (Box.new v3 [.slice ma mn mc, .slice na nn nc] 26); obtain ⟨a6, a7, _, _⟩ := RB1.out.two; have bw4 := Lib.hid (two (two (two (two bw.out hb1) hb2) hb3) hb4); have MA := Lib.hid hma; clear hma; obtain ⟨b6, b7, _, _⟩ := RB2.out.two) | (go_at_call 10; have _t := tok2; refine (HR1.out _ bw4.out).mono ?_; clear tok2; rintro e v5 ⟨rfl, hb5⟩; obtain ⟨b8, b9, _, _⟩ := (RB2.out.next hb5).two) | (go_at_call 10; refine (HR2.out _ (two bw4.out hb5)).mono ?_; rintro e v6 ⟨rfl, hb6⟩; obtain ⟨a8, a9, _, _⟩ := ((RB1.out.next hb5).next hb6).two; obtain ⟨b10, b11, _, _⟩ := ((RB2.out.next hb5).next hb6).two) | (go_at_call 27; refine (HSE.out _ (two (two bw4.out hb5) hb6)).mono ?_; rintro e v9 ⟨rfl, hb9⟩; obtain ⟨m0, m1, _, _⟩ := (((RB3.out.next hb5).next hb6).next hb9).two))
  obtain ⟨HMC, HMR⟩ : Hid (ColsAt v3 (.slice ma mn mc) cs) ∧ Hid (RowsAt v3 (.slice na nn nc) (sortR (rs ++ ss))) := by
    rcases MA.out with ⟨_, g1, g2⟩ | ⟨g1, _⟩
    · exact ⟨g1, g2⟩
    · exact absurd rfl g1
  have BW2 := Lib.hid (two (two (two bw4.out hb5) hb6) hb9)
  have C1 := Lib.hid (((RB1.out.next hb5).next hb6).next hb9)
  have C2 := Lib.hid (((RB2.out.next hb5).next hb6).next hb9)
  have C3 := Lib.hid (((RB3.out.next hb5).next hb6).next hb9)
  have NC := Lib.hid ((((HMC.out.below hb4).below hb5).below hb6).below hb9)
  have NR := Lib.hid ((((HMR.out.below hb4).below hb5).below hb6).below hb9)
  obtain ⟨b3, hb3n⟩ : ∃ b, v3.heap.size = b := ⟨_, rfl⟩
  rw [hb3n] at C3 ⊢
  clear MA HMC HMR bw4 RB1 RB2 RB3 hb1 hb2 hb3 hb4 hb5 hb6 hb9 hb3n a0 a1 a4 a5 a6 a7 a8 a9 b0 b1 b2 b4 b5 b6 b7 b8 b9 b10 b11 m0 m1 HSM1 HSM2 HUNI HR1 HR2 HSE B1 B2 bw
  generalize v9 = W2 at *
  have HRR1 : Hid (∀ W, Below W2.heap.size W2 W → Calls Tryd.prog 13 #[.slice ra rn rc] W (RefOwn W rs)) := fun W hb => refRows_own _ rs W BR.out (HV.out.below (two BW2.out hb))
  have HRR2 : Hid (∀ W, Below W2.heap.size W2 W → Calls Tryd.prog 13 #[.slice qa qn qc] W (RefOwn W ss)) := fun W hb => refRows_own _ ss W BR2.out (HV2.out.below (two BW2.out hb))
  obtain ⟨i0, hi, hz0, hz1, hz2⟩ := info_parts infoRR
  obtain ⟨z0, z1, _, _⟩ := C1.out.two
  obtain ⟨y0, y1, _, _⟩ := C2.out.two
  have HM : Hid (∀ W W', (W.cell? ⟨w.heap.size, 1, none⟩ = some (.slice ra rn rc) ∧ W.cell? ⟨w.heap.size + 1, 1, none⟩ = some (.slice qa qn qc) ∧ Below W2.heap.size W2 W) → Below W2.heap.size W W' → W'.cell? ⟨w.heap.size, 1, none⟩ = some (.slice ra rn rc) ∧ W'.cell? ⟨w.heap.size + 1, 1, none⟩ = some (.slice qa qn qc) ∧ Below W2.heap.size W2 W') := fun W W' h hb => ⟨(hb.cell (by exact lt_of_cell z1)).trans h.1, (hb.cell (by exact lt_of_cell y1)).trans h.2.1, h.2.2.trans hb⟩
  refine wp_region_held_drew (S := fun W => W.cell? ⟨w.heap.size, 1, none⟩ = some (.slice ra rn rc) ∧ W.cell? ⟨w.heap.size + 1, 1, none⟩ = some (.slice qa qn qc) ∧ Below W2.heap.size W2 W) (by kernel_rfl) (by exact ⟨z1, y1, Below.drew (Below.refl _ _)⟩) (fun hHeld => ?_)
  clear z0 z1 y0 y1
  refine wpAnyH_take (i := 1) (v := ?v1x) rfl (by kernel_rfl) (by kernel_rfl) (by kernel_rfl) (fun _ _ _ h => h) (Or.inl ⟨by rfl, ?hy1x⟩) hHeld ?rest1x
  case hy1x => (intro w hSw; (try dsimp only at hSw); go_simp <;> with_reducible rfl)
  try simp only [Array.reduceGetElem, Act.put, List.setIfInBounds_toArray, List.set_cons_zero, List.set_cons_succ]
  refine wpAnyH_take (i := 2) (v := ?v2x) rfl (by kernel_rfl) (by kernel_rfl) (by kernel_rfl) (fun _ _ _ h => h) (Or.inl ⟨by rfl, ?hy2x⟩) hHeld ?rest2x
  case hy2x => (intro w hSw; (try dsimp only at hSw); go_simp <;> with_reducible rfl)
  try simp only [Array.reduceGetElem, Act.put, List.setIfInBounds_toArray, List.set_cons_zero, List.set_cons_succ]
  refine wpAnyH_take (i := 5) (v := ?v3x) rfl (by kernel_rfl) (by kernel_rfl) (by kernel_rfl) (fun _ _ _ h => h) (Or.inl ⟨by rfl, ?hy3x⟩) hHeld ?rest3x
  case hy3x => (intro w hSw; (try dsimp only at hSw); go_simp <;> with_reducible rfl)
  try simp only [Array.reduceGetElem, Act.put, List.setIfInBounds_toArray, List.set_cons_zero, List.set_cons_succ]
  refine wpAnyH_take (i := 6) (v := ?v4x) rfl (by kernel_rfl) (by kernel_rfl) (by kernel_rfl) (fun _ _ _ h => h) (Or.inl ⟨by rfl, ?hy4x⟩) hHeld ?rest4x
  case hy4x => (intro w hSw; (try dsimp only at hSw); go_simp <;> with_reducible rfl)
  try simp only [Array.reduceGetElem, Act.put, List.setIfInBounds_toArray, List.set_cons_zero, List.set_cons_succ]
  refine wpAnyH_ready (rs := [0, 3]) (by kernel_rfl) (by simp) ?_
  refine AllReadyH.cons rfl (fun K hK => ?_) (AllReadyH.cons rfl (fun K hK => ?_) AllReadyH.nil)
  · go_simp
    refine hK.out _ _ ?_ (fun hHeld2 => ?_)
    · exact HM.out _ _ hHeld ((Below.refl _ W2.drew).alloc (Nat.le_refl _) (.cells #[] 35))
    clear hK K hHeld
    have hHeld := hHeld2
    clear hHeld2
    have O0 := Lib.hid ((OwnVs.made (W := W2.drew) (w := w) (base := W2.heap.size) (Nat.le_refl _) : OwnVs (W2.alloc (.cells #[] 35)).drew W2.heap.size (.slice (some ⟨W2.heap.size, 0, none⟩) 0 0) [] []))
    try simp only [Array.reduceGetElem, Act.put, List.setIfInBounds_toArray, List.set_cons_zero, List.set_cons_succ]
    refine wpAnyH_ready (rs := [3]) (by kernel_rfl) (by simp) ?_
    refine AllReadyH.cons rfl (fun K hK => ?_) AllReadyH.nil
    go_simp
    have hHeldS := Lib.hid hHeld.2.2.size
    go_at_call 13; refine (HRR1.out _ hHeld.2.2).mono ?_; rintro e v1 ⟨x1, hsA, rfl, o1, hb1⟩; obtain ⟨xa, xc, rfl⟩ := o1.sh; go_wp2_with fail
    refine hK.out _ _ ?_ (fun hHeld2 => ?_)
    · exact HM.out _ _ hHeld (hb1.mono hHeld.2.2.size)
    clear hK K hHeld
    have hHeld := hHeld2
    clear hHeld2
    have O1 := Lib.hid (o1.base (base' := W2.heap.size) (by have := hHeldS.out; omega))
    replace O0 := Lib.hid (O0.out.below hb1)
    clear o1
    clear hHeldS
    try simp only [Array.reduceGetElem, Act.put, List.setIfInBounds_toArray, List.set_cons_zero, List.set_cons_succ]
    refine wpAnyH_ready (rs := [4]) (by kernel_rfl) (by simp) ?_
    refine AllReadyH.cons rfl (fun K hK => ?_) AllReadyH.nil
    rw [if_pos (by rfl)]
    refine wp_app_vs _ _ (by rfl) hi hz0 hz1 hz2 W2.heap.size _ _ [] hsA [] rs (by rfl) (by rfl) O0.out O1.out (by have := LL.out; simp; omega) hHeld.2.2.size ?_
    intro tv4 w4 H4 g4
    refine hK.out _ _ ?_ (fun hHeld2 => ?_)
    · exact HM.out _ _ hHeld ((Below.refl _ _).grown g4 hHeld.2.2.size (fun k e => (O0.out.row.lt k e).1))
    clear hK K hHeld
    have hHeld := hHeld2
    clear hHeld2
    clear O0 O1 g4
    try simp only [Array.reduceGetElem, Act.put, List.setIfInBounds_toArray, List.set_cons_zero, List.set_cons_succ]
    refine wpAnyH_ready (rs := [7]) (by kernel_rfl) (by simp) ?_
    refine AllReadyH.cons rfl (fun K hK => ?_) AllReadyH.nil
    go_simp
    have hHeld4 := Lib.hid hHeld.2.2.size
    go_at_call 13; refine (HRR2.out _ hHeld.2.2).mono ?_; rintro e v7 ⟨x7, hsB, rfl, o7, hb7⟩; obtain ⟨ya, yc, rfl⟩ := o7.sh; go_wp2_with fail
    refine hK.out _ _ ?_ (fun hHeld2 => ?_)
    · exact HM.out _ _ hHeld (hb7.mono hHeld.2.2.size)
    clear hK K hHeld
    have hHeld := hHeld2
    clear hHeld2
    have O7 := Lib.hid (o7.base (base' := W2.heap.size) hHeld4.out)
    have O4 := Lib.hid (H4.below hb7)
    clear o7 H4
    clear hHeld4
    try simp only [Array.reduceGetElem, Act.put, List.setIfInBounds_toArray, List.set_cons_zero, List.set_cons_succ]
    refine wpAnyH_ready (rs := [8]) (by kernel_rfl) (by simp) ?_
    refine AllReadyH.cons rfl (fun K hK => ?_) AllReadyH.nil
    rw [if_pos (by rfl)]
    refine wp_app_vs _ _ (by rfl) hi hz0 hz1 hz2 W2.heap.size _ _ _ hsB _ ss (by rfl) (by rfl) O4.out O7.out (by have := LL.out; simp; omega) hHeld.2.2.size ?_
    intro tv8 W3 H8 g8
    refine hK.out _ _ ?_ (fun hHeld2 => ?_)
    · exact HM.out _ _ hHeld ((Below.refl _ _).grown g8 hHeld.2.2.size (fun k e => (O4.out.row.lt k e).1))
    clear hK K hHeld
    have hHeld := hHeld2
    clear hHeld2
    clear O4 O7 g8
    try simp only [Array.reduceGetElem, Act.put, List.setIfInBounds_toArray, List.set_cons_zero, List.set_cons_succ]
    refine wpAnyH_take (i := 9) (v := ?v5x) rfl (by kernel_rfl) (by kernel_rfl) (by kernel_rfl) (fun _ _ _ h => h) (Or.inl ⟨by rfl, ?hy5x⟩) hHeld ?rest5x
    case hy5x => (intro w hSw; (try dsimp only at hSw); go_simp <;> with_reducible rfl)
    try simp only [Array.reduceGetElem, Act.put, List.setIfInBounds_toArray, List.set_cons_zero, List.set_cons_succ]
    refine wpAnyH_done (by kernel_rfl) ?_ _
    have BW3 := Lib.hid hHeld.2.2
    obtain ⟨pa, pn, pc, rfl, hpn⟩ : ∃ a n c, tv8 = .slice a n c ∧ (rs ++ ss).length = n := by
      obtain ⟨a, c, e⟩ := H8.sh
      exact ⟨a, _, c, e, rfl⟩
    have HP : Hid (RowsAt W3 (.slice pa pn pc) (rs ++ ss)) := OwnVs.at H8
    have HPN := Lib.hid hpn
    have BRU : Hid (BdRs (rs ++ ss)) := ⟨by have := LL.out; rw [List.length_append]; omega, fun r hr => (List.mem_append.1 hr).elim (BR.out.row r) (BR2.out.row r)⟩
    have hcd := HEQ.out
    subst hcd
    have D1 := Lib.hid (C1.out.next BW3.out)
    have D2 := Lib.hid (C2.out.next BW3.out)
    have D3 := Lib.hid (C3.out.next BW3.out)
    have MC := Lib.hid (NC.out.below BW3.out)
    have MR := Lib.hid (NR.out.below BW3.out)
    have BWW := Lib.hid (two BW2.out BW3.out)
    have HUN2 : Hid (∀ W, Below W3.heap.size W3 W → Calls Tryd.prog 30 #[.agg #[.slice ta tn tc, .slice qa qn qc], .agg #[.slice sa sn sc, .slice ra rn rc]] W (MadeAny cs (ss ++ rs) 0 W)) := fun W hb => union_any _ _ _ _ cs cs ss rs W BC2.out BR2.out BC.out BR.out (HS2.out.below (two BWW.out hb)) (HV2.out.below (two BWW.out hb)) (HS.out.below (two BWW.out hb)) (HV.out.below (two BWW.out hb)) (by have := LL.out; omega) 0 (.inr (.inr (.inr ⟨HERR.out.2, HERR.out.1, rfl, rfl⟩)))
    have HSR : Hid (∀ W, Below W3.heap.size W3 W → Calls Tryd.prog 28 #[.slice pa pn pc] W (RefRs W (sortR (rs ++ ss)))) := fun W hb => sortRef_is _ _ W BRU.out (HP.out.below hb)
    have HRU : Hid (∀ W, Below W3.heap.size W3 W → Calls Tryd.prog 13 #[.slice na nn nc] W (RefRs W (sortR (rs ++ ss)))) := fun W hb => refRows_is _ _ W (brSort BRU.out) (MR.out.below hb)
    have HTE : Hid (∀ W a b, Below W3.heap.size W3 W → ColsAt W a cs → RowsAt W b (sortR (rs ++ ss)) → Calls Tryd.prog 22 #[.agg #[.slice ma mn mc, .slice na nn nc], .agg #[a, b]] W fun e w' => e = .returned (.bool true) ∧ Below W.heap.size W w') := fun W a b hb h1 h2 => tabEq_is _ _ a b cs _ W BC.out (brSort BRU.out) (MC.out.below hb) (MR.out.below hb) h1 h2
    have HNA : Hid (∀ {W : World} {xa : Option Addr} {xn xc : Nat} {ya : Option Addr} {yn yc : Nat}, (((0 : Int) = 0 ∧ ColsAt W (.slice xa xn xc) cs ∧ RowsAt W (.slice ya yn yc) (sortR (ss ++ rs))) ∨ ((0 : Int) ≠ 0 ∧ xa = none ∧ xn = 0 ∧ xc = 0 ∧ ya = none ∧ yn = 0 ∧ yc = 0)) → ColsAt W (.slice xa xn xc) cs ∧ RowsAt W (.slice ya yn yc) (sortR (rs ++ ss))) := fun h => by
      rcases h with ⟨_, g1, g2⟩ | ⟨g1, _⟩
      · rw [sort_perm_eq (List.perm_append_comm)] at g2; exact ⟨g1, g2⟩
      · exact absurd rfl g1
    clear hHeld H8 hpn HM HRR1 HRR2 C1 C2 C3 NC NR BW2 BW3 hi hz0 hz1 hz2
    obtain ⟨z0, z1, _, _⟩ := D1.out.two
    obtain ⟨y0, y1, _, _⟩ := D2.out.two
    obtain ⟨i0, hi, hz0, hz1, hz2⟩ := info_parts infoRow
    have HG1 : Hid (∀ W, Below W3.heap.size W3 W → Hg 27 W (W.alloc (.cells #[.slice ua un uc] 27)) W.heap.size (.slice (some ⟨W.heap.size, 0, none⟩) 1 1) [.slice ua un uc] [r]) := fun W hb => ⟨rfl, ⟨rfl, .inr ⟨W.heap.size, 1, _, rfl, Nat.le_refl _, heap_alloc_new W _, Nat.le_refl _, by unfold maxLen; decide, rfl, rfl⟩⟩, fun i h x h1 h2 => by
      cases i with
      | zero => simp at h1 h2; subst h1; subst h2; exact HU.out.below (two BWW.out hb)
      | succ i => simp at h1⟩
    go_wp2_with (first | (go_at_call 30; refine (HUN2.out _ (Below.refl _ _)).mono ?_; rintro e v10 ⟨xa, xn, xc, ya, yn, yc, rfl, hb10, hx⟩; have hx2 := HNA.out hx; clear hx; have hb11 := balloc v10 (.cells #[.slice xa xn xc, .slice ya yn yc] 26); obtain ⟨m0, m1, _, _⟩ := ((D3.out.next hb10).next hb11).two; obtain ⟨k0, k1, _, _⟩ := (Box.new v10 [.slice xa xn xc, .slice ya yn yc] 26).two; have bw11 := Lib.hid (two hb10 hb11)) | (go_at_call 22; refine (HTE.out _ _ _ bw11.out (hx2.1.below hb11) (hx2.2.below hb11)).mono ?_; rintro e v12 ⟨rfl, hb12⟩; obtain ⟨m2, m3, _, _⟩ := (((D3.out.next hb10).next hb11).next hb12).two) | (go_at_call 13; refine (HRU.out _ (two bw11.out hb12)).mono ?_; rintro e v13 ⟨x13, rfl, o13, hb13⟩; obtain ⟨a13, c13, rfl, _, _⟩ := o13.len) | (go_at_call 28; refine (HSR.out _ (two (two bw11.out hb12) hb13)).mono ?_; rintro e v14 ⟨x14, rfl, o14, hb14⟩; obtain ⟨a14, c14, rfl, _, _⟩ := o14.len) | (go_at_call 21; refine (same_is _ _ _ _ (brSort BRU.out) (o13.below hb14) o14).mono ?_; rintro e W5 ⟨rfl, hb15⟩; have bw15 := Lib.hid (two (two (two (two bw11.out hb12) hb13) hb14) hb15); obtain ⟨m4, m5, _, _⟩ := ((D3.out.next bw15.out).next (balloc W5 (.cells #[.slice ua un uc] 27))).two) | (at_builtin; refine wpList_app_rows rfl _ _ 24 27 rfl Tryd.underlying24 hi hz0 hz1 hz2 W5.heap.size (.slice (some ⟨W5.heap.size, 0, none⟩) 1 1) [.slice ua un uc] [r] rfl (HG1.out _ bw15.out) _ (sortR (rs ++ ss)) rfl (MR.out.below bw15.out) (balloc _ _) (by have := LL.out; have := HPN.out; rw [sortR_len]; simp at *; omega) (by simp) ?_; intro v16 W6 gs H6 g6; obtain ⟨g16, n16, c16, rfl, hn16, hr16, hc16⟩ := H6.opened))
    have hlim : n16 ≤ 10000 := by have h1 := LL.out; have h2 := HPN.out; rw [← hr16]; simp only [List.length_append, List.length_cons, List.length_nil, sortR_len] at *; omega
    have BW6 : Hid (Below W3.heap.size W3 W6) := (two bw15.out (balloc W5 (.cells #[.slice ua un uc] 27))).grown g6 (Nat.le_trans bw15.out.size (balloc W5 (.cells #[.slice ua un uc] 27)).size) (fun k e => Nat.le_trans bw15.out.size ((HG1.out _ bw15.out).row.lt k e).1)
    have HH6 := Lib.hid H6
    have HN16 := Lib.hid (And.intro hn16 hr16)
    have b56 : Hid (Below W5.heap.size W5 W6) := (balloc W5 (.cells #[.slice ua un uc] 27)).grown g6 (balloc W5 (.cells #[.slice ua un uc] 27)).size (fun k e => ((HG1.out _ bw15.out).row.lt k e).1)
    have F1 := Lib.hid (D1.out.next BW6.out)
    have F2 := Lib.hid (D2.out.next BW6.out)
    have F3 := Lib.hid (D3.out.next BW6.out)
    have BW7 := Lib.hid (two BWW.out BW6.out)
    have NC := Lib.hid (MC.out.below BW6.out)
    have NR := Lib.hid (MR.out.below BW6.out)
    clear H6 g6 hn16 hr16 z0 z1 y0 y1 m0 m1 m2 m3 m4 m5 k0 k1 hb10 hb11 hb12 hb13 hb14 hb15 o13 o14 hx2 HUN2 HSR HRU HTE HNA HG1 hi hz0 hz1 hz2
    go_loopw [14, 105] (fun x i wr => ∃ k : Nat, k ≤ n16 ∧ i = .int .i64 k ∧ Hid (Below W6.heap.size W6 wr)) (fun x i _ => n16 - (intOf i).toNat)
    case atStart => exact ⟨0, Nat.zero_le _, rfl, Below.refl _ _⟩
    case round =>
      obtain ⟨k, hk, rfl, BR6⟩ := hrel
      obtain ⟨z0, z1, _, _⟩ := (F1.out.next BR6.out).two
      obtain ⟨y0, y1, _, _⟩ := (F2.out.next BR6.out).two
      obtain ⟨m0, m1, _, _⟩ := (F3.out.next BR6.out).two
      by_cases hlt : k < n16
      · obtain ⟨h, hh⟩ : ∃ h, ([.slice ua un uc] ++ gs)[k]? = some h := ⟨_, List.getElem?_eq_getElem (by rw [HN16.out.1]; exact hlt)⟩
        obtain ⟨x, hx⟩ : ∃ x, ([r] ++ sortR (rs ++ ss))[k]? = some x := ⟨_, List.getElem?_eq_getElem (by rw [HN16.out.2]; exact hlt)⟩
        have hrow := HH6.out.at' k h x hh hx
        have hcell := (BR6.out.cell (p := ⟨g16, k, none⟩) (by have h1 := lt_of_cell (HH6.out.cell hh); exact h1)).trans (HH6.out.cell hh)
        obtain ⟨xa, xc, rfl, _, _⟩ := hrow.len
        have htx : ∀ y ∈ x, y.t.size ≤ 9223372036854775807 := by
          intro y hy
          rcases List.mem_append.1 (List.mem_of_getElem? hx) with h1 | h1
          · have h2 := List.mem_singleton.1 h1
            subst h2
            have h4 := H3.out y hy
            unfold maxLen at h4
            omega
          · have := ((brSort BRU.out).row x h1).txt y hy
            omega
        obtain ⟨xn, hxn⟩ : ∃ n, x.length = n := ⟨_, rfl⟩
        rw [hxn] at hrow hcell
        have HXN := Lib.hid hxn
        have HRW : Hid (∀ W, Below W6.heap.size W6 W → RowAt W (.slice xa xn xc) x) := fun W hb => hrow.below (b56.out.trans (hb.mono b56.out.size))
        obtain ⟨q, hq⟩ : ∃ q, fits cs x = q := ⟨_, rfl⟩
        have HFT : Hid (Calls Tryd.prog 11 #[.slice sa sn sc, .slice xa xn xc] wr fun e w' => e = .returned (.bool q) ∧ Below wr.heap.size wr w') := fitsL_is hq wr BC.out.len BC.out.name (HS.out.below (two BW7.out BR6.out)) (HRW.out _ BR6.out) htx
        have HQ := Lib.hid hq
        clear hq hxn hrow hh hx htx
        cases q with
        | false =>
          go_wp2_with (go_at_call 11; refine HFT.out.mono ?_; rintro e w1 ⟨rfl, hb1⟩)
          go_roundw
          case rel => exact ⟨k + 1, by omega, by go_num, two BR6.out hb1⟩
          case measure => simp [intOf]; omega
        | true =>
          obtain ⟨cA, hcA⟩ : ∃ n, cnt x rs = n := ⟨_, rfl⟩
          obtain ⟨cB, hcB⟩ : ∃ n, cnt x ss = n := ⟨_, rfl⟩
          have hcC : cnt x (sortR (rs ++ ss)) = cA + cB := by rw [cnt_perm x (sort_perm (rs ++ ss)), cnt_app, hcA, hcB]
          have hA : cA ≤ 4096 := by have h1 : cnt x rs ≤ rs.length := List.countP_le_length; have h2 := LL.out; omega
          have hB : cB ≤ 4096 := by have h1 : cnt x ss ≤ ss.length := List.countP_le_length; have h2 := LL.out; omega
          have hx16 : x.length ≤ 4096 := by have h1 := fits_len HQ.out; have h2 := BC.out.len; omega
          have HX16 := Lib.hid hx16
          have HCA := Lib.hid (And.intro hcA (And.intro hcB hcC))
          have HK1 : Hid (∀ W, Below W6.heap.size W6 W → Calls Tryd.prog 16 #[.agg #[.slice ma mn mc, .slice na nn nc], .slice xa xn xc] W fun e w' => e = .returned (.int .i64 ((cA : Int) + cB)) ∧ Below W.heap.size W w') := fun W hb => by
            have := count_is (.slice ma mn mc) (.slice na nn nc) (.slice xa xn xc) (sortR (rs ++ ss)) x W (brSort BRU.out) HX16.out (sort_sorted _) ⟨_, _, _, rfl⟩ (NR.out.below hb) (HRW.out W hb)
            rw [HCA.out.2.2, Int.natCast_add] at this
            exact this
          have HK2 : Hid (∀ W, Below W6.heap.size W6 W → Calls Tryd.prog 16 #[.agg #[.slice sa sn sc, .slice ra rn rc], .slice xa xn xc] W fun e w' => e = .returned (.int .i64 (cA : Int)) ∧ Below W.heap.size W w') := fun W hb => by
            have := count_is (.slice sa sn sc) (.slice ra rn rc) (.slice xa xn xc) rs x W BR.out HX16.out ((sorted_iff _).1 (errT_zero HERR.out.1).2.2.1) ⟨_, _, _, rfl⟩ (HV.out.below (two BW7.out hb)) (HRW.out W hb)
            rw [HCA.out.1] at this
            exact this
          have HK3 : Hid (∀ W, Below W6.heap.size W6 W → Calls Tryd.prog 16 #[.agg #[.slice ta tn tc, .slice qa qn qc], .slice xa xn xc] W fun e w' => e = .returned (.int .i64 (cB : Int)) ∧ Below W.heap.size W w') := fun W hb => by
            have := count_is (.slice ta tn tc) (.slice qa qn qc) (.slice xa xn xc) ss x W BR2.out HX16.out ((sorted_iff _).1 (errT_zero HERR.out.2).2.2.1) ⟨_, _, _, rfl⟩ (HV2.out.below (two BW7.out hb)) (HRW.out W hb)
            rw [HCA.out.2.1] at this
            exact this
          clear hcA hcB hcC hx16
          have hwr : IntKind.i64.wrap ((cA : Int) + cB) = (cA : Int) + cB := IntWalk.i64_in _ (by omega)
          go_wp2_with (go_at_call 11; refine HFT.out.mono ?_; rintro e w1 ⟨rfl, hb1⟩)
          have BW1 := Lib.hid (two BR6.out hb1)
          have H0 : Hid ((fun W => W.cell? ⟨w.heap.size, 0, none⟩ = some (.slice sa sn sc) ∧ W.cell? ⟨w.heap.size, 1, none⟩ = some (.slice ra rn rc) ∧ W.cell? ⟨w.heap.size + 1, 0, none⟩ = some (.slice ta tn tc) ∧ W.cell? ⟨w.heap.size + 1, 1, none⟩ = some (.slice qa qn qc) ∧ W.cell? ⟨b3, 0, none⟩ = some (.slice ma mn mc) ∧ W.cell? ⟨b3, 1, none⟩ = some (.slice na nn nc) ∧ Below W6.heap.size W6 W) w1) := ⟨(hb1.cell (by exact lt_of_cell z0)).trans z0, (hb1.cell (by exact lt_of_cell z1)).trans z1, (hb1.cell (by exact lt_of_cell y0)).trans y0, (hb1.cell (by exact lt_of_cell y1)).trans y1, (hb1.cell (by exact lt_of_cell m0)).trans m0, (hb1.cell (by exact lt_of_cell m1)).trans m1, BW1.out⟩
          have HM : Hid (∀ W W', (fun W => W.cell? ⟨w.heap.size, 0, none⟩ = some (.slice sa sn sc) ∧ W.cell? ⟨w.heap.size, 1, none⟩ = some (.slice ra rn rc) ∧ W.cell? ⟨w.heap.size + 1, 0, none⟩ = some (.slice ta tn tc) ∧ W.cell? ⟨w.heap.size + 1, 1, none⟩ = some (.slice qa qn qc) ∧ W.cell? ⟨b3, 0, none⟩ = some (.slice ma mn mc) ∧ W.cell? ⟨b3, 1, none⟩ = some (.slice na nn nc) ∧ Below W6.heap.size W6 W) W → Below W.heap.size W W' → (fun W => W.cell? ⟨w.heap.size, 0, none⟩ = some (.slice sa sn sc) ∧ W.cell? ⟨w.heap.size, 1, none⟩ = some (.slice ra rn rc) ∧ W.cell? ⟨w.heap.size + 1, 0, none⟩ = some (.slice ta tn tc) ∧ W.cell? ⟨w.heap.size + 1, 1, none⟩ = some (.slice qa qn qc) ∧ W.cell? ⟨b3, 0, none⟩ = some (.slice ma mn mc) ∧ W.cell? ⟨b3, 1, none⟩ = some (.slice na nn nc) ∧ Below W6.heap.size W6 W) W') := fun W W' h hb => ⟨(hb.cell (by exact lt_of_cell h.1)).trans h.1, (hb.cell (by exact lt_of_cell h.2.1)).trans h.2.1, (hb.cell (by exact lt_of_cell h.2.2.1)).trans h.2.2.1, (hb.cell (by exact lt_of_cell h.2.2.2.1)).trans h.2.2.2.1, (hb.cell (by exact lt_of_cell h.2.2.2.2.1)).trans h.2.2.2.2.1, (hb.cell (by exact lt_of_cell h.2.2.2.2.2.1)).trans h.2.2.2.2.2.1, two h.2.2.2.2.2.2 hb⟩
          clear z0 z1 y0 y1 m0 m1 hb1 hcell
          refine wp_region_held_drew (S := fun W => W.cell? ⟨w.heap.size, 0, none⟩ = some (.slice sa sn sc) ∧ W.cell? ⟨w.heap.size, 1, none⟩ = some (.slice ra rn rc) ∧ W.cell? ⟨w.heap.size + 1, 0, none⟩ = some (.slice ta tn tc) ∧ W.cell? ⟨w.heap.size + 1, 1, none⟩ = some (.slice qa qn qc) ∧ W.cell? ⟨b3, 0, none⟩ = some (.slice ma mn mc) ∧ W.cell? ⟨b3, 1, none⟩ = some (.slice na nn nc) ∧ Below W6.heap.size W6 W) (by kernel_rfl) (by exact HM.out _ _ H0.out (Below.drew (Below.refl _ _))) (fun hHeld => ?_)
          refine wpAnyH_take (i := 0) (v := ?v6x) rfl (by kernel_rfl) (by kernel_rfl) (by kernel_rfl) (fun _ _ _ h => h) (Or.inl ⟨by rfl, ?hy6x⟩) hHeld ?rest6x
          case hy6x => (intro w hSw; (try dsimp only at hSw); go_simp <;> with_reducible rfl)
          try simp only [Array.reduceGetElem, Act.put, List.setIfInBounds_toArray, List.set_cons_zero, List.set_cons_succ]
          refine wpAnyH_take (i := 1) (v := ?v7x) rfl (by kernel_rfl) (by kernel_rfl) (by kernel_rfl) (fun _ _ _ h => h) (Or.inl ⟨by rfl, ?hy7x⟩) hHeld ?rest7x
          case hy7x => (intro w hSw; (try dsimp only at hSw); go_simp <;> with_reducible rfl)
          try simp only [Array.reduceGetElem, Act.put, List.setIfInBounds_toArray, List.set_cons_zero, List.set_cons_succ]
          refine wpAnyH_take (i := 3) (v := ?v8x) rfl (by kernel_rfl) (by kernel_rfl) (by kernel_rfl) (fun _ _ _ h => h) (Or.inl ⟨by rfl, ?hy8x⟩) hHeld ?rest8x
          case hy8x => (intro w hSw; (try dsimp only at hSw); go_simp <;> with_reducible rfl)
          try simp only [Array.reduceGetElem, Act.put, List.setIfInBounds_toArray, List.set_cons_zero, List.set_cons_succ]
          refine wpAnyH_take (i := 4) (v := ?v9x) rfl (by kernel_rfl) (by kernel_rfl) (by kernel_rfl) (fun _ _ _ h => h) (Or.inl ⟨by rfl, ?hy9x⟩) hHeld ?rest9x
          case hy9x => (intro w hSw; (try dsimp only at hSw); go_simp <;> with_reducible rfl)
          try simp only [Array.reduceGetElem, Act.put, List.setIfInBounds_toArray, List.set_cons_zero, List.set_cons_succ]
          refine wpAnyH_take (i := 6) (v := ?v10x) rfl (by kernel_rfl) (by kernel_rfl) (by kernel_rfl) (fun _ _ _ h => h) (Or.inl ⟨by rfl, ?hy10x⟩) hHeld ?rest10x
          case hy10x => (intro w hSw; (try dsimp only at hSw); go_simp <;> with_reducible rfl)
          try simp only [Array.reduceGetElem, Act.put, List.setIfInBounds_toArray, List.set_cons_zero, List.set_cons_succ]
          refine wpAnyH_take (i := 7) (v := ?v11x) rfl (by kernel_rfl) (by kernel_rfl) (by kernel_rfl) (fun _ _ _ h => h) (Or.inl ⟨by rfl, ?hy11x⟩) hHeld ?rest11x
          case hy11x => (intro w hSw; (try dsimp only at hSw); go_simp <;> with_reducible rfl)
          try simp only [Array.reduceGetElem, Act.put, List.setIfInBounds_toArray, List.set_cons_zero, List.set_cons_succ]
          refine wpAnyH_ready (rs := [2]) (by kernel_rfl) (by simp) ?_
          refine AllReadyH.cons rfl (fun K hK => ?_) AllReadyH.nil
          go_simp
          go_at_call 16; refine (HK1.out _ hHeld.2.2.2.2.2.2).mono ?_; rintro e u1 ⟨rfl, hbu1⟩; go_wp2_with fail
          refine hK.out _ _ ?_ (fun hHeld2 => ?_)
          · exact HM.out _ _ hHeld hbu1
          clear hK K hHeld
          have hHeld := hHeld2
          clear hHeld2
          try simp only [Array.reduceGetElem, Act.put, List.setIfInBounds_toArray, List.set_cons_zero, List.set_cons_succ]
          refine wpAnyH_ready (rs := [5]) (by kernel_rfl) (by simp) ?_
          refine AllReadyH.cons rfl (fun K hK => ?_) AllReadyH.nil
          go_simp
          go_at_call 16; refine (HK2.out _ hHeld.2.2.2.2.2.2).mono ?_; rintro e u2 ⟨rfl, hbu2⟩; go_wp2_with fail
          refine hK.out _ _ ?_ (fun hHeld2 => ?_)
          · exact HM.out _ _ hHeld hbu2
          clear hK K hHeld
          have hHeld := hHeld2
          clear hHeld2
          try simp only [Array.reduceGetElem, Act.put, List.setIfInBounds_toArray, List.set_cons_zero, List.set_cons_succ]
          refine wpAnyH_ready (rs := [8]) (by kernel_rfl) (by simp) ?_
          refine AllReadyH.cons rfl (fun K hK => ?_) AllReadyH.nil
          go_simp
          go_at_call 16; refine (HK3.out _ hHeld.2.2.2.2.2.2).mono ?_; rintro e u3 ⟨rfl, hbu3⟩; go_wp2_with fail
          refine hK.out _ _ ?_ (fun hHeld2 => ?_)
          · exact HM.out _ _ hHeld hbu3
          clear hK K hHeld
          have hHeld := hHeld2
          clear hHeld2
          try simp only [Array.reduceGetElem, Act.put, List.setIfInBounds_toArray, List.set_cons_zero, List.set_cons_succ]
          refine wpAnyH_take (i := 9) (v := ?v12x) rfl (by kernel_rfl) (by kernel_rfl) (by kernel_rfl) (fun _ _ _ h => h) (Or.inl ⟨by rfl, ?hy12x⟩) hHeld ?rest12x
          case hy12x => (intro w hSw; (try dsimp only at hSw); go_simp <;> with_reducible rfl)
          try simp only [Array.reduceGetElem, Act.put, List.setIfInBounds_toArray, List.set_cons_zero, List.set_cons_succ]
          refine wpAnyH_take (i := 10) (v := ?v13x) rfl (by kernel_rfl) (by kernel_rfl) (by kernel_rfl) (fun _ _ _ h => h) (Or.inl ⟨by rfl, ?hy13x⟩) hHeld ?rest13x
          case hy13x => (intro w hSw; (try dsimp only at hSw); go_simp <;> with_reducible rfl)
          try simp only [Array.reduceGetElem, Act.put, List.setIfInBounds_toArray, List.set_cons_zero, List.set_cons_succ]
          refine wpAnyH_done (by kernel_rfl) ?_ _
          have BW9 := Lib.hid hHeld.2.2.2.2.2.2
          clear hHeld H0 HM HK1 HK2 HK3
          go_wp2_with fail
          go_roundw
          case rel => exact ⟨k + 1, by omega, by go_num, BW9.out⟩
          case measure => simp [intOf]; omega
      · obtain rfl : k = n16 := by omega
        go_wp2_with (go_at_call 12; refine (HAW.out _ (two BW7.out BR6.out)).mono ?_; rintro e w9 ⟨rfl, hb9⟩)
        go_ret
        exact ⟨rfl, two (two BW7.out BR6.out) hb9⟩
  · go_simp
    go_at_call 13; refine (HRR1.out _ hHeld.2.2).mono ?_; rintro e v1 ⟨x1, hsA, rfl, o1, hb1⟩; obtain ⟨xa, xc, rfl⟩ := o1.sh; go_wp2_with fail
    refine hK.out _ _ ?_ (fun hHeld2 => ?_)
    · exact HM.out _ _ hHeld (hb1.mono (Nat.le_refl _))
    clear hK K hHeld
    have hHeld := hHeld2
    clear hHeld2
    have hHeld0 := hHeld
    try simp only [Array.reduceGetElem, Act.put, List.setIfInBounds_toArray, List.set_cons_zero, List.set_cons_succ]
    refine wpAnyH_ready (rs := [0]) (by kernel_rfl) (by simp) ?_
    refine AllReadyH.cons rfl (fun K hK => ?_) AllReadyH.nil
    go_simp
    refine hK.out _ _ ?_ (fun hHeld2 => ?_)
    · exact HM.out _ _ hHeld ((Below.refl _ v1).alloc hHeld.2.2.size (.cells #[] 35))
    clear hK K hHeld
    have hHeld := hHeld2
    clear hHeld2
    have O0 := Lib.hid ((OwnVs.made (W := v1) (w := w) (base := W2.heap.size) hHeld0.2.2.size : OwnVs (v1.alloc (.cells #[] 35)) W2.heap.size (.slice (some ⟨v1.heap.size, 0, none⟩) 0 0) [] []))
    have O1 := Lib.hid ((o1.base (base' := W2.heap.size) (Nat.le_refl _)).below (balloc v1 (.cells #[] 35)))
    clear o1 hHeld0
    try simp only [Array.reduceGetElem, Act.put, List.setIfInBounds_toArray, List.set_cons_zero, List.set_cons_succ]
    refine wpAnyH_ready (rs := [4]) (by kernel_rfl) (by simp) ?_
    refine AllReadyH.cons rfl (fun K hK => ?_) AllReadyH.nil
    rw [if_pos (by rfl)]
    refine wp_app_vs _ _ (by rfl) hi hz0 hz1 hz2 W2.heap.size _ _ [] hsA [] rs (by rfl) (by rfl) O0.out O1.out (by have := LL.out; simp; omega) hHeld.2.2.size ?_
    intro tv4 w4 H4 g4
    refine hK.out _ _ ?_ (fun hHeld2 => ?_)
    · exact HM.out _ _ hHeld ((Below.refl _ _).grown g4 hHeld.2.2.size (fun k e => (O0.out.row.lt k e).1))
    clear hK K hHeld
    have hHeld := hHeld2
    clear hHeld2
    clear O0 O1 g4
    try simp only [Array.reduceGetElem, Act.put, List.setIfInBounds_toArray, List.set_cons_zero, List.set_cons_succ]
    refine wpAnyH_ready (rs := [7]) (by kernel_rfl) (by simp) ?_
    refine AllReadyH.cons rfl (fun K hK => ?_) AllReadyH.nil
    go_simp
    have hHeld4 := Lib.hid hHeld.2.2.size
    go_at_call 13; refine (HRR2.out _ hHeld.2.2).mono ?_; rintro e v7 ⟨x7, hsB, rfl, o7, hb7⟩; obtain ⟨ya, yc, rfl⟩ := o7.sh; go_wp2_with fail
    refine hK.out _ _ ?_ (fun hHeld2 => ?_)
    · exact HM.out _ _ hHeld (hb7.mono hHeld.2.2.size)
    clear hK K hHeld
    have hHeld := hHeld2
    clear hHeld2
    have O7 := Lib.hid (o7.base (base' := W2.heap.size) hHeld4.out)
    have O4 := Lib.hid (H4.below hb7)
    clear o7 H4
    clear hHeld4
    try simp only [Array.reduceGetElem, Act.put, List.setIfInBounds_toArray, List.set_cons_zero, List.set_cons_succ]
    refine wpAnyH_ready (rs := [8]) (by kernel_rfl) (by simp) ?_
    refine AllReadyH.cons rfl (fun K hK => ?_) AllReadyH.nil
    rw [if_pos (by rfl)]
    refine wp_app_vs _ _ (by rfl) hi hz0 hz1 hz2 W2.heap.size _ _ _ hsB _ ss (by rfl) (by rfl) O4.out O7.out (by have := LL.out; simp; omega) hHeld.2.2.size ?_
    intro tv8 W3 H8 g8
    refine hK.out _ _ ?_ (fun hHeld2 => ?_)
    · exact HM.out _ _ hHeld ((Below.refl _ _).grown g8 hHeld.2.2.size (fun k e => (O4.out.row.lt k e).1))
    clear hK K hHeld
    have hHeld := hHeld2
    clear hHeld2
    clear O4 O7 g8
    try simp only [Array.reduceGetElem, Act.put, List.setIfInBounds_toArray, List.set_cons_zero, List.set_cons_succ]
    refine wpAnyH_take (i := 9) (v := ?v14x) rfl (by kernel_rfl) (by kernel_rfl) (by kernel_rfl) (fun _ _ _ h => h) (Or.inl ⟨by rfl, ?hy14x⟩) hHeld ?rest14x
    case hy14x => (intro w hSw; (try dsimp only at hSw); go_simp <;> with_reducible rfl)
    try simp only [Array.reduceGetElem, Act.put, List.setIfInBounds_toArray, List.set_cons_zero, List.set_cons_succ]
    refine wpAnyH_done (by kernel_rfl) ?_ _
    have BW3 := Lib.hid hHeld.2.2
    obtain ⟨pa, pn, pc, rfl, hpn⟩ : ∃ a n c, tv8 = .slice a n c ∧ (rs ++ ss).length = n := by
      obtain ⟨a, c, e⟩ := H8.sh
      exact ⟨a, _, c, e, rfl⟩
    have HP : Hid (RowsAt W3 (.slice pa pn pc) (rs ++ ss)) := OwnVs.at H8
    have HPN := Lib.hid hpn
    have BRU : Hid (BdRs (rs ++ ss)) := ⟨by have := LL.out; rw [List.length_append]; omega, fun r hr => (List.mem_append.1 hr).elim (BR.out.row r) (BR2.out.row r)⟩
    have hcd := HEQ.out
    subst hcd
    have D1 := Lib.hid (C1.out.next BW3.out)
    have D2 := Lib.hid (C2.out.next BW3.out)
    have D3 := Lib.hid (C3.out.next BW3.out)
    have MC := Lib.hid (NC.out.below BW3.out)
    have MR := Lib.hid (NR.out.below BW3.out)
    have BWW := Lib.hid (two BW2.out BW3.out)
    have HUN2 : Hid (∀ W, Below W3.heap.size W3 W → Calls Tryd.prog 30 #[.agg #[.slice ta tn tc, .slice qa qn qc], .agg #[.slice sa sn sc, .slice ra rn rc]] W (MadeAny cs (ss ++ rs) 0 W)) := fun W hb => union_any _ _ _ _ cs cs ss rs W BC2.out BR2.out BC.out BR.out (HS2.out.below (two BWW.out hb)) (HV2.out.below (two BWW.out hb)) (HS.out.below (two BWW.out hb)) (HV.out.below (two BWW.out hb)) (by have := LL.out; omega) 0 (.inr (.inr (.inr ⟨HERR.out.2, HERR.out.1, rfl, rfl⟩)))
    have HSR : Hid (∀ W, Below W3.heap.size W3 W → Calls Tryd.prog 28 #[.slice pa pn pc] W (RefRs W (sortR (rs ++ ss)))) := fun W hb => sortRef_is _ _ W BRU.out (HP.out.below hb)
    have HRU : Hid (∀ W, Below W3.heap.size W3 W → Calls Tryd.prog 13 #[.slice na nn nc] W (RefRs W (sortR (rs ++ ss)))) := fun W hb => refRows_is _ _ W (brSort BRU.out) (MR.out.below hb)
    have HTE : Hid (∀ W a b, Below W3.heap.size W3 W → ColsAt W a cs → RowsAt W b (sortR (rs ++ ss)) → Calls Tryd.prog 22 #[.agg #[.slice ma mn mc, .slice na nn nc], .agg #[a, b]] W fun e w' => e = .returned (.bool true) ∧ Below W.heap.size W w') := fun W a b hb h1 h2 => tabEq_is _ _ a b cs _ W BC.out (brSort BRU.out) (MC.out.below hb) (MR.out.below hb) h1 h2
    have HNA : Hid (∀ {W : World} {xa : Option Addr} {xn xc : Nat} {ya : Option Addr} {yn yc : Nat}, (((0 : Int) = 0 ∧ ColsAt W (.slice xa xn xc) cs ∧ RowsAt W (.slice ya yn yc) (sortR (ss ++ rs))) ∨ ((0 : Int) ≠ 0 ∧ xa = none ∧ xn = 0 ∧ xc = 0 ∧ ya = none ∧ yn = 0 ∧ yc = 0)) → ColsAt W (.slice xa xn xc) cs ∧ RowsAt W (.slice ya yn yc) (sortR (rs ++ ss))) := fun h => by
      rcases h with ⟨_, g1, g2⟩ | ⟨g1, _⟩
      · rw [sort_perm_eq (List.perm_append_comm)] at g2; exact ⟨g1, g2⟩
      · exact absurd rfl g1
    clear hHeld H8 hpn HM HRR1 HRR2 C1 C2 C3 NC NR BW2 BW3 hi hz0 hz1 hz2
    obtain ⟨z0, z1, _, _⟩ := D1.out.two
    obtain ⟨y0, y1, _, _⟩ := D2.out.two
    obtain ⟨i0, hi, hz0, hz1, hz2⟩ := info_parts infoRow
    have HG1 : Hid (∀ W, Below W3.heap.size W3 W → Hg 27 W (W.alloc (.cells #[.slice ua un uc] 27)) W.heap.size (.slice (some ⟨W.heap.size, 0, none⟩) 1 1) [.slice ua un uc] [r]) := fun W hb => ⟨rfl, ⟨rfl, .inr ⟨W.heap.size, 1, _, rfl, Nat.le_refl _, heap_alloc_new W _, Nat.le_refl _, by unfold maxLen; decide, rfl, rfl⟩⟩, fun i h x h1 h2 => by
      cases i with
      | zero => simp at h1 h2; subst h1; subst h2; exact HU.out.below (two BWW.out hb)
      | succ i => simp at h1⟩
    go_wp2_with (first | (go_at_call 30; refine (HUN2.out _ (Below.refl _ _)).mono ?_; rintro e v10 ⟨xa, xn, xc, ya, yn, yc, rfl, hb10, hx⟩; have hx2 := HNA.out hx; clear hx; have hb11 := balloc v10 (.cells #[.slice xa xn xc, .slice ya yn yc] 26); obtain ⟨m0, m1, _, _⟩ := ((D3.out.next hb10).next hb11).two; obtain ⟨k0, k1, _, _⟩ := (Box.new v10 [.slice xa xn xc, .slice ya yn yc] 26).two; have bw11 := Lib.hid (two hb10 hb11)) | (go_at_call 22; refine (HTE.out _ _ _ bw11.out (hx2.1.below hb11) (hx2.2.below hb11)).mono ?_; rintro e v12 ⟨rfl, hb12⟩; obtain ⟨m2, m3, _, _⟩ := (((D3.out.next hb10).next hb11).next hb12).two) | (go_at_call 13; refine (HRU.out _ (two bw11.out hb12)).mono ?_; rintro e v13 ⟨x13, rfl, o13, hb13⟩; obtain ⟨a13, c13, rfl, _, _⟩ := o13.len) | (go_at_call 28; refine (HSR.out _ (two (two bw11.out hb12) hb13)).mono ?_; rintro e v14 ⟨x14, rfl, o14, hb14⟩; obtain ⟨a14, c14, rfl, _, _⟩ := o14.len) | (go_at_call 21; refine (same_is _ _ _ _ (brSort BRU.out) (o13.below hb14) o14).mono ?_; rintro e W5 ⟨rfl, hb15⟩; have bw15 := Lib.hid (two (two (two (two bw11.out hb12) hb13) hb14) hb15); obtain ⟨m4, m5, _, _⟩ := ((D3.out.next bw15.out).next (balloc W5 (.cells #[.slice ua un uc] 27))).two) | (at_builtin; refine wpList_app_rows rfl _ _ 24 27 rfl Tryd.underlying24 hi hz0 hz1 hz2 W5.heap.size (.slice (some ⟨W5.heap.size, 0, none⟩) 1 1) [.slice ua un uc] [r] rfl (HG1.out _ bw15.out) _ (sortR (rs ++ ss)) rfl (MR.out.below bw15.out) (balloc _ _) (by have := LL.out; have := HPN.out; rw [sortR_len]; simp at *; omega) (by simp) ?_; intro v16 W6 gs H6 g6; obtain ⟨g16, n16, c16, rfl, hn16, hr16, hc16⟩ := H6.opened))
    have hlim : n16 ≤ 10000 := by have h1 := LL.out; have h2 := HPN.out; rw [← hr16]; simp only [List.length_append, List.length_cons, List.length_nil, sortR_len] at *; omega
    have BW6 : Hid (Below W3.heap.size W3 W6) := (two bw15.out (balloc W5 (.cells #[.slice ua un uc] 27))).grown g6 (Nat.le_trans bw15.out.size (balloc W5 (.cells #[.slice ua un uc] 27)).size) (fun k e => Nat.le_trans bw15.out.size ((HG1.out _ bw15.out).row.lt k e).1)
    have HH6 := Lib.hid H6
    have HN16 := Lib.hid (And.intro hn16 hr16)
    have b56 : Hid (Below W5.heap.size W5 W6) := (balloc W5 (.cells #[.slice ua un uc] 27)).grown g6 (balloc W5 (.cells #[.slice ua un uc] 27)).size (fun k e => ((HG1.out _ bw15.out).row.lt k e).1)
    have F1 := Lib.hid (D1.out.next BW6.out)
    have F2 := Lib.hid (D2.out.next BW6.out)
    have F3 := Lib.hid (D3.out.next BW6.out)
    have BW7 := Lib.hid (two BWW.out BW6.out)
    have NC := Lib.hid (MC.out.below BW6.out)
    have NR := Lib.hid (MR.out.below BW6.out)
    clear H6 g6 hn16 hr16 z0 z1 y0 y1 m0 m1 m2 m3 m4 m5 k0 k1 hb10 hb11 hb12 hb13 hb14 hb15 o13 o14 hx2 HUN2 HSR HRU HTE HNA HG1 hi hz0 hz1 hz2
    go_loopw [14, 105] (fun x i wr => ∃ k : Nat, k ≤ n16 ∧ i = .int .i64 k ∧ Hid (Below W6.heap.size W6 wr)) (fun x i _ => n16 - (intOf i).toNat)
    case atStart => exact ⟨0, Nat.zero_le _, rfl, Below.refl _ _⟩
    case round =>
      obtain ⟨k, hk, rfl, BR6⟩ := hrel
      obtain ⟨z0, z1, _, _⟩ := (F1.out.next BR6.out).two
      obtain ⟨y0, y1, _, _⟩ := (F2.out.next BR6.out).two
      obtain ⟨m0, m1, _, _⟩ := (F3.out.next BR6.out).two
      by_cases hlt : k < n16
      · obtain ⟨h, hh⟩ : ∃ h, ([.slice ua un uc] ++ gs)[k]? = some h := ⟨_, List.getElem?_eq_getElem (by rw [HN16.out.1]; exact hlt)⟩
        obtain ⟨x, hx⟩ : ∃ x, ([r] ++ sortR (rs ++ ss))[k]? = some x := ⟨_, List.getElem?_eq_getElem (by rw [HN16.out.2]; exact hlt)⟩
        have hrow := HH6.out.at' k h x hh hx
        have hcell := (BR6.out.cell (p := ⟨g16, k, none⟩) (by have h1 := lt_of_cell (HH6.out.cell hh); exact h1)).trans (HH6.out.cell hh)
        obtain ⟨xa, xc, rfl, _, _⟩ := hrow.len
        have htx : ∀ y ∈ x, y.t.size ≤ 9223372036854775807 := by
          intro y hy
          rcases List.mem_append.1 (List.mem_of_getElem? hx) with h1 | h1
          · have h2 := List.mem_singleton.1 h1
            subst h2
            have h4 := H3.out y hy
            unfold maxLen at h4
            omega
          · have := ((brSort BRU.out).row x h1).txt y hy
            omega
        obtain ⟨xn, hxn⟩ : ∃ n, x.length = n := ⟨_, rfl⟩
        rw [hxn] at hrow hcell
        have HXN := Lib.hid hxn
        have HRW : Hid (∀ W, Below W6.heap.size W6 W → RowAt W (.slice xa xn xc) x) := fun W hb => hrow.below (b56.out.trans (hb.mono b56.out.size))
        obtain ⟨q, hq⟩ : ∃ q, fits cs x = q := ⟨_, rfl⟩
        have HFT : Hid (Calls Tryd.prog 11 #[.slice sa sn sc, .slice xa xn xc] wr fun e w' => e = .returned (.bool q) ∧ Below wr.heap.size wr w') := fitsL_is hq wr BC.out.len BC.out.name (HS.out.below (two BW7.out BR6.out)) (HRW.out _ BR6.out) htx
        have HQ := Lib.hid hq
        clear hq hxn hrow hh hx htx
        cases q with
        | false =>
          go_wp2_with (go_at_call 11; refine HFT.out.mono ?_; rintro e w1 ⟨rfl, hb1⟩)
          go_roundw
          case rel => exact ⟨k + 1, by omega, by go_num, two BR6.out hb1⟩
          case measure => simp [intOf]; omega
        | true =>
          obtain ⟨cA, hcA⟩ : ∃ n, cnt x rs = n := ⟨_, rfl⟩
          obtain ⟨cB, hcB⟩ : ∃ n, cnt x ss = n := ⟨_, rfl⟩
          have hcC : cnt x (sortR (rs ++ ss)) = cA + cB := by rw [cnt_perm x (sort_perm (rs ++ ss)), cnt_app, hcA, hcB]
          have hA : cA ≤ 4096 := by have h1 : cnt x rs ≤ rs.length := List.countP_le_length; have h2 := LL.out; omega
          have hB : cB ≤ 4096 := by have h1 : cnt x ss ≤ ss.length := List.countP_le_length; have h2 := LL.out; omega
          have hx16 : x.length ≤ 4096 := by have h1 := fits_len HQ.out; have h2 := BC.out.len; omega
          have HX16 := Lib.hid hx16
          have HCA := Lib.hid (And.intro hcA (And.intro hcB hcC))
          have HK1 : Hid (∀ W, Below W6.heap.size W6 W → Calls Tryd.prog 16 #[.agg #[.slice ma mn mc, .slice na nn nc], .slice xa xn xc] W fun e w' => e = .returned (.int .i64 ((cA : Int) + cB)) ∧ Below W.heap.size W w') := fun W hb => by
            have := count_is (.slice ma mn mc) (.slice na nn nc) (.slice xa xn xc) (sortR (rs ++ ss)) x W (brSort BRU.out) HX16.out (sort_sorted _) ⟨_, _, _, rfl⟩ (NR.out.below hb) (HRW.out W hb)
            rw [HCA.out.2.2, Int.natCast_add] at this
            exact this
          have HK2 : Hid (∀ W, Below W6.heap.size W6 W → Calls Tryd.prog 16 #[.agg #[.slice sa sn sc, .slice ra rn rc], .slice xa xn xc] W fun e w' => e = .returned (.int .i64 (cA : Int)) ∧ Below W.heap.size W w') := fun W hb => by
            have := count_is (.slice sa sn sc) (.slice ra rn rc) (.slice xa xn xc) rs x W BR.out HX16.out ((sorted_iff _).1 (errT_zero HERR.out.1).2.2.1) ⟨_, _, _, rfl⟩ (HV.out.below (two BW7.out hb)) (HRW.out W hb)
            rw [HCA.out.1] at this
            exact this
          have HK3 : Hid (∀ W, Below W6.heap.size W6 W → Calls Tryd.prog 16 #[.agg #[.slice ta tn tc, .slice qa qn qc], .slice xa xn xc] W fun e w' => e = .returned (.int .i64 (cB : Int)) ∧ Below W.heap.size W w') := fun W hb => by
            have := count_is (.slice ta tn tc) (.slice qa qn qc) (.slice xa xn xc) ss x W BR2.out HX16.out ((sorted_iff _).1 (errT_zero HERR.out.2).2.2.1) ⟨_, _, _, rfl⟩ (HV2.out.below (two BW7.out hb)) (HRW.out W hb)
            rw [HCA.out.2.1] at this
            exact this
          clear hcA hcB hcC hx16
          have hwr : IntKind.i64.wrap ((cA : Int) + cB) = (cA : Int) + cB := IntWalk.i64_in _ (by omega)
          go_wp2_with (go_at_call 11; refine HFT.out.mono ?_; rintro e w1 ⟨rfl, hb1⟩)
          have BW1 := Lib.hid (two BR6.out hb1)
          have H0 : Hid ((fun W => W.cell? ⟨w.heap.size, 0, none⟩ = some (.slice sa sn sc) ∧ W.cell? ⟨w.heap.size, 1, none⟩ = some (.slice ra rn rc) ∧ W.cell? ⟨w.heap.size + 1, 0, none⟩ = some (.slice ta tn tc) ∧ W.cell? ⟨w.heap.size + 1, 1, none⟩ = some (.slice qa qn qc) ∧ W.cell? ⟨b3, 0, none⟩ = some (.slice ma mn mc) ∧ W.cell? ⟨b3, 1, none⟩ = some (.slice na nn nc) ∧ Below W6.heap.size W6 W) w1) := ⟨(hb1.cell (by exact lt_of_cell z0)).trans z0, (hb1.cell (by exact lt_of_cell z1)).trans z1, (hb1.cell (by exact lt_of_cell y0)).trans y0, (hb1.cell (by exact lt_of_cell y1)).trans y1, (hb1.cell (by exact lt_of_cell m0)).trans m0, (hb1.cell (by exact lt_of_cell m1)).trans m1, BW1.out⟩
          have HM : Hid (∀ W W', (fun W => W.cell? ⟨w.heap.size, 0, none⟩ = some (.slice sa sn sc) ∧ W.cell? ⟨w.heap.size, 1, none⟩ = some (.slice ra rn rc) ∧ W.cell? ⟨w.heap.size + 1, 0, none⟩ = some (.slice ta tn tc) ∧ W.cell? ⟨w.heap.size + 1, 1, none⟩ = some (.slice qa qn qc) ∧ W.cell? ⟨b3, 0, none⟩ = some (.slice ma mn mc) ∧ W.cell? ⟨b3, 1, none⟩ = some (.slice na nn nc) ∧ Below W6.heap.size W6 W) W → Below W.heap.size W W' → (fun W => W.cell? ⟨w.heap.size, 0, none⟩ = some (.slice sa sn sc) ∧ W.cell? ⟨w.heap.size, 1, none⟩ = some (.slice ra rn rc) ∧ W.cell? ⟨w.heap.size + 1, 0, none⟩ = some (.slice ta tn tc) ∧ W.cell? ⟨w.heap.size + 1, 1, none⟩ = some (.slice qa qn qc) ∧ W.cell? ⟨b3, 0, none⟩ = some (.slice ma mn mc) ∧ W.cell? ⟨b3, 1, none⟩ = some (.slice na nn nc) ∧ Below W6.heap.size W6 W) W') := fun W W' h hb => ⟨(hb.cell (by exact lt_of_cell h.1)).trans h.1, (hb.cell (by exact lt_of_cell h.2.1)).trans h.2.1, (hb.cell (by exact lt_of_cell h.2.2.1)).trans h.2.2.1, (hb.cell (by exact lt_of_cell h.2.2.2.1)).trans h.2.2.2.1, (hb.cell (by exact lt_of_cell h.2.2.2.2.1)).trans h.2.2.2.2.1, (hb.cell (by exact lt_of_cell h.2.2.2.2.2.1)).trans h.2.2.2.2.2.1, two h.2.2.2.2.2.2 hb⟩
          clear z0 z1 y0 y1 m0 m1 hb1 hcell
          refine wp_region_held_drew (S := fun W => W.cell? ⟨w.heap.size, 0, none⟩ = some (.slice sa sn sc) ∧ W.cell? ⟨w.heap.size, 1, none⟩ = some (.slice ra rn rc) ∧ W.cell? ⟨w.heap.size + 1, 0, none⟩ = some (.slice ta tn tc) ∧ W.cell? ⟨w.heap.size + 1, 1, none⟩ = some (.slice qa qn qc) ∧ W.cell? ⟨b3, 0, none⟩ = some (.slice ma mn mc) ∧ W.cell? ⟨b3, 1, none⟩ = some (.slice na nn nc) ∧ Below W6.heap.size W6 W) (by kernel_rfl) (by exact HM.out _ _ H0.out (Below.drew (Below.refl _ _))) (fun hHeld => ?_)
          refine wpAnyH_take (i := 0) (v := ?v15x) rfl (by kernel_rfl) (by kernel_rfl) (by kernel_rfl) (fun _ _ _ h => h) (Or.inl ⟨by rfl, ?hy15x⟩) hHeld ?rest15x
          case hy15x => (intro w hSw; (try dsimp only at hSw); go_simp <;> with_reducible rfl)
          try simp only [Array.reduceGetElem, Act.put, List.setIfInBounds_toArray, List.set_cons_zero, List.set_cons_succ]
          refine wpAnyH_take (i := 1) (v := ?v16x) rfl (by kernel_rfl) (by kernel_rfl) (by kernel_rfl) (fun _ _ _ h => h) (Or.inl ⟨by rfl, ?hy16x⟩) hHeld ?rest16x
          case hy16x => (intro w hSw; (try dsimp only at hSw); go_simp <;> with_reducible rfl)
          try simp only [Array.reduceGetElem, Act.put, List.setIfInBounds_toArray, List.set_cons_zero, List.set_cons_succ]
          refine wpAnyH_take (i := 3) (v := ?v17x) rfl (by kernel_rfl) (by kernel_rfl) (by kernel_rfl) (fun _ _ _ h => h) (Or.inl ⟨by rfl, ?hy17x⟩) hHeld ?rest17x
          case hy17x => (intro w hSw; (try dsimp only at hSw); go_simp <;> with_reducible rfl)
          try simp only [Array.reduceGetElem, Act.put, List.setIfInBounds_toArray, List.set_cons_zero, List.set_cons_succ]
          refine wpAnyH_take (i := 4) (v := ?v18x) rfl (by kernel_rfl) (by kernel_rfl) (by kernel_rfl) (fun _ _ _ h => h) (Or.inl ⟨by rfl, ?hy18x⟩) hHeld ?rest18x
          case hy18x => (intro w hSw; (try dsimp only at hSw); go_simp <;> with_reducible rfl)
          try simp only [Array.reduceGetElem, Act.put, List.setIfInBounds_toArray, List.set_cons_zero, List.set_cons_succ]
          refine wpAnyH_take (i := 6) (v := ?v19x) rfl (by kernel_rfl) (by kernel_rfl) (by kernel_rfl) (fun _ _ _ h => h) (Or.inl ⟨by rfl, ?hy19x⟩) hHeld ?rest19x
          case hy19x => (intro w hSw; (try dsimp only at hSw); go_simp <;> with_reducible rfl)
          try simp only [Array.reduceGetElem, Act.put, List.setIfInBounds_toArray, List.set_cons_zero, List.set_cons_succ]
          refine wpAnyH_take (i := 7) (v := ?v20x) rfl (by kernel_rfl) (by kernel_rfl) (by kernel_rfl) (fun _ _ _ h => h) (Or.inl ⟨by rfl, ?hy20x⟩) hHeld ?rest20x
          case hy20x => (intro w hSw; (try dsimp only at hSw); go_simp <;> with_reducible rfl)
          try simp only [Array.reduceGetElem, Act.put, List.setIfInBounds_toArray, List.set_cons_zero, List.set_cons_succ]
          refine wpAnyH_ready (rs := [2]) (by kernel_rfl) (by simp) ?_
          refine AllReadyH.cons rfl (fun K hK => ?_) AllReadyH.nil
          go_simp
          go_at_call 16; refine (HK1.out _ hHeld.2.2.2.2.2.2).mono ?_; rintro e u1 ⟨rfl, hbu1⟩; go_wp2_with fail
          refine hK.out _ _ ?_ (fun hHeld2 => ?_)
          · exact HM.out _ _ hHeld hbu1
          clear hK K hHeld
          have hHeld := hHeld2
          clear hHeld2
          try simp only [Array.reduceGetElem, Act.put, List.setIfInBounds_toArray, List.set_cons_zero, List.set_cons_succ]
          refine wpAnyH_ready (rs := [5]) (by kernel_rfl) (by simp) ?_
          refine AllReadyH.cons rfl (fun K hK => ?_) AllReadyH.nil
          go_simp
          go_at_call 16; refine (HK2.out _ hHeld.2.2.2.2.2.2).mono ?_; rintro e u2 ⟨rfl, hbu2⟩; go_wp2_with fail
          refine hK.out _ _ ?_ (fun hHeld2 => ?_)
          · exact HM.out _ _ hHeld hbu2
          clear hK K hHeld
          have hHeld := hHeld2
          clear hHeld2
          try simp only [Array.reduceGetElem, Act.put, List.setIfInBounds_toArray, List.set_cons_zero, List.set_cons_succ]
          refine wpAnyH_ready (rs := [8]) (by kernel_rfl) (by simp) ?_
          refine AllReadyH.cons rfl (fun K hK => ?_) AllReadyH.nil
          go_simp
          go_at_call 16; refine (HK3.out _ hHeld.2.2.2.2.2.2).mono ?_; rintro e u3 ⟨rfl, hbu3⟩; go_wp2_with fail
          refine hK.out _ _ ?_ (fun hHeld2 => ?_)
          · exact HM.out _ _ hHeld hbu3
          clear hK K hHeld
          have hHeld := hHeld2
          clear hHeld2
          try simp only [Array.reduceGetElem, Act.put, List.setIfInBounds_toArray, List.set_cons_zero, List.set_cons_succ]
          refine wpAnyH_take (i := 9) (v := ?v21x) rfl (by kernel_rfl) (by kernel_rfl) (by kernel_rfl) (fun _ _ _ h => h) (Or.inl ⟨by rfl, ?hy21x⟩) hHeld ?rest21x
          case hy21x => (intro w hSw; (try dsimp only at hSw); go_simp <;> with_reducible rfl)
          try simp only [Array.reduceGetElem, Act.put, List.setIfInBounds_toArray, List.set_cons_zero, List.set_cons_succ]
          refine wpAnyH_take (i := 10) (v := ?v22x) rfl (by kernel_rfl) (by kernel_rfl) (by kernel_rfl) (fun _ _ _ h => h) (Or.inl ⟨by rfl, ?hy22x⟩) hHeld ?rest22x
          case hy22x => (intro w hSw; (try dsimp only at hSw); go_simp <;> with_reducible rfl)
          try simp only [Array.reduceGetElem, Act.put, List.setIfInBounds_toArray, List.set_cons_zero, List.set_cons_succ]
          refine wpAnyH_done (by kernel_rfl) ?_ _
          have BW9 := Lib.hid hHeld.2.2.2.2.2.2
          clear hHeld H0 HM HK1 HK2 HK3
          go_wp2_with fail
          go_roundw
          case rel => exact ⟨k + 1, by omega, by go_num, BW9.out⟩
          case measure => simp [intOf]; omega
      · obtain rfl : k = n16 := by omega
        go_wp2_with (go_at_call 12; refine (HAW.out _ (two BW7.out BR6.out)).mono ?_; rintro e w9 ⟨rfl, hb9⟩)
        go_ret
        exact ⟨rfl, two (two BW7.out BR6.out) hb9⟩
theorem unions_law (s1 r1 s2 r2 u : Value) (cs ds : List Col) (rs ss : List (List Val)) (r : List Val) (w : World) (hE : EnvT w) (hs : ColsAt w s1 cs) (hv : RowsAt w r1 rs) (hs2 : ColsAt w s2 ds) (hv2 : RowsAt w r2 ss) (hu : RowAt w u r)
    (h1 : ∀ c ∈ cs, c.name.size ≤ maxLen) (h2 : ∀ r ∈ rs, ∀ x ∈ r, x.t.size ≤ maxLen) (k1 : ∀ c ∈ ds, c.name.size ≤ maxLen) (k2 : ∀ r ∈ ss, ∀ x ∈ r, x.t.size ≤ maxLen) (h3 : ∀ x ∈ r, x.t.size ≤ maxLen) (hn : ∀ r ∈ rs, Num r) (kn : ∀ r ∈ ss, Num r) (hnr : Num r) :
    Calls Tryd.prog 8 #[.agg #[s1, r1], .agg #[s2, r2], u] w fun e w' => e = .returned (.bool true) ∧ Below w.heap.size w w' := by
  obtain ⟨q1, hq1⟩ : ∃ q : Bool, q = true ↔ Small cs rs := by
    by_cases h : Small cs rs
    · exact ⟨true, by simp [h]⟩
    · exact ⟨false, by simp [h]⟩
  obtain ⟨q2, hq2⟩ : ∃ q : Bool, q = true ↔ Small ds ss := by
    by_cases h : Small ds ss
    · exact ⟨true, by simp [h]⟩
    · exact ⟨false, by simp [h]⟩
  cases e1 : q1 with
  | false => exact unions_n1 s1 r1 s2 r2 u cs ds rs ss r w hE hs hv hs2 hv2 hu h1 h2 k1 k2 h3 hn kn hnr q1 hq1 e1
  | true =>
    cases e2 : q2 with
    | false => exact unions_n2 s1 r1 s2 r2 u cs ds rs ss r w hE hs hv hs2 hv2 hu h1 h2 k1 k2 h3 hn kn hnr q1 q2 hq1 hq2 e1 e2
    | true =>
      by_cases hl : 20 < r.length
      · exact unions_n3 s1 r1 s2 r2 u cs ds rs ss r w hE hs hv hs2 hv2 hu h1 h2 k1 k2 h3 hn kn hnr q1 q2 hq1 hq2 e1 e2 hl
      · have hl' : r.length ≤ 20 := by omega
        by_cases c1 : errT cs rs = 0
        · by_cases c2 : errT ds ss = 0
          · by_cases c3 : cs = ds
            · exact unions_d s1 r1 s2 r2 u cs ds rs ss r w hE hs hv hs2 hv2 hu h1 h2 k1 k2 h3 hn kn hnr q1 q2 hq1 hq2 e1 e2 hl' 0 (.inr (.inr (.inr ⟨c1, c2, c3, rfl⟩))) c1 c2 c3 rfl
            · exact unions_c s1 r1 s2 r2 u cs ds rs ss r w hE hs hv hs2 hv2 hu h1 h2 k1 k2 h3 hn kn hnr q1 q2 hq1 hq2 e1 e2 hl' 12 (.inr (.inr (.inl ⟨c1, c2, c3, rfl⟩))) c1 c2 c3 rfl
          · exact unions_b s1 r1 s2 r2 u cs ds rs ss r w hE hs hv hs2 hv2 hu h1 h2 k1 k2 h3 hn kn hnr q1 q2 hq1 hq2 e1 e2 hl' _ (.inr (.inl ⟨c1, rfl, c2⟩)) c1 rfl c2
        · exact unions_a s1 r1 s2 r2 u cs ds rs ss r w hE hs hv hs2 hv2 hu h1 h2 k1 k2 h3 hn kn hnr q1 q2 hq1 hq2 e1 e2 hl' _ (.inl ⟨rfl, c1⟩) rfl c1
end Go.Proofs.YtfmjeggomphliaaDoor.Tb

set_option linter.unusedVariables false
namespace Go.Proofs.YtfmjeggomphliaaDoor.TableUnionsLaw
open Go.ChangeShapes Go.WideShapes Go.ChangeAt Go.RowKit Go

set_option maxRecDepth 100000 in
/-- What the walk gives, for every argument and every world that holds the listed variables. -/
theorem contract (H : Type) (enc : TypeId × Value → H) (W : World) (base : Nat) (args : Array Value) (ds gs : List (DataW H)) (before : List MemPlace)
    (hval : ∀ (j : Nat) t v, Tryd.f8.params[j]? = some t → args[j]? = some v → Value.okWide Tryd.prog W .any base t v)
    (hW : DataW.Whole enc Tryd.prog Tryd.f8.params.toList Rows.tableUnionsSpec.vars false W args.toList ds gs before)
    (hsz0 : (DataW.weightsEach Tryd.prog (Tryd.f8.params.toList ++ (OpenSpec.ofChange Rows.tableUnionsSpec).bare.plain.varTypes Tryd.prog) (ds ++ gs)).all (· ≤ reachBytes) = true)
    (hL : laidMetH Tryd.prog Rows.tableUnionsRow.laid W) (hS : W.ShapedOpen Tryd.prog) :
    Calls Tryd.prog 8 args W fun e W' => ∃ v, e = .returned v ∧ Rows.tableUnionsSpec.post enc Tryd.prog Tryd.f8 false true false false W args v W' := by
  have hW' := hW
  obtain ⟨p, q, hA0, hV, rfl, hfz, hnd⟩ := hW
  obtain ⟨rfl, rfl⟩ := trodVars_none hV
  have hA : DataW.TrodAll enc Tryd.prog W 0 (fun _ => true) true Tryd.f8.params.toList args.toList ds p := hA0
  rw [Tryd.params8] at hA hval
  obtain ⟨v0, vs0, d0, ds0, p0, q0, hargs, rfl, rfl, h0, r0⟩ := trodAll_cons hA
  obtain ⟨v1, vs1, d1, ds1, p1, q1, rfl, rfl, rfl, h1, r1⟩ := trodAll_cons r0
  obtain ⟨v2, vs2, d2, ds2, p2, q2, rfl, rfl, rfl, h2, r2⟩ := trodAll_cons r1
  obtain ⟨rfl, rfl, rfl⟩ := trodAll_nil r2
  obtain rfl : args = #[v0, v1, v2] := by cases args; simp_all
  clear hA0
  obtain ⟨ts, tv, tcs, trs, rfl, tC, tR, tbc, tbr⟩ := Tb.open_table (hval 0 26 v0 rfl rfl) h0
  obtain ⟨os, ov, ocs, ors, rfl, oC, oR, obc, obr⟩ := Tb.open_table (hval 1 26 v1 rfl rfl) h1
  obtain ⟨rowr, rowh, rowb⟩ := Tb.open_row (okWide_slice Tryd.underlying27 (hval 2 27 v2 rfl rfl)) h2
  have walk := Tb.unions_law ts tv os ov v2 tcs ocs trs ors rowr W (Tb.EnvT.of hL) tC tR oC oR rowh tbc (fun r hr => (tbr r hr).2) obc (fun r hr => (obr r hr).2) rowb.2 (fun r hr => (tbr r hr).1) (fun r hr => (obr r hr).1) rowb.1
  refine walk.mono fun e W' ⟨he, hb⟩ => ?_
  subst he
  exact ⟨_, rfl, Fr.post_true (tb := 4) (by rw [Tryd.params8]; intro t ht; simp only [List.mem_cons, List.not_mem_nil, or_false] at ht; rcases ht with rfl | rfl | rfl <;> exact ⟨by kernel_rfl, of_decide_eq_true (by kernel_rfl)⟩) rfl Tryd.underlying4 rfl hW' (fun gs hg => by subst hg; exact ⟨rfl, rfl, rfl⟩) hb⟩

theorem laid_met (os : Os) : laidMet Tryd.prog Rows.tableUnionsRow.laid ((World.doorLaid Tryd.prog 200 os).forCall (fun _ _ => 0) ⟨#[], #[.agg #[.slice none 0 0, .slice none 0 0], .agg #[.slice none 0 0, .slice none 0 0], .slice none 0 0], []⟩).memory :=
  laidMet_of_run' 8 (by kernel_rfl) (by kernel_rfl)
theorem reads (os : Os) {H : Type} (enc : TypeId × Value → H) : ∃ places, DataW.whole enc Tryd.prog ((World.doorLaid Tryd.prog 200 os).forCall (fun _ _ => 0) ⟨#[], #[.agg #[.slice none 0 0, .slice none 0 0], .agg #[.slice none 0 0, .slice none 0 0], .slice none 0 0], []⟩).memory Tryd.f8.params.toList Rows.tableUnionsSpec.vars false (#[.agg #[.slice none 0 0, .slice none 0 0], .agg #[.slice none 0 0, .slice none 0 0], .slice none 0 0] : Array Value).toList 8 = some ([.agg [.nil, .nil], .agg [.nil, .nil], .nil], [], places) :=
  ⟨[], by kernel_rfl⟩

set_option maxRecDepth 100000 in
theorem lifted (os : Os) (started : os.Started) (H : Type) (enc : TypeId × Value → H) (F : Stop.Interp) :
    ReturnsInHanded {} Tryd.checked os 8 .any ((OpenSpec.ofChange Rows.tableUnionsSpec).preRow enc Tryd.prog Tryd.f8 Rows.tableUnionsRow.domain false Rows.tableUnionsRow.laid) (((OpenSpec.ofChange Rows.tableUnionsSpec).at F).post enc Tryd.prog Tryd.f8 false true false false) := by
  obtain ⟨places, hx⟩ := reads os enc
  refine returnsInHanded_of_row (C := Tryd.checked) (s := OpenSpec.ofChange Rows.tableUnionsSpec) Fr.own started (by kernel_rfl) Tryd.func8
    (witness_row_atRef (enc := enc) (C := Tryd.checked) false (World.doorLaid Tryd.prog 200 os) #[.agg #[.slice none 0 0, .slice none 0 0], .agg #[.slice none 0 0, .slice none 0 0], .slice none 0 0] rfl (by kernel_rfl) (by kernel_rfl) (by kernel_rfl)
      (OpenSpec.preRow_of_cond 8 hx (by kernel_rfl) (fun k hk => by cases hk) (by kernel_rfl) (laid_met os))) ?_
  intro W base args ds gs before hval hW _ _ hsz hL hS _
  exact contract H enc W base args ds gs before hval hW hsz hL hS

theorem said : Rows.TableUnionsSaid :=
  OpenClaim.holds_of_cond 8 Tryd.f8 rfl rfl rfl rfl rfl rfl rfl ⟨rfl, rfl, rfl, rfl, rfl⟩ rfl rfl rfl rfl rfl (by kernel_rfl) Tryd.func8 (by kernel_rfl)
    (of_decide_eq_true (by kernel_rfl)) (by unfold Func.isWrapper; first | (rw [if_pos (by decide +kernel)]; kernel_rfl) | (rw [if_neg (by decide +kernel)]; exact ⟨rfl, rfl⟩))
    (fun os started H enc _ F => by rw [OpenClaim.pre_eq_preRow]; exact lifted os started H enc F)

/-- No parameter wants a stand-in. -/
theorem plain (f : FuncId) (fn : Func) (hf : Tryd.pinned.checked.prog.funcNamed "bywash/bywashlaw03.TableUnions" = some f) (hfn : Tryd.pinned.checked.prog.funcs[f]? = some fn) :
    false = Tryd.pinned.checked.prog.looks [] ∧ ∀ (j : Nat) t, fn.params[j]? = some t → Tryd.pinned.checked.prog.wantsStandIn t = false := by
  obtain rfl : f = 8 := Option.some.inj ((show Tryd.prog.funcNamed "bywash/bywashlaw03.TableUnions" = some 8 by kernel_rfl).symm.trans hf) |>.symm
  obtain rfl : fn = Tryd.f8 := (Option.some.inj (Tryd.func8.symm.trans hfn)).symm
  refine ⟨by kernel_rfl, fun j t ht => ?_⟩
  rw [Tryd.params8] at ht
  have hm := Array.mem_of_getElem? ht
  simp only [List.mem_toArray, List.mem_cons, List.not_mem_nil, or_false] at hm
  rcases hm with rfl | rfl | rfl <;> exact (show Tryd.prog.wantsStandIn _ = false by kernel_rfl)

/-- The law's card. -/
theorem card : Rows.TableUnionsCardSaid :=
  Claim7.holds_tied_plain_at .later [] _ _ _ _ said (fun _ h => by cases h) (by kernel_rfl) (fun _ h => by cases h) tableUnions_row_tie rfl ⟨rfl, rfl⟩ (by kernel_rfl) rfl plain (by kernel_rfl)
end Go.Proofs.YtfmjeggomphliaaDoor.TableUnionsLaw
