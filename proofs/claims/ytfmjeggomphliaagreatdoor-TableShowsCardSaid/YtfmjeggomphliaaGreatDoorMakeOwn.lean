/- Walks: what Make makes lies in memory of the call's own. -/
import Derived.Test.YtfmjeggomphliaaGreatDoorHdr
import Derived.Deep.AppendLies
set_option linter.unusedVariables false
set_option linter.unusedSimpArgs false
namespace Go.Proofs.YtfmjeggomphliaaGreatDoor.Tb
open Go.RowKit Go Go.Sort Ba Va Sr

/-- What is made lies in memory of the call's own. -/
def MadeOwn (w : World) (cs : List Col) (rs : List (List Val)) (e : Ending) (w' : World) : Prop :=
  ∃ base a1 n1 c1 a2 n2 c2, w.heap.size ≤ base ∧ e = .returned (.tuple #[.agg #[.slice a1 n1 c1, .slice a2 n2 c2], .int .i64 0]) ∧ OwnC w' base (.slice a1 n1 c1) cs ∧ Rows' w' base (.slice a2 n2 c2) (sortR rs) ∧ Below w.heap.size w w'
set_option maxHeartbeats 3200000 in
set_option maxRecDepth 100000 in
theorem make_own (sv rv : Value) (cs : List Col) (rs : List (List Val)) (w : World) (bc : BdC cs) (br : BdRs rs) (hs : ColsAt w sv cs) (hv : RowsAt w rv rs) (hE : err cs rs = 0) :
    Calls Tryz.prog 17 #[sv, rv] w (MadeOwn w cs rs) := by
  obtain ⟨sa, sc, rfl, _, _⟩ := hs.len
  obtain ⟨ra, rc, rfl, _, _⟩ := hv.len
  have HS := Lib.hid hs
  have HV := Lib.hid hv
  have BR := Lib.hid br
  have BC := Lib.hid bc
  have B1 := Lib.hid (Box.new w [.slice none 0 0, .slice none 0 0] 27)
  have bw1 : Hid (Below w.heap.size w (w.alloc (.cells #[.slice none 0 0, .slice none 0 0] 27))) := (Below.refl _ _).alloc (Nat.le_refl _) _
  have HF := Lib.hid (fit_is hE (w.alloc (.cells #[.slice none 0 0, .slice none 0 0] 27)) bc br (hs.below bw1.out) (hv.below bw1.out))
  clear hs hv bc br hE
  go_enter Tryz.func17, Tryz.ntmps17
  go_wp2_with (first | (go_at_call 42; refine HF.out.mono ?_; rintro e w1 ⟨rfl, hb1⟩) | (go_at_call 43; refine (copy_is _ _ cs rs _ BC.out BR.out ((HS.out.below bw1.out).below hb1) ((HV.out.below bw1.out).below hb1)).mono ?_; rintro e w2 ⟨x1, x2, hs, rfl, o1, o2, hb2⟩; obtain ⟨xa, xn, xc, rfl⟩ := o1.sh; obtain ⟨ya, yn, yc, rfl⟩ := o2.sh) | (go_at_call 44; refine (sorts_is (o2.below ((Below.refl _ w2).alloc (Nat.le_refl _) (.cells #[.slice xa xn xc, .slice ya yn yc] 27))) BR.out).mono ?_; rintro e w3 ⟨rfl, r3, g3⟩; have n2 : some w2.heap.size ≠ (Value.slice ya yn yc).ownBlock := (fun e => by have := (o2.row.lt _ e.symm).2; omega); have n0 : some w.heap.size ≠ (Value.slice ya yn yc).ownBlock := (fun e => by have := (o2.row.lt _ e.symm).1; have := hb1.size; simp at this; omega); obtain ⟨z0, z1, _, _⟩ := (Box.kept (Box.new w2 [.slice xa xn xc, .slice ya yn yc] 27) g3 n2).two; have RB := Box.kept (((B1.out.next hb1).next hb2).alloc _) g3 n0; obtain ⟨y0, y1, f0, f1⟩ := RB.two; have y1' := (World.cell?_setCell_other w3 ⟨w.heap.size, 0, none⟩ ⟨w.heap.size, 1, none⟩ (.slice xa xn xc) (by intro e; simp only [Addr.mk.injEq] at e; omega)).trans y1))
  have hw1 : w.heap.size < w1.heap.size := by have := hb1.size; simp at this; omega
  obtain ⟨q0, q1, _, _⟩ := ((RB.put 0 (.slice xa xn xc)).put 1 (.slice ya yn yc)).two
  have o1' := own_put (World.ownsRow.kept (own_below o1 ((Below.refl _ w2).alloc (Nat.le_refl _) (.cells #[.slice xa xn xc, .slice ya yn yc] 27)) (Nat.le_refl _)) g3 (by
    cases hk : (Value.slice xa xn xc).ownBlock with
    | none => exact .inl rfl
    | some k => exact .inr fun e => own_neT o1 o2.row (by decide) k hk e.symm)) w.heap.size hw1 0 1 (.slice xa xn xc) (.slice ya yn yc)
  have r3' := r3.put w.heap.size hw1 0 1 (.slice xa xn xc) (.slice ya yn yc)
  have b2 := two (two bw1.out hb1) hb2
  have b3 := (b2.alloc b2.size (.cells #[.slice xa xn xc, .slice ya yn yc] 27)).grown g3 (by have := b2.size; simp; omega) (fun k e => by have := (o2.row.lt _ e).1; omega)
  have b4 := (b3.setCell (p := ⟨w.heap.size, 0, none⟩) (Nat.le_refl _) (.slice xa xn xc)).setCell (p := ⟨w.heap.size, 1, none⟩) (Nat.le_refl _) (.slice ya yn yc)
  refine bodyPost_ret (by simp [results, Tryz.results17, go_sem, q0, q1]; try rfl) rfl ?_
  exact ⟨_, _, _, _, _, _, _, Nat.le_of_lt hw1, rfl, o1', r3', b4⟩
theorem Rows'.below {W W' : World} {base : Nat} {v : Value} {rs : List (List Val)} (h : Rows' W base v rs) (hb : Below W.heap.size W W') : Rows' W' base v rs := by
  rcases h with h | ⟨g, cap, hs, h0, h1, h2, h3, h4, h5, h6, h7⟩
  · exact .inl h
  · exact .inr ⟨g, cap, hs, h0, h1, Nat.lt_of_lt_of_le h2 hb.size, h3, h4, h5, fun k hk => (hb.cell (by exact h2)).trans (h6 k hk), fun k x r hx hr => (h7 k x r hx hr).below hb⟩
theorem Rows'.put1 {W : World} {base : Nat} {v : Value} {rs : List (List Val)} (h : Rows' W base v rs) (B : Nat) (hB : B < base) (i : Nat) (a : Value) : Rows' (W.setCell ⟨B, i, none⟩ a) base v rs := by
  rcases h with h | ⟨g, cap, hs, h0, h1, h2, h3, h4, h5, h6, h7⟩
  · exact .inl h
  · refine .inr ⟨g, cap, hs, h0, h1, by simpa using h2, h3, h4, h5, fun k hk => ?_, fun k x r hx hr => own_of_block (h7 k x r hx hr) fun j hj => Below.heap_setCell _ _ _ _ (by have := ((h7 k x r hx hr).lt j hj).1; show j ≠ B; omega)⟩
    rw [World.cell?_setCell_other _ _ _ _ (by intro e; simp only [Addr.mk.injEq] at e; omega)]
    exact h6 k hk
end Go.Proofs.YtfmjeggomphliaaGreatDoor.Tb
