/- Walks: a table made. -/
import Derived.Test.YtfmjeggomphliaaDoorTblWalk6
import Derived.Deep.AppendLies
set_option linter.unusedVariables false
set_option linter.unusedSimpArgs false
namespace Go.Proofs.YtfmjeggomphliaaDoor.Tb
open Go.RowKit Go Go.Sort Ba Va Sr

theorem Box.kept {W W' : World} {B : Nat} {vs : List Value} {row : Option Nat} (h : Box W B vs) (hg : W.grownBy W' row) (hne : some B ≠ row) : Box W' B vs :=
  ⟨Nat.lt_of_lt_of_le h.lt hg.size, fun i v hi => (World.grownBy.cell_far hg ⟨B, i, none⟩ h.lt hne).trans (h.cl i v hi), fun i hi => (World.grownBy.frozen_far hg ⟨B, i, none⟩ h.lt hne).trans (h.fr i hi)⟩
/-- What is made: a right table, its columns these, its rows these in their order. -/
def MadeTo (w : World) (cs : List Col) (rs : List (List Val)) (e : Ending) (w' : World) : Prop :=
  ∃ x1 x2, e = .returned (.tuple #[.agg #[x1, x2], .int .i64 0]) ∧ ColsAt w' x1 cs ∧ RowsAt w' x2 (sortR rs) ∧ Below w.heap.size w w'
set_option maxHeartbeats 3200000 in
set_option maxRecDepth 100000 in
theorem make_is (sv rv : Value) (cs : List Col) (rs : List (List Val)) (w : World) (bc : BdC cs) (br : BdRs rs) (hs : ColsAt w sv cs) (hv : RowsAt w rv rs) (hE : err cs rs = 0) :
    Calls Tryd.prog 19 #[sv, rv] w (MadeTo w cs rs) := by
  obtain ⟨sa, sc, rfl, _, _⟩ := hs.len
  obtain ⟨ra, rc, rfl, _, _⟩ := hv.len
  have HS := Lib.hid hs
  have HV := Lib.hid hv
  have BR := Lib.hid br
  have BC := Lib.hid bc
  have B1 := Lib.hid (Box.new w [.slice none 0 0, .slice none 0 0] 26)
  have bw1 : Hid (Below w.heap.size w (w.alloc (.cells #[.slice none 0 0, .slice none 0 0] 26))) := (Below.refl _ _).alloc (Nat.le_refl _) _
  have HF := Lib.hid (fit_is hE (w.alloc (.cells #[.slice none 0 0, .slice none 0 0] 26)) bc br (hs.below bw1.out) (hv.below bw1.out))
  clear hs hv bc br hE
  go_enter Tryd.func19, Tryd.ntmps19
  go_wp2_with (first | (go_at_call 41; refine HF.out.mono ?_; rintro e w1 ⟨rfl, hb1⟩) | (go_at_call 23; refine (copy_is _ _ cs rs _ BC.out BR.out ((HS.out.below bw1.out).below hb1) ((HV.out.below bw1.out).below hb1)).mono ?_; rintro e w2 ⟨x1, x2, hs, rfl, o1, o2, hb2⟩; obtain ⟨xa, xn, xc, rfl⟩ := o1.sh; obtain ⟨ya, yn, yc, rfl⟩ := o2.sh) | (go_at_call 42; refine (sorts_is (o2.below ((Below.refl _ w2).alloc (Nat.le_refl _) (.cells #[.slice xa xn xc, .slice ya yn yc] 26))) BR.out).mono ?_; rintro e w3 ⟨rfl, r3, g3⟩; have n2 : some w2.heap.size ≠ (Value.slice ya yn yc).ownBlock := (fun e => by have := (o2.row.lt _ e.symm).2; omega); have n0 : some w.heap.size ≠ (Value.slice ya yn yc).ownBlock := (fun e => by have := (o2.row.lt _ e.symm).1; have := hb1.size; simp at this; omega); obtain ⟨z0, z1, _, _⟩ := (Box.kept (Box.new w2 [.slice xa xn xc, .slice ya yn yc] 26) g3 n2).two; have RB := Box.kept (((B1.out.next hb1).next hb2).alloc _) g3 n0; obtain ⟨y0, y1, f0, f1⟩ := RB.two; have y1' := (World.cell?_setCell_other w3 ⟨w.heap.size, 0, none⟩ ⟨w.heap.size, 1, none⟩ (.slice xa xn xc) (by intro e; simp only [Addr.mk.injEq] at e; omega)).trans y1))
  have hw1 : w.heap.size < w1.heap.size := by have := hb1.size; simp at this; omega
  obtain ⟨q0, q1, _, _⟩ := ((RB.put 0 (.slice xa xn xc)).put 1 (.slice ya yn yc)).two
  have o1' := own_put (World.ownsRow.kept (own_below o1 ((Below.refl _ w2).alloc (Nat.le_refl _) (.cells #[.slice xa xn xc, .slice ya yn yc] 26)) (Nat.le_refl _)) g3 (by
    cases hk : (Value.slice xa xn xc).ownBlock with
    | none => exact .inl rfl
    | some k => exact .inr fun e => own_neT o1 o2.row (by decide) k hk e.symm)) w.heap.size hw1 0 1 (.slice xa xn xc) (.slice ya yn yc)
  have r3' := r3.put w.heap.size hw1 0 1 (.slice xa xn xc) (.slice ya yn yc)
  have b2 := two (two bw1.out hb1) hb2
  have b3 := (b2.alloc b2.size (.cells #[.slice xa xn xc, .slice ya yn yc] 26)).grown g3 (by have := b2.size; simp; omega) (fun k e => by have := (o2.row.lt _ e).1; omega)
  have b4 := (b3.setCell (p := ⟨w.heap.size, 0, none⟩) (Nat.le_refl _) (.slice xa xn xc)).setCell (p := ⟨w.heap.size, 1, none⟩) (Nat.le_refl _) (.slice ya yn yc)
  refine bodyPost_ret (by simp [results, Tryd.results19, go_sem, q0, q1]; try rfl) rfl ?_
  exact ⟨_, _, rfl, OwnC.at o1', r3'.at, b4⟩
/-- What is refused. -/
theorem make_no (sv rv : Value) (cs : List Col) (rs : List (List Val)) (w : World) (E : Int) (bc : BdC cs) (br : BdRs rs) (hs : ColsAt w sv cs) (hv : RowsAt w rv rs) (hE : err cs rs = E) (h0 : E ≠ 0) :
    Calls Tryd.prog 19 #[sv, rv] w fun e w' => e = .returned (.tuple #[.agg #[.slice none 0 0, .slice none 0 0], .int .i64 E]) ∧ Below w.heap.size w w' := by
  have B1 := Lib.hid (Box.new w [.slice none 0 0, .slice none 0 0] 26)
  have bw1 : Hid (Below w.heap.size w (w.alloc (.cells #[.slice none 0 0, .slice none 0 0] 26))) := (Below.refl _ _).alloc (Nat.le_refl _) _
  have HF := Lib.hid (fit_is hE (w.alloc (.cells #[.slice none 0 0, .slice none 0 0] 26)) bc br (hs.below bw1.out) (hv.below bw1.out))
  have d0 : (E != 0) = true := by simpa using h0
  clear hs hv bc br hE h0
  go_enter Tryd.func19, Tryd.ntmps19
  go_wp2_with (go_at_call 41; refine HF.out.mono ?_; rintro e w1 ⟨rfl, hb1⟩; have RB := B1.out.next hb1; obtain ⟨y0, y1, f0, f1⟩ := RB.two; have y1' := (World.cell?_setCell_other w1 ⟨w.heap.size, 0, none⟩ ⟨w.heap.size, 1, none⟩ (.slice none 0 0) (by intro e; simp only [Addr.mk.injEq] at e; omega)).trans y1)
  obtain ⟨q0, q1, _, _⟩ := ((RB.put 0 (.slice none 0 0)).put 1 (.slice none 0 0)).two
  refine bodyPost_ret (by simp [results, Tryd.results19, go_sem, q0, q1]; try rfl) rfl ?_
  exact ⟨rfl, ((two bw1.out hb1).setCell (p := ⟨w.heap.size, 0, none⟩) (Nat.le_refl _) _).setCell (p := ⟨w.heap.size, 1, none⟩) (Nat.le_refl _) _⟩
end Go.Proofs.YtfmjeggomphliaaDoor.Tb
