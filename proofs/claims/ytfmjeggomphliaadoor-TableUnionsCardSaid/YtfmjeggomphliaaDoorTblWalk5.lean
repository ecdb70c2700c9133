/- Walks: a table's copy. -/
import Derived.Test.YtfmjeggomphliaaDoorTblWalk4
import Derived.Test.YtfmjeggomphliaaDoorHeld
set_option linter.unusedVariables false
set_option linter.unusedSimpArgs false
namespace Go.Proofs.YtfmjeggomphliaaDoor.Tb
open Go.RowKit Go Go.Sort Ba Va Sr

theorem OwnC.sh {W : World} {base : Nat} {v : Value} {r : List Col} (h : OwnC W base v r) : ∃ ao n c, v = .slice ao n c := by
  rcases h.2 with ⟨rfl, _⟩ | ⟨g, cap, cur, rfl, _⟩
  · exact ⟨_, _, _, rfl⟩
  · exact ⟨_, _, _, rfl⟩
theorem OwnC.base {W : World} {base base' : Nat} {v : Value} {r : List Col} (h : OwnC W base v r) (hb : base' ≤ base) : OwnC W base' v r := by
  refine ⟨h.1, ?_⟩
  rcases h.2 with h2 | ⟨g, cap, cur, e, hg, x⟩
  · exact .inl h2
  · exact .inr ⟨g, cap, cur, e, by omega, x⟩
theorem OwnC.below {W W' : World} {base : Nat} {v : Value} {r : List Col} (h : OwnC W base v r) (hb : Below W.heap.size W W') : OwnC W' base v r := own_below h hb (Nat.le_refl _)
theorem OwnRs.sh {W : World} {base : Nat} {v : Value} {hs : List Value} {rs : List (List Val)} (h : OwnRs W base v hs rs) : ∃ ao n c, v = .slice ao n c := by
  rcases h.row.2 with ⟨rfl, _⟩ | ⟨g, cap, cur, rfl, _⟩
  · exact ⟨_, _, _, rfl⟩
  · exact ⟨_, _, _, rfl⟩
/-- What is the call's own stays while a block ahead of it is written. -/
theorem own_put {w : World} {base : Nat} {e : TypeId} {size : Nat} {v : Value} {n : Nat} {xs : List Value} (h : w.ownsRow base e size v n xs) (B : Nat) (hB : B < base) (i j : Nat) (a b : Value) : ((w.setCell ⟨B, i, none⟩ a).setCell ⟨B, j, none⟩ b).ownsRow base e size v n xs :=
  own_of_block h fun k hk => by
    have := (h.lt k hk).1
    rw [Below.heap_setCell _ _ _ _ (by show k ≠ B; omega), Below.heap_setCell _ _ _ _ (by show k ≠ B; omega)]
theorem OwnRs.put {W : World} {base : Nat} {v : Value} {hs : List Value} {rs : List (List Val)} (h : OwnRs W base v hs rs) (B : Nat) (hB : B < base) (i j : Nat) (a b : Value) : OwnRs ((W.setCell ⟨B, i, none⟩ a).setCell ⟨B, j, none⟩ b) base v hs rs :=
  ⟨h.len, own_put h.row B hB i j a b, fun k x r h1 h2 => own_put (h.at' k x r h1 h2) B hB i j a b⟩
theorem OwnRs.base {W : World} {base base' : Nat} {v : Value} {hs : List Value} {rs : List (List Val)} (h : OwnRs W base v hs rs) (hb : base' ≤ base) : OwnRs W base' v hs rs := by
  refine ⟨h.len, ⟨h.row.1, ?_⟩, fun k x r h1 h2 => (h.at' k x r h1 h2).base hb⟩
  rcases h.row.2 with h2 | ⟨g, cap, cur, e, hg, x⟩
  · exact .inl h2
  · exact .inr ⟨g, cap, cur, e, by omega, x⟩
/-- A copy: columns and rows of the call's own. -/
def CopiedT (w : World) (cs : List Col) (rs : List (List Val)) (e : Ending) (w' : World) : Prop :=
  ∃ x1 x2 hs, e = .returned (.agg #[x1, x2]) ∧ OwnC w' w.heap.size x1 cs ∧ OwnRs w' w.heap.size x2 hs rs ∧ Below w.heap.size w w'
/-- What is known of the world all along. -/
def HeldC (w : World) (sv rv : Value) (W : World) : Prop := W.cell? ⟨w.heap.size, 0, none⟩ = some sv ∧ W.cell? ⟨w.heap.size, 1, none⟩ = some rv ∧ (∃ p q, Box W (w.heap.size + 1) [p, q]) ∧ Below w.heap.size w W
theorem HeldC.next {w W W' : World} {sv rv : Value} (h : HeldC w sv rv W) (hb : Below W.heap.size W W') : HeldC w sv rv W' := by
  obtain ⟨h1, h2, ⟨p, q, hB⟩, h4⟩ := h
  exact ⟨(hb.cell (by exact lt_of_cell h1)).trans h1, (hb.cell (by exact lt_of_cell h2)).trans h2, ⟨p, q, hB.next hb⟩, two h4 hb⟩
theorem HeldC.put {w W : World} {sv rv : Value} (h : HeldC w sv rv W) (u v : Value) : HeldC w sv rv ((W.setCell ⟨w.heap.size + 1, 0, none⟩ u).setCell ⟨w.heap.size + 1, 1, none⟩ v) := by
  obtain ⟨h1, h2, ⟨p, q, hB⟩, h4⟩ := h
  refine ⟨?_, ?_, ⟨u, v, (hB.put 0 u).put 1 v⟩, (h4.setCell (p := ⟨w.heap.size + 1, 0, none⟩) (by simp) _).setCell (p := ⟨w.heap.size + 1, 1, none⟩) (by simp) _⟩
  · rw [World.cell?_setCell_other _ _ _ _ (by intro e; simp only [Addr.mk.injEq] at e; omega), World.cell?_setCell_other _ _ _ _ (by intro e; simp only [Addr.mk.injEq] at e; omega)]; exact h1
  · rw [World.cell?_setCell_other _ _ _ _ (by intro e; simp only [Addr.mk.injEq] at e; omega), World.cell?_setCell_other _ _ _ _ (by intro e; simp only [Addr.mk.injEq] at e; omega)]; exact h2
set_option maxHeartbeats 3200000 in
set_option maxRecDepth 100000 in
theorem copy_is (sv rv : Value) (cs : List Col) (rs : List (List Val)) (w : World) (bc : BdC cs) (br : BdRs rs) (hs : ColsAt w sv cs) (hv : RowsAt w rv rs) :
    Calls Tryd.prog 23 #[.agg #[sv, rv]] w (CopiedT w cs rs) := by
  obtain ⟨sa, sc, rfl, _, _⟩ := hs.len
  obtain ⟨ra, rc, rfl, _, _⟩ := hv.len
  have HC : Hid (∀ W, HeldC w (.slice sa cs.length sc) (.slice ra rs.length rc) W → Calls Tryd.prog 46 #[.slice sa cs.length sc] W (ClonedC W cs)) := fun W h => cloneC_is _ cs W (by have := bc.len; omega) (hs.below h.2.2.2)
  have HR : Hid (∀ W, HeldC w (.slice sa cs.length sc) (.slice ra rs.length rc) W → Calls Tryd.prog 47 #[.slice ra rs.length rc] W (Copied W rs)) := fun W h => copied_is _ rs W br.len (fun r hr => by have := (br.row r hr).len; omega) (hv.below h.2.2.2)
  have HM : Hid (∀ W W', HeldC w (.slice sa cs.length sc) (.slice ra rs.length rc) W → Below W.heap.size W W' → HeldC w (.slice sa cs.length sc) (.slice ra rs.length rc) W') := fun W W' h hb => h.next hb
  have HP : Hid (∀ W u v, HeldC w (.slice sa cs.length sc) (.slice ra rs.length rc) W → HeldC w (.slice sa cs.length sc) (.slice ra rs.length rc) ((W.setCell ⟨w.heap.size + 1, 0, none⟩ u).setCell ⟨w.heap.size + 1, 1, none⟩ v)) := fun W u v h => h.put u v
  have H0 : Hid (HeldC w (.slice sa cs.length sc) (.slice ra rs.length rc) ((w.alloc (.cells #[.slice sa cs.length sc, .slice ra rs.length rc] 26)).alloc (.cells #[.slice none 0 0, .slice none 0 0] 26))) := by
    refine ⟨by simp, by simp, ⟨.slice none 0 0, .slice none 0 0, ?_⟩, ((Below.refl _ w).alloc (Nat.le_refl _) _).alloc (by simp) _⟩
    have := Box.new (w.alloc (.cells #[.slice sa cs.length sc, .slice ra rs.length rc] 26)) [.slice none 0 0, .slice none 0 0] 26
    simpa using this
  have hsz : ((w.alloc (.cells #[.slice sa cs.length sc, .slice ra rs.length rc] 26)).alloc (.cells #[.slice none 0 0, .slice none 0 0] 26)).heap.size = w.heap.size + 2 := by simp
  have HSZ := Lib.hid hsz
  clear hs hv bc br hsz
  go_enter Tryd.func23, Tryd.ntmps23
  go_wp2_with fail
  generalize (w.alloc (.cells #[.slice sa cs.length sc, .slice ra rs.length rc] 26)).alloc (.cells #[.slice none 0 0, .slice none 0 0] 26) = W0 at *
  refine wp_region_held_drew (S := fun W => W.cell? ⟨w.heap.size, 0, none⟩ = some (.slice sa cs.length sc) ∧ W.cell? ⟨w.heap.size, 1, none⟩ = some (.slice ra rs.length rc) ∧ (∃ p q, Box W (w.heap.size + 1) [p, q]) ∧ Below w.heap.size w W) (by kernel_rfl) (by exact HM.out _ _ H0.out (Below.drew (Below.refl _ _))) (fun hHeld => ?_)
  refine wpAnyH_take (i := 0) (v := ?v1x) rfl (by kernel_rfl) (by kernel_rfl) (by kernel_rfl) (fun _ _ _ h => h) (Or.inl ⟨by rfl, ?hy1x⟩) hHeld ?rest1x
  case hy1x => (intro w hSw; (try dsimp only at hSw); go_simp <;> with_reducible rfl)
  try simp only [Array.reduceGetElem, Act.put, List.setIfInBounds_toArray, List.set_cons_zero, List.set_cons_succ]
  refine wpAnyH_take (i := 1) (v := ?v2x) rfl (by kernel_rfl) (by kernel_rfl) (by kernel_rfl) (fun _ _ _ h => h) (Or.inl ⟨by rfl, ?hy2x⟩) hHeld ?rest2x
  case hy2x => (intro w hSw; (try dsimp only at hSw); go_simp <;> with_reducible rfl)
  try simp only [Array.reduceGetElem, Act.put, List.setIfInBounds_toArray, List.set_cons_zero, List.set_cons_succ]
  refine wpAnyH_take (i := 3) (v := ?v3x) rfl (by kernel_rfl) (by kernel_rfl) (by kernel_rfl) (fun _ _ _ h => h) (Or.inl ⟨by rfl, ?hy3x⟩) hHeld ?rest3x
  case hy3x => (intro w hSw; (try dsimp only at hSw); go_simp <;> with_reducible rfl)
  try simp only [Array.reduceGetElem, Act.put, List.setIfInBounds_toArray, List.set_cons_zero, List.set_cons_succ]
  refine wpAnyH_take (i := 4) (v := ?v4x) rfl (by kernel_rfl) (by kernel_rfl) (by kernel_rfl) (fun _ _ _ h => h) (Or.inl ⟨by rfl, ?hy4x⟩) hHeld ?rest4x
  case hy4x => (intro w hSw; (try dsimp only at hSw); go_simp <;> with_reducible rfl)
  try simp only [Array.reduceGetElem, Act.put, List.setIfInBounds_toArray, List.set_cons_zero, List.set_cons_succ]
  refine wpAnyH_ready (rs := [2]) (by kernel_rfl) (by simp) ?_
  refine AllReadyH.cons rfl (fun K hK => ?_) AllReadyH.nil
  go_simp
  go_at_call 46; refine (HC.out _ hHeld).mono ?_; rintro e v1 ⟨x1, rfl, o1, hb1⟩; obtain ⟨xa, xn, xc, rfl⟩ := o1.sh; go_wp2_with fail
  refine hK.out _ _ ?_ (fun hHeld2 => ?_)
  · exact HM.out _ _ hHeld hb1
  clear hK K hHeld
  have hHeld := hHeld2
  clear hHeld2
  try simp only [Array.reduceGetElem, Act.put, List.setIfInBounds_toArray, List.set_cons_zero, List.set_cons_succ]
  refine wpAnyH_ready (rs := [5]) (by kernel_rfl) (by simp) ?_
  refine AllReadyH.cons rfl (fun K hK => ?_) AllReadyH.nil
  go_simp
  go_at_call 47; refine (HR.out _ hHeld).mono ?_; rintro e v2 ⟨x2, hs, rfl, o2, hb2⟩; obtain ⟨ya, yn, yc, rfl⟩ := o2.sh; go_wp2_with fail
  refine hK.out _ _ ?_ (fun hHeld2 => ?_)
  · exact HM.out _ _ hHeld hb2
  clear hK K hHeld
  have hHeld := hHeld2
  clear hHeld2
  obtain ⟨p, q, HBX⟩ := hHeld.2.2.1
  obtain ⟨z0, z1, f0, f1⟩ := HBX.two
  have z1' := (World.cell?_setCell_other v2 ⟨w.heap.size + 1, 0, none⟩ ⟨w.heap.size + 1, 1, none⟩ (.slice xa xn xc) (by intro e; simp only [Addr.mk.injEq] at e; omega)).trans z1
  try simp only [Array.reduceGetElem, Act.put, List.setIfInBounds_toArray, List.set_cons_zero, List.set_cons_succ]
  refine wpAnyH_take (i := 6) (v := ?v5x) rfl (by kernel_rfl) (by kernel_rfl) (by kernel_rfl) (fun _ _ _ h => h) (Or.inl ⟨by rfl, ?hy5x⟩) hHeld ?rest5x
  case hy5x => (intro w hSw; (try dsimp only at hSw); go_simp <;> with_reducible rfl)
  try simp only [Array.reduceGetElem, Act.put, List.setIfInBounds_toArray, List.set_cons_zero, List.set_cons_succ]
  refine wpAnyH_ready (rs := [7]) (by kernel_rfl) (by simp) ?_
  refine AllReadyH.cons rfl (fun K hK => ?_) AllReadyH.nil
  go_simp
  refine hK.out _ _ ?_ (fun hHeld2 => ?_)
  · exact HP.out _ _ _ hHeld
  clear hK K hHeld
  have hHeld := hHeld2
  clear hHeld2
  try simp only [Array.reduceGetElem, Act.put, List.setIfInBounds_toArray, List.set_cons_zero, List.set_cons_succ]
  refine wpAnyH_done (by kernel_rfl) ?_ _
  go_wp2_with fail
  obtain ⟨r0, r1, _, _⟩ := ((HBX.put 0 (.slice xa xn xc)).put 1 (.slice ya yn yc)).two
  refine bodyPost_ret (by simp [results, Tryd.results23, go_sem, r0, r1]; try rfl) rfl ?_
  exact ⟨_, _, hs, rfl, OwnC.base (own_put (o1.below hb2) _ (by have := HSZ.out; have : W0.drew.heap.size = W0.heap.size := rfl; omega) _ _ _ _) (by have := HSZ.out; have : W0.drew.heap.size = W0.heap.size := rfl; omega), OwnRs.base (o2.put _ (by have := HSZ.out; have : W0.drew.heap.size = W0.heap.size := rfl; have := hb1.size; omega) _ _ _ _) (by have := HSZ.out; have : W0.drew.heap.size = W0.heap.size := rfl; have := hb1.size; omega), hHeld.2.2.2⟩
end Go.Proofs.YtfmjeggomphliaaDoor.Tb
