/- Headers of rows gathered, of whatever named type of rows. -/
import Derived.Test.YtfmjeggomphliaaGreatDoorLawWalk2
import Derived.Test.YtfmjeggomphliaaGreatDoorEqWalk
set_option linter.unusedVariables false
set_option linter.unusedSimpArgs false
namespace Go.Proofs.YtfmjeggomphliaaGreatDoor.Tb
open Go.RowKit Go Go.Sort Ba Va Sr

/-- Headers of the call's own that read, in a first world, as these rows; the rows lie in old memory. -/
structure Hg (T : TypeId) (w W : World) (base : Nat) (v : Value) (hs : List Value) (rs : List (List Val)) : Prop where
  len : hs.length = rs.length
  row : W.ownsRow base T 1 v hs.length hs
  at' : ∀ (i : Nat) (h : Value) (r : List Val), hs[i]? = some h → rs[i]? = some r → RowAt w h r
theorem Hg.nil (T : TypeId) (w W : World) (base : Nat) : Hg T w W base (.slice none 0 0) [] [] := ⟨rfl, World.ownsRow_nil _ _ _ _, fun i h r hx => by simp at hx⟩
theorem Hg.at {T : TypeId} {w W : World} {base : Nat} {v : Value} {hs : List Value} {rs : List (List Val)} (h : Hg T w W base v hs rs) (hb : Below w.heap.size w W) : RowsAt W v rs := by
  refine ⟨hs, h.len, SlAt.of (base := base) (e := T) (xs := hs.map fun h => [h]) (fun x hx => ?_) ?_, fun i x r a b => (h.at' i x r a b).below hb⟩
  · obtain ⟨y, _, rfl⟩ := List.mem_map.1 hx; rfl
  · rw [List.length_map, flat1]
    exact h.row
theorem Hg.below {T : TypeId} {w W W' : World} {base : Nat} {v : Value} {hs : List Value} {rs : List (List Val)} (H : Hg T w W base v hs rs) (hb : Below W.heap.size W W') : Hg T w W' base v hs rs := ⟨H.len, own_below H.row hb (Nat.le_refl _), H.at'⟩
theorem Hg.base {T : TypeId} {w W : World} {base base' : Nat} {v : Value} {hs : List Value} {rs : List (List Val)} (H : Hg T w W base v hs rs) (hb : base' ≤ base) : Hg T w W base' v hs rs := by
  refine ⟨H.len, ⟨H.row.1, ?_⟩, H.at'⟩
  rcases H.row.2 with h2 | ⟨g, cap, cur, e, hg, x⟩
  · exact .inl h2
  · exact .inr ⟨g, cap, cur, e, by omega, x⟩
/-- Another row of the call's own has grown. -/
theorem Hg.other {T : TypeId} {w W W' : World} {base : Nat} {v u : Value} {hs : List Value} {rs : List (List Val)} (H : Hg T w W base v hs rs) (hg : W.grownBy W' u.ownBlock) (hne : ∀ k, v.ownBlock = some k → u.ownBlock ≠ some k) : Hg T w W' base v hs rs :=
  ⟨H.len, own_of_block H.row fun k hk => hg.block k (H.row.lt k hk).2 (fun e => hne k hk e.symm), H.at'⟩
theorem Hg.snoc {T : TypeId} {w W' : World} {base : Nat} {W : World} {v v' h : Value} {hs : List Value} {rs : List (List Val)} {r : List Val} (H : Hg T w W base v hs rs) (hh : RowAt w h r) (hrow : W'.ownsRow base T 1 v' (hs ++ [h]).length (hs ++ [h])) : Hg T w W' base v' (hs ++ [h]) (rs ++ [r]) := by
  refine ⟨by rw [List.length_append, List.length_append, H.len]; rfl, hrow, fun i x y hx hy => ?_⟩
  rcases get_snoc _ _ _ _ hx with ⟨i1, e1⟩ | ⟨i1, rfl⟩
  · rcases get_snoc _ _ _ _ hy with ⟨i2, e2⟩ | ⟨i2, rfl⟩
    · exact H.at' i x y e1 e2
    · have := H.len; omega
  · rcases get_snoc _ _ _ _ hy with ⟨i2, e2⟩ | ⟨i2, rfl⟩
    · have := H.len; omega
    · exact hh
theorem Hg.cells {T : TypeId} {w W : World} {base k : Nat} {v h : Value} {hs : List Value} {rs : List (List Val)} (H : Hg T w W base v hs rs) (hk : hs[k]? = some h) : ∃ b c, v = .slice (some ⟨b, 0, none⟩) hs.length c ∧ b < W.heap.size ∧ W.cell? ⟨b, k, none⟩ = some h := by
  rcases H.row.2 with ⟨rfl, h2⟩ | ⟨g, cap, cur, rfl, hg, hh, h3, h4, h5, h6⟩
  · have := (List.getElem?_eq_some_iff.1 hk).1; omega
  · have hi := (List.getElem?_eq_some_iff.1 hk).1
    refine ⟨g, cap, rfl, (H.row.lt g rfl).2, ?_⟩
    rw [H.row.cellAt k (by omega)]
    exact hk
theorem Hg.cell {T : TypeId} {w W : World} {base k b n c : Nat} {h : Value} {hs : List Value} {rs : List (List Val)} (H : Hg T w W base (.slice (some ⟨b, 0, none⟩) n c) hs rs) (hk : hs[k]? = some h) : W.cell? ⟨b, k, none⟩ = some h := by
  obtain ⟨b', c', e, _, h2⟩ := H.cells hk
  injection e with e1
  injection e1 with e1
  injection e1 with e1
  rw [e1]; exact h2
theorem Hg.row' {T : TypeId} {w W : World} {base : Nat} {v : Value} {hs : List Value} {rs : List (List Val)} (H : Hg T w W base v hs rs) : ∃ ao c, v = .slice ao rs.length c ∧ hs.length ≤ c ∧ c ≤ maxLen := by
  rw [← H.len]
  rcases H.row.2 with ⟨rfl, h2⟩ | ⟨g, cap, cur, rfl, hg, hh, h3, h4, h5, h6⟩
  · exact ⟨none, 0, by rw [h2], by omega, by unfold maxLen; omega⟩
  · exact ⟨_, cap, rfl, h3, h4⟩
/-- Part of a slice of rows: its headers' cells. -/
theorem RowsAt.hs {W : World} {ao : Option Addr} {n cap : Nat} {rs : List (List Val)} (h : RowsAt W (.slice ao n cap) rs) (h0 : 0 < rs.length) : ∃ (hs : List Value) (b o : Nat), hs.length = rs.length ∧ ao = some ⟨b, o, none⟩ ∧ b < W.heap.size ∧ n = rs.length ∧ n ≤ cap ∧ (∀ (k : Nat) (x : Value), hs[k]? = some x → W.cell? ⟨b, o + k, none⟩ = some x) ∧ (∀ (k : Nat) (x : Value) (r : List Val), hs[k]? = some x → rs[k]? = some r → RowAt W x r) := by
  obtain ⟨hs, h1, h2, h3⟩ := h
  obtain ⟨b, o, e, hlt, _⟩ := SlAt.cells h2 (i := 0) (x := [hs[0]'(by omega)]) (by rw [List.getElem?_map, List.getElem?_eq_getElem (by omega)]; rfl)
  obtain ⟨ao', cap', e', hc, _⟩ := h2.len
  injection e' with _ e1 e2
  rw [List.length_map] at e1 hc
  refine ⟨hs, b, o, h1, e, hlt, by omega, by omega, fun k x hx => ?_, h3⟩
  obtain ⟨b', o', e3, _, hcc⟩ := SlAt.cells h2 (i := k) (x := [x]) (by rw [List.getElem?_map, hx]; rfl)
  rw [e] at e3
  injection e3 with e3
  injection e3 with e4 e5
  subst e4
  subst e5
  have := hcc 0 (by decide)
  rwa [Nat.mul_one, Nat.add_zero] at this
theorem RowAt.one {W : World} {v : Value} {r : List Val} (h : RowAt W v r) : v.oneCell' = true := by
  obtain ⟨ao, c, rfl, _, _⟩ := h.len
  rfl
theorem brSort {rs : List (List Val)} (h : BdRs rs) : BdRs (sortR rs) :=
  ⟨by rw [(sort_perm rs).length_eq]; exact h.len, fun r hr => h.row r ((sort_perm rs).mem_iff.1 hr)⟩
theorem errT_sort {cs : List Col} {rs : List (List Val)} (h : err cs rs = 0) : errT cs (sortR rs) = 0 := by
  unfold errT
  rw [err_perm (sort_perm rs), h, if_neg (by simp), (sorted_iff _).2 (sort_sorted rs), if_pos rfl]
/-- What Make tells, of whatever kind. -/
def MadeAny (cs : List Col) (rs : List (List Val)) (E : Int) (w : World) (e : Ending) (w' : World) : Prop :=
  ∃ ma mn mc ra rn rc, e = .returned (.tuple #[.agg #[.slice ma mn mc, .slice ra rn rc], .int .i64 E]) ∧ Below w.heap.size w w' ∧ ((E = 0 ∧ ColsAt w' (.slice ma mn mc) cs ∧ RowsAt w' (.slice ra rn rc) (sortR rs)) ∨ (E ≠ 0 ∧ ma = none ∧ mn = 0 ∧ mc = 0 ∧ ra = none ∧ rn = 0 ∧ rc = 0))
theorem make_any (sv rv : Value) (cs : List Col) (rs : List (List Val)) (w : World) (E : Int) (bc : BdC cs) (br : BdRs rs) (hs : ColsAt w sv cs) (hv : RowsAt w rv rs) (hE : err cs rs = E) :
    Calls Tryz.prog 17 #[sv, rv] w (MadeAny cs rs E w) := by
  by_cases h0 : E = 0
  · subst h0
    refine (make_is sv rv cs rs w bc br hs hv hE).mono ?_
    rintro e w' ⟨x1, x2, h1, h2, h3, h4⟩
    obtain ⟨a, c, rfl, _, _⟩ := h2.len
    obtain ⟨a', c', rfl, _, _⟩ := h3.len
    exact ⟨_, _, _, _, _, _, h1, h4, .inl ⟨rfl, h2, h3⟩⟩
  · refine (make_no sv rv cs rs w E bc br hs hv hE h0).mono ?_
    rintro e w' ⟨h1, h4⟩
    exact ⟨_, _, _, _, _, _, h1, h4, .inr ⟨h0, rfl, rfl, rfl, rfl, rfl, rfl⟩⟩
end Go.Proofs.YtfmjeggomphliaaGreatDoor.Tb
