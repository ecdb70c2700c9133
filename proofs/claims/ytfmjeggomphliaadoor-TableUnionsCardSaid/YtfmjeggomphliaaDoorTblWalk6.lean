/- Walks: rows of the call's own are put in their order. -/
import Derived.Test.YtfmjeggomphliaaDoorTblWalk5
set_option linter.unusedVariables false
set_option linter.unusedSimpArgs false
namespace Go.Proofs.YtfmjeggomphliaaDoor.Tb
open Go.RowKit Go Go.Sort Ba Va Sr

theorem vc_inj : ∀ {r s : List Val}, (r.map vc).flatten = (s.map vc).flatten → r = s
  | [], [], _ => rfl
  | [], y :: s, h => by simp [vc] at h
  | x :: r, [], h => by simp [vc] at h
  | x :: r, y :: s, h => by
    obtain ⟨xk, xn, xt⟩ := x
    obtain ⟨yk, yn, yt⟩ := y
    simp only [List.map_cons, List.flatten_cons, vc, List.cons_append, List.nil_append, List.cons.injEq, Value.int.injEq, Value.string.injEq, true_and] at h
    obtain ⟨rfl, rfl, rfl, h4⟩ := h
    rw [vc_inj h4]
theorem own_det {W : World} {base : Nat} {v : Value} {r s : List Val} (h : OwnR W base v r) (h' : OwnR W base v s) : r = s := by
  apply vc_inj
  rcases h.2 with ⟨e, h2⟩ | ⟨g, cap, cur, e, _, hh, _, _, _, h6⟩
  · rcases h'.2 with ⟨_, h2'⟩ | ⟨g', cap', cur', e', _⟩
    · rw [List.eq_nil_of_length_eq_zero h2, List.eq_nil_of_length_eq_zero h2']
    · rw [e] at e'; cases e'
  · rcases h'.2 with ⟨e', _⟩ | ⟨g', cap', cur', e', _, hh', _, _, _, h6'⟩
    · rw [e] at e'; cases e'
    · rw [e] at e'
      injection e' with e1 e2 e3
      injection e1 with e1
      injection e1 with e1
      subst e1
      rw [hh] at hh'
      simp only [Option.some.injEq, Obj.cells.injEq] at hh'
      rw [← h6, ← h6', hh'.1, e2]
/-- What a header leads to. -/
noncomputable def rho (W : World) (base : Nat) (rs : List (List Val)) (x : Value) : List Val := @Classical.epsilon (List Val) ⟨[]⟩ fun r => r ∈ rs ∧ OwnR W base x r
def Sx (W : World) (base : Nat) (rs : List (List Val)) (x : Value) : Prop := ∃ r, r ∈ rs ∧ OwnR W base x r
theorem rho_is {W : World} {base : Nat} {rs : List (List Val)} {x : Value} (h : Sx W base rs x) : rho W base rs x ∈ rs ∧ OwnR W base x (rho W base rs x) := Classical.epsilon_spec h
noncomputable def cfx (W : World) (base : Nat) (rs : List (List Val)) (x y : Value) : Int := cmpR (rho W base rs x) (rho W base rs y)
theorem env_of {W : World} {base g n cap : Nat} {hs : List Value} {rs : List (List Val)} (H : OwnRs W base (.slice (some ⟨g, 0, none⟩) n cap) hs rs) (br : BdRs rs) : Sr.Env W g (Sx W base rs) (cfx W base rs) := by
  refine ⟨fun W' hg x y hx hy => ?_, ?_, fun x hx => ?_⟩
  · obtain ⟨hx1, hx2⟩ := rho_is hx
    obtain ⟨hy1, hy2⟩ := rho_is hy
    exact cmpr_is rfl W' (br.row _ hx1).len (br.row _ hy1).len (OwnR.at (OwnR.grown hx2 H.row hg)) (OwnR.at (OwnR.grown hy2 H.row hg))
  · exact ⟨fun x y z _ _ _ h1 h2 => ordR.tr (rho W base rs x) (rho W base rs y) (rho W base rs z) trivial trivial trivial h1 h2, fun x y _ _ => ordR.tot (rho W base rs x) (rho W base rs y) trivial trivial, fun x y _ _ h => ordR.asy (rho W base rs x) (rho W base rs y) trivial trivial h⟩
  · obtain ⟨_, h2⟩ := rho_is hx
    exact h2.sh
theorem frozen_own {w : World} {g : Nat} {cur : Array Value} {e : TypeId} (h : w.heap[g]? = some (.cells cur e (0, 0))) (i : Nat) : w.frozen? ⟨g, i, none⟩ = false := by
  simp [World.frozen?, h]
theorem sw_of {W : World} {base g n cap : Nat} {hs : List Value} {rs : List (List Val)} (H : OwnRs W base (.slice (some ⟨g, 0, none⟩) n cap) hs rs) : SW W g hs W := by
  have hb := H.row
  refine ⟨World.grownBy.refl _ _, (hb.lt g rfl).2, fun i hi => ?_, fun i hi => ?_⟩
  · have := hb.cells (g := g) rfl i hs[i] (List.getElem?_eq_getElem hi)
    rw [Addr.add_lit, Nat.zero_add] at this
    rw [this]
    unfold Sr.at'
    rw [St.gt_of undef hi]
  · rcases hb.2 with ⟨e, _⟩ | ⟨g', cap', cur, e, _, hh, _⟩
    · cases e
    · injection e with e1 e2 e3
      injection e1 with e1
      injection e1 with e1
      subst e1
      exact frozen_own hh i
/-- Rows of the call's own, in a world that may have written them anew. -/
def Rows' (W : World) (base : Nat) (v : Value) (rs : List (List Val)) : Prop :=
  (v = .slice none 0 0 ∧ rs = []) ∨ ∃ g cap hs, v = .slice (some ⟨g, 0, none⟩) rs.length cap ∧ base ≤ g ∧ g < W.heap.size ∧ rs.length ≤ cap ∧ cap ≤ maxLen ∧ hs.length = rs.length ∧
    (∀ i, i < hs.length → W.cell? ⟨g, i, none⟩ = some (Sr.at' hs i)) ∧ ∀ (i : Nat) (h : Value) (r : List Val), hs[i]? = some h → rs[i]? = some r → OwnR W base h r
theorem Rows'.at {W : World} {base : Nat} {v : Value} {rs : List (List Val)} (h : Rows' W base v rs) : RowsAt W v rs := by
  rcases h with ⟨rfl, rfl⟩ | ⟨g, cap, hs, rfl, h1, h2, h3, h4, h5, h6, h7⟩
  · exact ⟨[], rfl, ⟨none, 0, rfl, Nat.le_refl _, by unfold maxLen; omega, fun i x hx => by simp at hx⟩, fun i h r hx => by simp at hx⟩
  · refine ⟨hs, h5, ⟨some ⟨g, 0, none⟩, cap, by rw [List.length_map, h5], by rw [List.length_map, h5]; exact h3, h4, fun i x hx => ⟨g, 0, rfl, h2, fun j hj => ?_⟩⟩, fun i h r a b => (h7 i h r a b).at⟩
    rw [List.getElem?_map] at hx
    have hi : i < hs.length := by
      apply Classical.byContradiction
      intro hn
      rw [List.getElem?_eq_none (by omega)] at hx
      cases hx
    obtain rfl : j = 0 := by omega
    rw [List.getElem?_eq_getElem hi] at hx
    simp only [Option.map_some, Option.some.injEq] at hx
    subst hx
    rw [Nat.mul_one, Nat.add_zero, Nat.zero_add, h6 i hi]
    unfold Sr.at'
    rw [St.gt_of undef hi]; rfl
theorem Rows'.put {W : World} {base : Nat} {v : Value} {rs : List (List Val)} (h : Rows' W base v rs) (B : Nat) (hB : B < base) (i j : Nat) (a b : Value) : Rows' ((W.setCell ⟨B, i, none⟩ a).setCell ⟨B, j, none⟩ b) base v rs := by
  rcases h with h | ⟨g, cap, hs, h0, h1, h2, h3, h4, h5, h6, h7⟩
  · exact .inl h
  · refine .inr ⟨g, cap, hs, h0, h1, by simpa using h2, h3, h4, h5, fun k hk => ?_, fun k x r hx hr => own_put (h7 k x r hx hr) B hB i j a b⟩
    rw [World.cell?_setCell_other _ _ _ _ (by intro e; simp only [Addr.mk.injEq] at e; omega), World.cell?_setCell_other _ _ _ _ (by intro e; simp only [Addr.mk.injEq] at e; omega)]
    exact h6 k hk
theorem Rows'.sh {W : World} {base : Nat} {v : Value} {rs : List (List Val)} (h : Rows' W base v rs) : ∃ ao n c, v = .slice ao n c := by
  rcases h with ⟨rfl, _⟩ | ⟨g, cap, hs, rfl, _⟩
  · exact ⟨_, _, _, rfl⟩
  · exact ⟨_, _, _, rfl⟩
/-- Behind the sort. -/
def SortsTo (W : World) (base : Nat) (v : Value) (rs : List (List Val)) (e : Ending) (w' : World) : Prop := e = .returned (.tuple #[]) ∧ Rows' w' base v (sortR rs) ∧ W.grownBy w' v.ownBlock
theorem sorts_is {W : World} {base : Nat} {v : Value} {hs : List Value} {rs : List (List Val)} (H : OwnRs W base v hs rs) (br : BdRs rs) :
    Calls Tryd.prog 42 #[v, .func (.func 39) #[] #[]] W (SortsTo W base v rs) := by
  rcases H.row.2 with ⟨rfl, h2⟩ | ⟨g, cap, cur, rfl, hg, hh, h3, h4, h5, h6⟩
  · have hr : rs = [] := List.eq_nil_of_length_eq_zero (by rw [← H.len]; exact h2)
    subst hr
    refine (sort_nil W).mono fun e w' ⟨he, hb⟩ => ⟨he, .inl ⟨rfl, rfl⟩, grown_of hb _⟩
  · have hl := br.len
    have hS : Sr.All (Sx W base rs) hs := fun k hk => by
      have hk2 : k < rs.length := by rw [← H.len]; exact hk
      refine ⟨rs[k], List.getElem_mem hk2, ?_⟩
      unfold Sr.at'
      rw [St.gt_of undef hk]
      exact H.at' k _ _ (List.getElem?_eq_getElem hk) (List.getElem?_eq_getElem hk2)
    refine (sort_is (env_of H br) hs hs.length cap W rfl (sw_of H) hS (by rw [H.len]; exact hl)).mono ?_
    rintro e w' ⟨he, hs', S', P', U'⟩
    have hpl := P'.length_eq
    have hS' : Sr.All (Sx W base rs) hs' := hS.perm P'
    have e1 : hs.map (rho W base rs) = rs := by
      apply List.ext_getElem (by rw [List.length_map, H.len])
      intro i h1 h2
      rw [List.length_map] at h1
      rw [List.getElem_map]
      have hx := hS i h1
      unfold Sr.at' at hx
      rw [St.gt_of undef h1] at hx
      exact own_det (rho_is hx).2 (H.at' i _ _ (List.getElem?_eq_getElem h1) (List.getElem?_eq_getElem h2))
    have hp : (hs'.map (rho W base rs)).Perm rs := by
      have := P'.map (rho W base rs)
      rwa [e1] at this
    have hup : Sorted (hs'.map (rho W base rs)) := by
      refine sorted_up (d := []) fun i j g1 g2 g3 => ?_
      rw [List.length_map] at g3
      rw [St.gt_of [] (by rw [List.length_map]; omega), St.gt_of [] (by rw [List.length_map]; omega), List.getElem_map, List.getElem_map]
      have := U' i j g1 g2 (by rw [← hpl]; exact g3)
      rw [St.gt_of undef (by omega), St.gt_of undef (by omega)] at this
      exact this
    have es := sort_of hp hup
    have hln : (sortR rs).length = hs.length := by rw [(sort_perm rs).length_eq, H.len]
    refine ⟨he, .inr ⟨g, cap, hs', by rw [hln], hg, Nat.lt_of_lt_of_le S'.gl S'.gr.size, by rw [hln]; exact h3, h4, by rw [hln, hpl], S'.cell, fun i x r hx hr => ?_⟩, S'.gr⟩
    rw [← es, List.getElem?_map, hx] at hr
    simp only [Option.map_some, Option.some.injEq] at hr
    subst hr
    have hi := (List.getElem?_eq_some_iff.1 hx).1
    have hxS := hS' i hi
    unfold Sr.at' at hxS
    rw [St.gt_of undef hi, (List.getElem?_eq_some_iff.1 hx).2] at hxS
    exact OwnR.grown (rho_is hxS).2 H.row S'.gr
end Go.Proofs.YtfmjeggomphliaaDoor.Tb
