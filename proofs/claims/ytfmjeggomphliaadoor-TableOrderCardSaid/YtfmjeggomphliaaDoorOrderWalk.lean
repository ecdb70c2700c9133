/- Walks: the statement TableOrder. -/
import Derived.Test.YtfmjeggomphliaaDoorHdr
set_option linter.unusedVariables false
set_option linter.unusedSimpArgs false
namespace Go.Proofs.YtfmjeggomphliaaDoor.Tb
open Go.RowKit Go Go.Sort Ba Va Sr

/-- A table that Make tells, or an empty one. -/
def csT (cs : List Col) (E : Int) : List Col := if E = 0 then cs else []
def rsT (rs : List (List Val)) (E : Int) : List (List Val) := if E = 0 then sortR rs else []
def MadeTab (cs : List Col) (rs : List (List Val)) (E : Int) (w : World) (e : Ending) (w' : World) : Prop :=
  ∃ ma mn mc ra rn rc, e = .returned (.tuple #[.agg #[.slice ma mn mc, .slice ra rn rc], .int .i64 E]) ∧ Below w.heap.size w w' ∧ ColsAt w' (.slice ma mn mc) (csT cs E) ∧ RowsAt w' (.slice ra rn rc) (rsT rs E)
theorem bcT {cs : List Col} (h : BdC cs) (E : Int) : BdC (csT cs E) := by
  unfold csT; split
  · exact h
  · exact ⟨by simp, fun c hc => by cases hc⟩
theorem brT {rs : List (List Val)} (h : BdRs rs) (E : Int) : BdRs (rsT rs E) := by
  unfold rsT; split
  · exact brSort h
  · exact ⟨by simp, fun c hc => by cases hc⟩
theorem nilC (w : World) : ColsAt w (.slice none 0 0) [] := ⟨none, 0, rfl, Nat.le_refl _, by unfold maxLen; decide, fun i x hx => by simp at hx⟩
theorem nilR (w : World) : RowsAt w (.slice none 0 0) [] := ⟨[], rfl, ⟨none, 0, rfl, Nat.le_refl _, by unfold maxLen; decide, fun i x hx => by simp at hx⟩, fun i h r hx => by simp at hx⟩
theorem make_tab (sv rv : Value) (cs : List Col) (rs rs' : List (List Val)) (w : World) (E : Int) (bc : BdC cs) (br : BdRs rs') (hs : ColsAt w sv cs) (hv : RowsAt w rv rs') (hE : err cs rs = E) (hp : rs'.Perm rs) :
    Calls Tryd.prog 19 #[sv, rv] w (MadeTab cs rs E w) := by
  refine (make_any sv rv cs rs' w E bc br hs hv (by rw [err_perm hp, hE])).mono ?_
  rintro e w' ⟨ma, mn, mc, ra, rn, rc, h1, h2, ⟨h3, h4, h5⟩ | ⟨h3, rfl, rfl, rfl, rfl, rfl, rfl⟩⟩
  · refine ⟨ma, mn, mc, ra, rn, rc, h1, h2, ?_, ?_⟩
    · unfold csT; rw [if_pos h3]; exact h4
    · unfold rsT; rw [if_pos h3, ← sort_perm_eq hp]; exact h5
  · refine ⟨_, _, _, _, _, _, h1, h2, ?_, ?_⟩
    · unfold csT; rw [if_neg h3]; exact nilC _
    · unfold rsT; rw [if_neg h3]; exact nilR _
/-- Rows turned. -/
def turnL {α : Type} (l : List α) (f : Nat) : List α := l.drop f ++ l.take f
theorem turn_perm {α : Type} (l : List α) (f : Nat) : (turnL l f).reverse.Perm l :=
  (List.reverse_perm _).trans (List.perm_append_comm.trans (by rw [List.take_append_drop]))
theorem turn_len {α : Type} (l : List α) (f : Nat) (h : f ≤ l.length) : (turnL l f).length = l.length := by
  unfold turnL; rw [List.length_append, List.length_drop, List.length_take]; omega
theorem turn_at {α : Type} (l : List α) (f : Nat) (h : f ≤ l.length) (i : Nat) : (turnL l f)[i]? = if i < l.length - f then l[f + i]? else if i < l.length then l[i - (l.length - f)]? else none := by
  unfold turnL
  rw [List.getElem?_append, List.length_drop, List.getElem?_drop, List.getElem?_take]
  split
  · rfl
  · split
    · rw [if_pos (by omega)]
    · rw [if_neg (by omega)]
set_option maxHeartbeats 12800000 in
set_option maxRecDepth 100000 in
theorem order_law (sv v : Value) (bI : Int) (cs : List Col) (rs : List (List Val)) (w : World) (hE : EnvT w) (hs : ColsAt w sv cs) (hv : RowsAt w v rs) (h1 : ∀ c ∈ cs, c.name.size ≤ maxLen) (h2 : ∀ r ∈ rs, ∀ x ∈ r, x.t.size ≤ maxLen) (hn : ∀ r ∈ rs, Num r) :
    Calls Tryd.prog 6 #[.agg #[sv, v], .int .i64 bI] w fun e w' => e = .returned (.bool true) ∧ Below w.heap.size w w' := by
  obtain ⟨sao, scap, rfl, hsc, hsm⟩ := hs.len
  obtain ⟨ao, cap, rfl, hcp, hcm⟩ := hv.len
  obtain ⟨sn, hsn⟩ : ∃ sn, cs.length = sn := ⟨_, rfl⟩
  obtain ⟨n, hnn⟩ : ∃ n, rs.length = n := ⟨_, rfl⟩
  rw [hsn] at hs ⊢
  rw [hnn] at hv hcp ⊢
  have HE := Lib.hid hE
  have HS0 := Lib.hid hs
  have HV0 := Lib.hid hv
  have HNN := Lib.hid hnn
  have B1 := Lib.hid (Box.new w [.slice sao sn scap, .slice ao n cap] 26)
  have bw1 : Hid (Below w.heap.size w (w.alloc (.cells #[.slice sao sn scap, .slice ao n cap] 26))) := (Below.refl _ _).alloc (Nat.le_refl _) _
  obtain ⟨q, hq⟩ : ∃ q : Bool, q = true ↔ Small cs rs := by
    by_cases h : Small cs rs
    · exact ⟨true, by simp [h]⟩
    · exact ⟨false, by simp [h]⟩
  have HSM : Hid (∀ W, Below w.heap.size w W → Calls Tryd.prog 9 #[.agg #[.slice sao sn scap, .slice ao n cap]] W fun e w' => e = .returned (.bool q) ∧ Below W.heap.size W w') := fun W hb => small_is _ _ cs rs q hq W (hs.below hb) (hv.below hb) h1 h2
  have HAW : Hid (∀ W, Below w.heap.size w W → Calls Tryd.prog 12 #[] W fun e w' => e = .returned (.bool true) ∧ Below W.heap.size W w') := fun W hb => awake_any W (HE.out.below hb)
  have HBR := Lib.hid (fun (h : Small cs rs) => h.br hn)
  clear hs hv hE h1 h2 hn hsn hnn hsc
  cases q with
  | false =>
    clear hq HBR
    go_enter Tryd.func6, Tryd.ntmps6
    go_wp2_with (first | (go_at_call 9; refine (HSM.out _ bw1.out).mono ?_; rintro e v1 ⟨rfl, hb1⟩) | (go_at_call 12; refine (HAW.out _ (two bw1.out hb1)).mono ?_; rintro e v2 ⟨rfl, hb2⟩))
    go_ret
    exact ⟨rfl, two (two bw1.out hb1) hb2⟩
  | true =>
    have hS := hq.1 rfl
    have BC := Lib.hid hS.bc
    have BR := Lib.hid (HBR.out hS)
    have hr60 : n ≤ 60 := by have := hS.r1; have := HNN.out; omega
    clear hq HBR hS
    by_cases c0 : n = 0
    · subst c0
      go_enter Tryd.func6, Tryd.ntmps6
      go_wp2_with (first | (go_at_call 9; refine (HSM.out _ bw1.out).mono ?_; rintro e v1 ⟨rfl, hb1⟩; obtain ⟨z0, z1, _, _⟩ := (B1.out.next hb1).two) | (go_at_call 12; refine (HAW.out _ (two bw1.out hb1)).mono ?_; rintro e v2 ⟨rfl, hb2⟩))
      go_ret
      exact ⟨rfl, two (two bw1.out hb1) hb2⟩
    have dn : ((n : Int) == 0) = false := by simpa using c0
    by_cases cb : bI < 0
    · go_enter Tryd.func6, Tryd.ntmps6
      go_wp2_with (first | (go_at_call 9; refine (HSM.out _ bw1.out).mono ?_; rintro e v1 ⟨rfl, hb1⟩; obtain ⟨z0, z1, _, _⟩ := (B1.out.next hb1).two) | (go_at_call 12; refine (HAW.out _ (two bw1.out hb1)).mono ?_; rintro e v2 ⟨rfl, hb2⟩))
      go_ret
      exact ⟨rfl, two (two bw1.out hb1) hb2⟩
    obtain ⟨f, rfl⟩ : ∃ f : Nat, bI = f := ⟨bI.toNat, by omega⟩
    by_cases cf : n ≤ f
    · have df : decide ((f : Int) < 0) = false := decide_eq_false cb
      go_enter Tryd.func6, Tryd.ntmps6
      go_wp2_with (first | (go_at_call 9; refine (HSM.out _ bw1.out).mono ?_; rintro e v1 ⟨rfl, hb1⟩; obtain ⟨z0, z1, _, _⟩ := (B1.out.next hb1).two) | (go_at_call 12; refine (HAW.out _ (two bw1.out hb1)).mono ?_; rintro e v2 ⟨rfl, hb2⟩))
      go_ret
      exact ⟨rfl, two (two bw1.out hb1) hb2⟩
    have df : decide ((f : Int) < 0) = false := decide_eq_false cb
    have dg : decide ((f : Int) ≥ (n : Int)) = false := decide_eq_false (by omega)
    have hfn : f < n := by omega
    clear cb cf c0
    obtain ⟨i0, hi, hz0, hz1, hz2⟩ := info_parts infoRow
    obtain ⟨E, hEE⟩ : ∃ E, err cs rs = E := ⟨_, rfl⟩
    have HEE := Lib.hid hEE
    have HMK : Hid (∀ W, Below w.heap.size w W → Calls Tryd.prog 19 #[.slice sao sn scap, .slice ao n cap] W (MadeTab cs rs E W)) := fun W hb => make_tab _ _ cs rs rs W E BC.out BR.out (HS0.out.below hb) (HV0.out.below hb) HEE.out (List.Perm.refl _)
    clear hEE
    go_enter Tryd.func6, Tryd.ntmps6
    go_wp2_with (first | (go_at_call 9; refine (HSM.out _ bw1.out).mono ?_; rintro e v1 ⟨rfl, hb1⟩; obtain ⟨z0, z1, _, _⟩ := (B1.out.next hb1).two) | (go_at_call 19; refine (HMK.out _ (two bw1.out hb1)).mono ?_; rintro e v3 ⟨ma, mn, mc, ra, rn, rc, rfl, hb3, hmc, hmr⟩))
    have HMC := Lib.hid hmc
    have HMR := Lib.hid hmr
    have bw3 := Lib.hid (two (two bw1.out hb1) hb3)
    have RB3 := Lib.hid ((B1.out.next hb1).next hb3)
    clear z0 z1 hmc hmr hb1 hb3 HSM HMK
    have RM0 := Lib.hid (Box.new v3 [.slice ma mn mc, .slice ra rn rc] 26)
    have BW0 : Hid (Below v3.heap.size v3 (v3.alloc (.cells #[.slice ma mn mc, .slice ra rn rc] 26))) := balloc _ _
    have RB0 := Lib.hid (RB3.out.next BW0.out)
    have BWW := Lib.hid (two bw3.out BW0.out)
    have HM0 := Lib.hid (HMC.out.below BW0.out)
    have HM1 := Lib.hid (HMR.out.below BW0.out)
    generalize v3.alloc (.cells #[.slice ma mn mc, .slice ra rn rc] 26) = W0 at *
    obtain ⟨hs, b, o, hhn, rfl, hbl, hnl, hnc, hcell, hread⟩ := RowsAt.hs HV0.out (by rw [HNN.out]; omega)
    have HHN : Hid (hs.length = n) := hhn.trans HNN.out
    have HCELL := Lib.hid hcell
    have HREAD := Lib.hid hread
    clear hhn hcell hread hnl
    have hf1 : f ≤ n := by omega
    have hf2 : ¬ cap = f := by omega
    have hf3 : f ≤ cap := by omega
    have hb0 : b < W0.heap.size := Nat.lt_of_lt_of_le hbl BWW.out.size
    have HS : Hid (ColsAt W0 (.slice sao sn scap) cs) := HS0.out.below BWW.out
    have HV : Hid (RowsAt W0 (.slice (some ⟨b, o, none⟩) n cap) rs) := HV0.out.below BWW.out
    obtain ⟨z0, z1, _, _⟩ := RB0.out.two
    have HM : Hid (∀ W W', (W.cell? ⟨w.heap.size, 0, none⟩ = some (.slice sao sn scap) ∧ W.cell? ⟨w.heap.size, 1, none⟩ = some (.slice (some ⟨b, o, none⟩) n cap) ∧ Below W0.heap.size W0 W) → Below W0.heap.size W W' → W'.cell? ⟨w.heap.size, 0, none⟩ = some (.slice sao sn scap) ∧ W'.cell? ⟨w.heap.size, 1, none⟩ = some (.slice (some ⟨b, o, none⟩) n cap) ∧ Below W0.heap.size W0 W') := fun W W' h hb => ⟨(hb.cell (by exact lt_of_cell z0)).trans h.1, (hb.cell (by exact lt_of_cell z1)).trans h.2.1, h.2.2.trans hb⟩
    have HCW : Hid (∀ W, Below W0.heap.size W0 W → ∀ (k : Nat) (x : Value), hs[k]? = some x → W.cell? ⟨b, o + k, none⟩ = some x) := fun W hb k x hx => (hb.cell (by exact hb0)).trans ((BWW.out.cell (by exact hbl)).trans (HCELL.out k x hx))
    have HN1 : Hid (∀ j u, (hs.drop f)[j]? = some u → (W0.drew.alloc (.cells #[] 27)).cell? ((⟨b, o + f, none⟩ : Addr).add j) = some u) := fun j u hj => by
      rw [Addr.add_lit, Nat.add_assoc]
      exact HCW.out _ ((Below.drew (Below.refl _ _)).alloc (Nat.le_refl _) _) (f + j) u (by rw [List.getElem?_drop] at hj; exact hj)
    have HN2 : Hid (∀ W, Below W0.heap.size W0 W → ∀ j u, (hs.take f)[j]? = some u → W.cell? ((⟨b, o, none⟩ : Addr).add j) = some u) := fun W hb j u hj => by
      rw [Addr.add_lit]
      rw [List.getElem?_take] at hj
      split at hj
      · exact HCW.out W hb j u hj
      · cases hj
    have HON : Hid (∀ x ∈ hs, x.oneCell' = true) := fun x hx => by
      obtain ⟨i, hi', ei⟩ := List.mem_iff_getElem.1 hx
      obtain ⟨r, hr⟩ : ∃ r, rs[i]? = some r := ⟨_, List.getElem?_eq_getElem (by have := HHN.out; have := HNN.out; omega)⟩
      exact (HREAD.out i x r (by rw [List.getElem?_eq_getElem hi', ei]) hr).one
    have HO1 : Hid (∀ u ∈ hs.drop f, u.oneCell' = true) := fun u hu => HON.out u (List.mem_of_mem_drop hu)
    have HO2 : Hid (∀ u ∈ hs.take f, u.oneCell' = true) := fun u hu => HON.out u (List.mem_of_mem_take hu)
    refine wp_region_held_drew (S := fun W => W.cell? ⟨w.heap.size, 0, none⟩ = some (.slice sao sn scap) ∧ W.cell? ⟨w.heap.size, 1, none⟩ = some (.slice (some ⟨b, o, none⟩) n cap) ∧ Below W0.heap.size W0 W) (by kernel_rfl) (by exact ⟨z0, z1, Below.drew (Below.refl _ _)⟩) (fun hHeld => ?_)
    clear z0 z1
    refine wpAnyH_take (i := 1) (v := ?v1x) rfl (by kernel_rfl) (by kernel_rfl) (by kernel_rfl) (fun _ _ _ h => h) (Or.inl ⟨by rfl, ?hy1x⟩) hHeld ?rest1x
    case hy1x => (intro w hSw; (try dsimp only at hSw); go_simp <;> with_reducible rfl)
    try simp only [Array.reduceGetElem, Act.put, List.setIfInBounds_toArray, List.set_cons_zero, List.set_cons_succ]
    refine wpAnyH_take (i := 2) (v := ?v2x) rfl (by kernel_rfl) (by kernel_rfl) (by kernel_rfl) (fun _ _ _ h => h) (Or.inl ⟨by rfl, ?hy2x⟩) hHeld ?rest2x
    case hy2x => (intro w hSw; (try dsimp only at hSw); go_simp <;> with_reducible rfl)
    try simp only [Array.reduceGetElem, Act.put, List.setIfInBounds_toArray, List.set_cons_zero, List.set_cons_succ]
    refine wpAnyH_take (i := 3) (v := ?v3x) rfl (by kernel_rfl) (by kernel_rfl) (by kernel_rfl) (fun _ _ _ h => h) (Or.inl ⟨by rfl, ?hy3x⟩) hHeld ?rest3x
    case hy3x => (intro w hSw; (try dsimp only at hSw); go_simp <;> with_reducible rfl)
    try simp only [Array.reduceGetElem, Act.put, List.setIfInBounds_toArray, List.set_cons_zero, List.set_cons_succ]
    refine wpAnyH_take (i := 4) (v := ?v4x) rfl (by kernel_rfl) (by kernel_rfl) (by kernel_rfl) (fun _ _ _ h => h) (Or.inl ⟨by rfl, ?hy4x⟩) hHeld ?rest4x
    case hy4x => (intro w hSw; (try dsimp only at hSw); go_simp <;> with_reducible rfl)
    try simp only [Array.reduceGetElem, Act.put, List.setIfInBounds_toArray, List.set_cons_zero, List.set_cons_succ]
    refine wpAnyH_take (i := 6) (v := ?v5x) rfl (by kernel_rfl) (by kernel_rfl) (by kernel_rfl) (fun _ _ _ h => h) (Or.inl ⟨by rfl, ?hy5x⟩) hHeld ?rest5x
    case hy5x => (intro w hSw; (try dsimp only at hSw); go_simp <;> with_reducible rfl)
    try simp only [Array.reduceGetElem, Act.put, List.setIfInBounds_toArray, List.set_cons_zero, List.set_cons_succ]
    refine wpAnyH_take (i := 7) (v := ?v6x) rfl (by kernel_rfl) (by kernel_rfl) (by kernel_rfl) (fun _ _ _ h => h) (Or.inl ⟨by rfl, ?hy6x⟩) hHeld ?rest6x
    case hy6x => (intro w hSw; (try dsimp only at hSw); go_simp <;> with_reducible rfl)
    try simp only [Array.reduceGetElem, Act.put, List.setIfInBounds_toArray, List.set_cons_zero, List.set_cons_succ]
    refine wpAnyH_take (i := 8) (v := ?v7x) rfl (by kernel_rfl) (by kernel_rfl) (by kernel_rfl) (fun _ _ _ h => h) (Or.inl ⟨by rfl, ?hy7x⟩) hHeld ?rest7x
    case hy7x => (intro w hSw; (try dsimp only at hSw); go_simp <;> with_reducible rfl)
    try simp only [Array.reduceGetElem, Act.put, List.setIfInBounds_toArray, List.set_cons_zero, List.set_cons_succ]
    refine wpAnyH_take (i := 9) (v := ?v8x) rfl (by kernel_rfl) (by kernel_rfl) (by kernel_rfl) (fun _ _ _ h => h) (Or.inl ⟨by rfl, ?hy8x⟩) hHeld ?rest8x
    case hy8x => (intro w hSw; (try dsimp only at hSw); go_simp <;> with_reducible rfl)
    try simp only [Array.reduceGetElem, Act.put, List.setIfInBounds_toArray, List.set_cons_zero, List.set_cons_succ]
    refine wpAnyH_ready (rs := [0]) (by kernel_rfl) (by simp) ?_
    refine AllReadyH.cons rfl (fun K hK => ?_) AllReadyH.nil
    go_simp
    refine hK.out _ _ ?_ (fun hHeld2 => ?_)
    · exact HM.out _ _ hHeld ((Below.refl _ W0.drew).alloc (Nat.le_refl _) (.cells #[] 27))
    clear hK K hHeld
    have hHeld := hHeld2
    clear hHeld2
    try simp only [Array.reduceGetElem, Act.put, List.setIfInBounds_toArray, List.set_cons_zero, List.set_cons_succ]
    refine wpAnyH_ready (rs := [5]) (by kernel_rfl) (by simp) ?_
    refine AllReadyH.cons rfl (fun K hK => ?_) AllReadyH.nil
    rw [if_pos (by rfl)]
    refine wp_append_own (W0.drew.alloc (.cells #[] 27)) _ _ 24 (by rfl) W0.heap.size 27 i0 _ 1 24 Tryd.underlying24 hi hz0 hz1 hz2 rfl (by decide) (.slice (some ⟨W0.drew.heap.size, 0, none⟩) 0 0) 0 [] (by rfl) (World.ownsRow_made W0.drew #[] 0 (Nat.le_refl _) (by unfold maxLen; decide) rfl) ⟨b, o + f, none⟩ (n - f) (cap - f) (hs.drop f) (by rfl) (by rw [List.length_drop, HHN.out]; omega) HN1.out HO1.out (by unfold maxLen; omega) (by omega) (by simp only [World.size_alloc]; exact Nat.le_succ _) ?_
    intro tv2 w2 hown2 hgrow2 _
    refine hK.out _ _ ?_ (fun hHeld2 => ?_)
    · exact HM.out _ _ hHeld ((Below.refl _ _).grown hgrow2 (show W0.heap.size ≤ (W0.drew.alloc (.cells #[] 27)).heap.size by simp only [World.size_alloc]; exact Nat.le_succ _) (fun j e => by injection e with e; subst e; exact Nat.le_refl _))
    clear hK K hHeld
    have hHeld := hHeld2
    clear hHeld2
    try simp only [Array.reduceGetElem, Act.put, List.setIfInBounds_toArray, List.set_cons_zero, List.set_cons_succ]
    refine wpAnyH_ready (rs := [10]) (by kernel_rfl) (by simp) ?_
    refine AllReadyH.cons rfl (fun K hK => ?_) AllReadyH.nil
    rw [if_pos (by rfl)]
    refine wp_append_own w2 _ _ 24 (by rfl) W0.heap.size 27 i0 _ 1 24 Tryd.underlying24 hi hz0 hz1 hz2 rfl (by decide) tv2 (0 + (n - f)) ([] ++ hs.drop f) (by rfl) hown2 ⟨b, o, none⟩ f cap (hs.take f) (by rfl) (by rw [List.length_take, HHN.out]; omega) (HN2.out _ hHeld.2.2) HO2.out (by unfold maxLen; omega) (by omega) hHeld.2.2.size ?_
    intro tv3 w3 hown3 hgrow3 _
    refine hK.out _ _ ?_ (fun hHeld2 => ?_)
    · exact HM.out _ _ hHeld ((Below.refl _ _).grown hgrow3 hHeld.2.2.size (fun j e => (hown2.lt j e).1))
    clear hK K hHeld
    have hHeld := hHeld2
    clear hHeld2
    try simp only [Array.reduceGetElem, Act.put, List.setIfInBounds_toArray, List.set_cons_zero, List.set_cons_succ]
    refine wpAnyH_take (i := 11) (v := ?v9x) rfl (by kernel_rfl) (by kernel_rfl) (by kernel_rfl) (fun _ _ _ h => h) (Or.inl ⟨by rfl, ?hy9x⟩) hHeld ?rest9x
    case hy9x => (intro w hSw; (try dsimp only at hSw); go_simp <;> with_reducible rfl)
    try simp only [Array.reduceGetElem, Act.put, List.setIfInBounds_toArray, List.set_cons_zero, List.set_cons_succ]
    refine wpAnyH_done (by kernel_rfl) ?_ _
    have BW3 := Lib.hid hHeld.2.2
    have hlh : (turnL hs f).length = n := (turn_len hs f (by rw [HHN.out]; exact hf1)).trans HHN.out
    have hlr : (turnL rs f).length = n := (turn_len rs f (by rw [HNN.out]; exact hf1)).trans HNN.out
    have OWN := Lib.hid (Hg.mk (T := 27) (w := w) (hlh.trans hlr.symm) (by rw [hlh]; have h4 := hown3; rw [show 0 + (n - f) + f = n by omega] at h4; exact h4 : w3.ownsRow W0.heap.size 27 1 tv3 (turnL hs f).length (turnL hs f)) (fun i h r e1 e2 => by
      rw [turn_at _ _ (by rw [HHN.out]; exact hf1), HHN.out] at e1
      rw [turn_at _ _ (by rw [HNN.out]; exact hf1), HNN.out] at e2
      split at e1
      · rename_i g; rw [if_pos g] at e2; exact HREAD.out _ _ _ e1 e2
      · rename_i g
        rw [if_neg g] at e2
        split at e1
        · rename_i g2; rw [if_pos g2] at e2; exact HREAD.out _ _ _ e1 e2
        · cases e1))
    obtain ⟨ta, tc, rfl, htc, _⟩ := OWN.out.row'
    rw [hlr] at OWN ⊢
    rw [hlh] at htc
    have HLH := Lib.hid hlh
    have HLR := Lib.hid hlr
    have HMK2 : Hid (∀ W u, Below W0.heap.size W0 W → RowsAt W u (turnL rs f).reverse → Calls Tryd.prog 19 #[.slice sao sn scap, u] W (MadeTab cs rs E W)) := fun W u hb hu => make_tab _ _ cs rs _ W E BC.out ⟨by rw [List.length_reverse, HLR.out]; omega, fun r hr => BR.out.row r ((turn_perm rs f).mem_iff.1 hr)⟩ (HS.out.below hb) hu HEE.out (turn_perm rs f)
    obtain ⟨B, hB⟩ : ∃ B, w3.heap.size = B := ⟨_, rfl⟩
    have hB0 : W0.heap.size ≤ B := by have := BW3.out.size; omega
    have HBLK : Hid (∀ {W' : World} {v : Value} {xs : List Value}, W'.ownsRow B 27 1 v xs.length xs → ∀ j, (Value.slice ta n tc).ownBlock = some j → v.ownBlock ≠ some j) := fun h j hj e => by have h1 := (h.lt j e).1; have h2 := (OWN.out.row.lt j hj).2; omega
    clear hHeld hown3 hown2 hlh hlr HN1 HN2 HO1 HO2 HCW HM HCELL hgrow2 hgrow3
    go_wp2_with fail
    go_loopw [8, 54] (fun bk i wr => ∃ (k : Nat) (bs : List Value), k ≤ n ∧ i = .int .i64 k ∧ B ≤ wr.heap.size ∧ Hid (Hg 27 w wr B bk bs ((turnL rs f).reverse.take k)) ∧ Hid (Hg 27 w wr W0.heap.size (.slice ta n tc) (turnL hs f) (turnL rs f)) ∧ Hid (Below W0.heap.size W0 wr)) (fun bk i _ => n - (intOf i).toNat)
    case atStart => exact ⟨0, [], Nat.zero_le _, rfl, Nat.le_of_eq hB.symm, (Hg.nil _ _ _ _ : Hg _ _ _ _ _ _ ((turnL rs f).reverse.take 0)), OWN.out, BW3.out⟩
    case round =>
      clear OWN BW3 hB
      obtain ⟨k, bs, hk, rfl, hB1, N1, O1, BR1⟩ := hrel
      by_cases hlt : k < n
      · obtain ⟨j, hj⟩ : ∃ j, n - 1 - k = j := ⟨_, rfl⟩
        have he : (n : Int) - 1 - (k : Int) = (j : Int) := by omega
        have hjn : j < n := by omega
        obtain ⟨h, hh⟩ : ∃ h, (turnL hs f)[j]? = some h := ⟨_, List.getElem?_eq_getElem (by rw [HLH.out]; exact hjn)⟩
        obtain ⟨r, hr⟩ : ∃ r, (turnL rs f)[j]? = some r := ⟨_, List.getElem?_eq_getElem (by rw [HLR.out]; exact hjn)⟩
        have hx := O1.out.at' j h r hh hr
        have hrev : (turnL rs f).reverse[k]? = some r := by rw [List.getElem?_reverse (by rw [HLR.out]; exact hlt), HLR.out, hj]; exact hr
        obtain ⟨ob, oc, eo, _, y0⟩ := O1.out.cells hh
        injection eo with eo1 eo2 eo3
        subst eo1
        subst eo3
        clear eo2
        obtain ⟨xa, xc, rfl, _, _⟩ := hx.len
        obtain ⟨xn, hxn⟩ : ∃ xn, r.length = xn := ⟨_, rfl⟩
        rw [hxn] at y0 hx
        have HX := Lib.hid hx
        have HRV := Lib.hid hrev
        have hbl : Hid (bs.length = k) := by have := N1.out.len; rw [List.length_take, List.length_reverse, HLR.out] at this; show _ = _; omega
        clear hh hr hx hrev hxn hj
        go_wp2_with (at_builtin; refine app_one rfl _ _ 24 27 rfl Tryd.underlying24 hi hz0 rfl hz1 hz2 (by decide) B u8 bs (.slice xa xn xc) rfl rfl N1.out.row rfl (by have := hbl.out; omega) (by exact hB1) ?_; intro v4 w4 hown4 hgrow4)
        have N2 := Lib.hid (N1.out.snoc HX.out hown4)
        have O2 := Lib.hid (O1.out.other hgrow4 (fun j hj => HBLK.out N1.out.row j hj))
        have bw4 := BR1.out.grown hgrow4 BR1.out.size (fun j hj => Nat.le_trans hB0 (N1.out.row.lt j hj).1)
        have hB4 : B ≤ w4.heap.size := Nat.le_trans hB1 hgrow4.size
        go_roundw
        case rel => exact ⟨k + 1, _, by omega, by go_num, hB4, (by rw [take_one _ k r HRV.out]; exact N2.out : Hg _ _ _ _ _ _ ((turnL rs f).reverse.take (k + 1))), O2.out, bw4⟩
        case measure => simp [intOf]; omega
      · obtain rfl : k = n := by omega
        have HRB : Hid (RowsAt wr u8 (turnL rs f).reverse) := by
          have := N1.out.at (two BWW.out BR1.out)
          rw [List.take_of_length_le (by rw [List.length_reverse, HLR.out]; exact Nat.le_refl _)] at this
          exact this
        obtain ⟨ua, uc, rfl, _, _⟩ := HRB.out.len
        have hrl : (turnL rs f).reverse.length = k := by rw [List.length_reverse]; exact HLR.out
        rw [hrl] at HRB ⊢
        clear hrl
        obtain ⟨z0, z1, _, _⟩ := (RB0.out.next BR1.out).two
        have HEQT : Hid (∀ W a b c d, ColsAt W a (csT cs E) → RowsAt W b (rsT rs E) → ColsAt W c (csT cs E) → RowsAt W d (rsT rs E) → Calls Tryd.prog 22 #[.agg #[a, b], .agg #[c, d]] W fun e w' => e = .returned (.bool true) ∧ Below W.heap.size W w') := fun W a b c d h1 h2 h3 h4 => tabEq_is a b c d _ _ W (bcT BC.out E) (brT BR.out E) h1 h2 h3 h4
        go_wp2_with (first | (go_at_call 19; refine (HMK2.out _ _ BR1.out HRB.out).mono ?_; rintro e w5 ⟨na, nn, nc, qa, qn, qc, rfl, hb5, hnc2, hnr2⟩; have hb6 := balloc w5 (.cells #[.slice na nn nc, .slice qa qn qc] 26); obtain ⟨m0, m1, _, _⟩ := (((RM0.out.next BR1.out).next hb5).next hb6).two; obtain ⟨k0, k1, _, _⟩ := (Box.new w5 [.slice na nn nc, .slice qa qn qc] 26).two) | (go_at_call 22; refine (HEQT.out _ _ _ _ _ (((HM0.out.below BR1.out).below hb5).below hb6) (((HM1.out.below BR1.out).below hb5).below hb6) (hnc2.below hb6) (hnr2.below hb6)).mono ?_; rintro e w7 ⟨rfl, hb7⟩) | (go_at_call 12; refine (HAW.out _ (two (two (two (two BWW.out BR1.out) hb5) hb6) hb7)).mono ?_; rintro e w8 ⟨rfl, hb8⟩))
        go_ret
        exact ⟨rfl, two (two (two (two (two BWW.out BR1.out) hb5) hb6) hb7) hb8⟩
end Go.Proofs.YtfmjeggomphliaaDoor.Tb
