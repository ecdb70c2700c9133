/- Walks: the statement TableMakes. -/
import Derived.Test.YtfmjeggomphliaaDoorSortWalk
import Derived.Test.YtfmjeggomphliaaDoorEqWalk
set_option linter.unusedVariables false
set_option linter.unusedSimpArgs false
namespace Go.Proofs.YtfmjeggomphliaaDoor.Tb
open Go.RowKit Go Go.Sort Ba Va Sr

theorem brSort {rs : List (List Val)} (h : BdRs rs) : BdRs (sortR rs) :=
  ⟨by rw [sortR_len]; exact h.len, fun r hr => h.row r ((sort_perm rs).mem_iff.1 hr)⟩
theorem errT_sort {cs : List Col} {rs : List (List Val)} (h : err cs rs = 0) : errT cs (sortR rs) = 0 := by
  unfold errT
  rw [err_perm (sort_perm rs), h, if_neg (by simp), (sorted_iff _).2 (sort_sorted rs), if_pos rfl]
/-- What Make tells, of whatever kind. -/
def MadeAny (cs : List Col) (rs : List (List Val)) (E : Int) (w : World) (e : Ending) (w' : World) : Prop :=
  ∃ ma mn mc ra rn rc, e = .returned (.tuple #[.agg #[.slice ma mn mc, .slice ra rn rc], .int .i64 E]) ∧ Below w.heap.size w w' ∧ ((E = 0 ∧ ColsAt w' (.slice ma mn mc) cs ∧ RowsAt w' (.slice ra rn rc) (sortR rs)) ∨ (E ≠ 0 ∧ ma = none ∧ mn = 0 ∧ mc = 0 ∧ ra = none ∧ rn = 0 ∧ rc = 0))
theorem make_any (sv rv : Value) (cs : List Col) (rs : List (List Val)) (w : World) (E : Int) (bc : BdC cs) (br : BdRs rs) (hs : ColsAt w sv cs) (hv : RowsAt w rv rs) (hE : err cs rs = E) :
    Calls Tryd.prog 19 #[sv, rv] w (MadeAny cs rs E w) := by
  by_cases h0 : E = 0
  · subst h0
    refine (make_is sv rv cs rs w bc br hs hv hE).mono ?_
    rintro e w' ⟨x1, x2, h1, h2, h3, h4⟩
    obtain ⟨a, c, rfl, _, _⟩ := h2.len
    obtain ⟨a', c', rfl, _, _⟩ := h3.len
    exact ⟨_, _, _, _, _, _, h1, h4, .inl ⟨rfl, h2, h3⟩⟩
  · refine (make_no sv rv cs rs w E bc br hs hv hE h0).mono ?_
    rintro e w' ⟨h1, h4⟩
    exact ⟨_, _, _, _, _, _, h1, h4, .inr ⟨h0, rfl, rfl, rfl, rfl, rfl, rfl⟩⟩
set_option maxHeartbeats 12800000 in
set_option maxRecDepth 100000 in
theorem makes_law (sv v : Value) (cs : List Col) (rs : List (List Val)) (w : World) (hE : EnvT w) (hs : ColsAt w sv cs) (hv : RowsAt w v rs) (h1 : ∀ c ∈ cs, c.name.size ≤ maxLen) (h2 : ∀ r ∈ rs, ∀ x ∈ r, x.t.size ≤ maxLen) (hn : ∀ r ∈ rs, Num r) :
    Calls Tryd.prog 5 #[.agg #[sv, v]] w fun e w' => e = .returned (.bool true) ∧ Below w.heap.size w w' := by
  obtain ⟨sao, scap, rfl, hsc, hsm⟩ := hs.len
  obtain ⟨ao, cap, rfl, hcp, hcm⟩ := hv.len
  obtain ⟨sn, hsn⟩ : ∃ sn, cs.length = sn := ⟨_, rfl⟩
  obtain ⟨n, hnn⟩ : ∃ n, rs.length = n := ⟨_, rfl⟩
  rw [hsn] at hs ⊢
  rw [hnn] at hv ⊢
  have HE := Lib.hid hE
  have HS0 := Lib.hid hs
  have HV0 := Lib.hid hv
  have HNN := Lib.hid hnn
  have B1 := Lib.hid (Box.new w [.slice sao sn scap, .slice ao n cap] 26)
  have bw1 : Hid (Below w.heap.size w (w.alloc (.cells #[.slice sao sn scap, .slice ao n cap] 26))) := (Below.refl _ _).alloc (Nat.le_refl _) _
  obtain ⟨q, hq⟩ : ∃ q : Bool, q = true ↔ Small cs rs := by
    by_cases h : Small cs rs
    · exact ⟨true, by simp [h]⟩
    · exact ⟨false, by simp [h]⟩
  have HSM : Hid (∀ W, Below w.heap.size w W → Calls Tryd.prog 9 #[.agg #[.slice sao sn scap, .slice ao n cap]] W fun e w' => e = .returned (.bool q) ∧ Below W.heap.size W w') := fun W hb => small_is _ _ cs rs q hq W (hs.below hb) (hv.below hb) h1 h2
  have HAW : Hid (∀ W, Below w.heap.size w W → Calls Tryd.prog 12 #[] W fun e w' => e = .returned (.bool true) ∧ Below W.heap.size W w') := fun W hb => awake_any W (HE.out.below hb)
  cases q with
  | false =>
    clear hs hv hE h1 h2 hn hq hsn hnn hsc hcp
    go_enter Tryd.func5, Tryd.ntmps5
    go_wp2_with (first | (go_at_call 9; refine (HSM.out _ bw1.out).mono ?_; rintro e v1 ⟨rfl, hb1⟩) | (go_at_call 12; refine (HAW.out _ (two bw1.out hb1)).mono ?_; rintro e v2 ⟨rfl, hb2⟩))
    go_ret
    exact ⟨rfl, two (two bw1.out hb1) hb2⟩
  | true =>
    have hS := hq.1 rfl
    have BC := Lib.hid hS.bc
    have BR := Lib.hid (hS.br hn)
    obtain ⟨E, hEE⟩ : ∃ E, err cs rs = E := ⟨_, rfl⟩
    obtain ⟨F, hFF⟩ : ∃ F, errT cs rs = F := ⟨_, rfl⟩
    have HEE := Lib.hid hEE
    have HFF := Lib.hid hFF
    have HRR : Hid (∀ W, Below w.heap.size w W → Calls Tryd.prog 13 #[.slice ao n cap] W (RefRs W rs)) := fun W hb => refRows_is _ rs W BR.out (HV0.out.below hb)
    have HMK : Hid (∀ W, Below w.heap.size w W → Calls Tryd.prog 19 #[.slice sao sn scap, .slice ao n cap] W (MadeAny cs rs E W)) := fun W hb => make_any _ _ cs rs W E BC.out BR.out (HS0.out.below hb) (HV0.out.below hb) HEE.out
    clear hs hv hE h1 h2 hn hq hsn hnn hsc hcp hS hEE hFF
    go_enter Tryd.func5, Tryd.ntmps5
    go_wp2_with (first | (go_at_call 9; refine (HSM.out _ bw1.out).mono ?_; rintro e v1 ⟨rfl, hb1⟩; obtain ⟨z0, z1, _, _⟩ := (B1.out.next hb1).two) | (go_at_call 13; refine (HRR.out _ (two bw1.out hb1)).mono ?_; rintro e v2 ⟨x2, rfl, o2, hb2⟩; obtain ⟨wa, wc, rfl, _, _⟩ := o2.len; obtain ⟨y0, y1, _, _⟩ := ((B1.out.next hb1).next hb2).two) | (go_at_call 19; refine (HMK.out _ (two (two bw1.out hb1) hb2)).mono ?_; rintro e v3 ⟨ma, mn, mc, ra, rn, rc, rfl, hb3, hma⟩))
    have WAS0 := Lib.hid (o2.below hb3)
    have MA := Lib.hid hma
    rw [HNN.out] at WAS0 ⊢
    have bw3 := Lib.hid (two (two (two bw1.out hb1) hb2) hb3)
    have RB3 := Lib.hid (((B1.out.next hb1).next hb2).next hb3)
    clear z0 z1 y0 y1 o2 hma hb1 hb2 hb3 HSM HRR HMK
    have RM0 := Lib.hid (Box.new v3 [.slice ma mn mc, .slice ra rn rc] 26)
    have BW0 : Hid (Below v3.heap.size v3 (v3.alloc (.cells #[.slice ma mn mc, .slice ra rn rc] 26))) := balloc _ _
    have RB0 := Lib.hid (RB3.out.next BW0.out)
    have BWW := Lib.hid (two bw3.out BW0.out)
    have WAS := Lib.hid (WAS0.out.below BW0.out)
    generalize v3.alloc (.cells #[.slice ma mn mc, .slice ra rn rc] 26) = W0 at *
    have HS : Hid (ColsAt W0 (.slice sao sn scap) cs) := HS0.out.below BWW.out
    have HV : Hid (RowsAt W0 (.slice ao n cap) rs) := HV0.out.below BWW.out
    obtain ⟨z0, z1, _, _⟩ := RB0.out.two
    have HCK : Hid (∀ W, Below W0.heap.size W0 W → Calls Tryd.prog 20 #[.agg #[.slice sao sn scap, .slice ao n cap]] W fun e w' => e = .returned (.int .i64 F) ∧ Below W.heap.size W w') := fun W hb => tcheck_is HFF.out W BC.out BR.out (HS.out.below hb) (HV.out.below hb)
    have HRT : Hid (∀ W, Below W0.heap.size W0 W → Calls Tryd.prog 10 #[.agg #[.slice sao sn scap, .slice ao n cap]] W fun e w' => e = .returned (.int .i64 F) ∧ Below W.heap.size W w') := fun W hb => right3_is HFF.out W BC.out BR.out (HS.out.below hb) (HV.out.below hb)
    have HRR : Hid (∀ W, Below W0.heap.size W0 W → Calls Tryd.prog 13 #[.slice ao n cap] W (RefRs W rs)) := fun W hb => refRows_is _ rs W BR.out (HV.out.below hb)
    have HEQ : Hid (∀ W, Below W0.heap.size W0 W → Calls Tryd.prog 22 #[.agg #[.slice sao sn scap, .slice ao n cap], .agg #[.slice sao sn scap, .slice ao n cap]] W fun e w' => e = .returned (.bool true) ∧ Below W.heap.size W w') := fun W hb => tabEq_is _ _ _ _ cs rs W BC.out BR.out (HS.out.below hb) (HV.out.below hb) (HS.out.below hb) (HV.out.below hb)
    have HCP : Hid (∀ W, Below W0.heap.size W0 W → Calls Tryd.prog 23 #[.agg #[.slice sao sn scap, .slice ao n cap]] W (CopiedT W cs rs)) := fun W hb => copy_is _ _ cs rs W BC.out BR.out (HS.out.below hb) (HV.out.below hb)
    have HRC : Hid (∀ W, Below W0.heap.size W0 W → Calls Tryd.prog 25 #[.slice sao sn scap] W (RefC W cs)) := fun W hb => refSchema_is _ cs W (by have := BC.out.len; omega) (HS.out.below hb)
    have HRK : Hid (∀ W u, Below W0.heap.size W0 W → ColsAt W u cs → Calls Tryd.prog 24 #[u, .slice wa n wc] W fun e w' => e = .returned (.int .i64 E) ∧ Below W.heap.size W w') := fun W u hb hu => ref3Check_is HEE.out W BC.out BR.out hu (WAS.out.below hb)
    have HM : Hid (∀ W W', (W.cell? ⟨w.heap.size, 0, none⟩ = some (.slice sao sn scap) ∧ W.cell? ⟨w.heap.size, 1, none⟩ = some (.slice ao n cap) ∧ Below W0.heap.size W0 W) → Below W.heap.size W W' → W'.cell? ⟨w.heap.size, 0, none⟩ = some (.slice sao sn scap) ∧ W'.cell? ⟨w.heap.size, 1, none⟩ = some (.slice ao n cap) ∧ Below W0.heap.size W0 W') := fun W W' h hb => ⟨(hb.cell (by exact lt_of_cell h.1)).trans h.1, (hb.cell (by exact lt_of_cell h.2.1)).trans h.2.1, two h.2.2 hb⟩
    have HE0 : True := trivial
    refine wp_region_held_drew (S := fun W => W.cell? ⟨w.heap.size, 0, none⟩ = some (.slice sao sn scap) ∧ W.cell? ⟨w.heap.size, 1, none⟩ = some (.slice ao n cap) ∧ Below W0.heap.size W0 W) (by kernel_rfl) (by exact ⟨z0, z1, Below.drew (Below.refl _ _)⟩) (fun hHeld => ?_)
    clear z0 z1
    refine wpAnyH_take (i := 0) (v := ?v1x) rfl (by kernel_rfl) (by kernel_rfl) (by kernel_rfl) (fun _ _ _ h => h) (Or.inl ⟨by rfl, ?hy1x⟩) hHeld ?rest1x
    case hy1x => (intro w hSw; (try dsimp only at hSw); go_simp <;> with_reducible rfl)
    try simp only [Array.reduceGetElem, Act.put, List.setIfInBounds_toArray, List.set_cons_zero, List.set_cons_succ]
    refine wpAnyH_take (i := 2) (v := ?v2x) rfl (by kernel_rfl) (by kernel_rfl) (by kernel_rfl) (fun _ _ _ h => h) (Or.inl ⟨by rfl, ?hy2x⟩) hHeld ?rest2x
    case hy2x => (intro w hSw; (try dsimp only at hSw); go_simp <;> with_reducible rfl)
    try simp only [Array.reduceGetElem, Act.put, List.setIfInBounds_toArray, List.set_cons_zero, List.set_cons_succ]
    refine wpAnyH_ready (rs := [1]) (by kernel_rfl) (by simp) ?_
    refine AllReadyH.cons rfl (fun K hK => ?_) AllReadyH.nil
    go_simp
    go_at_call 20; refine (HCK.out _ hHeld.2.2).mono ?_; rintro e v11 ⟨rfl, hb11⟩; go_wp2_with fail
    refine hK.out _ _ ?_ (fun hHeld2 => ?_)
    · exact HM.out _ _ hHeld hb11
    clear hK K hHeld
    have hHeld := hHeld2
    clear hHeld2
    try simp only [Array.reduceGetElem, Act.put, List.setIfInBounds_toArray, List.set_cons_zero, List.set_cons_succ]
    refine wpAnyH_ready (rs := [3]) (by kernel_rfl) (by simp) ?_
    refine AllReadyH.cons rfl (fun K hK => ?_) AllReadyH.nil
    go_simp
    go_at_call 10; refine (HRT.out _ hHeld.2.2).mono ?_; rintro e v12 ⟨rfl, hb12⟩; go_wp2_with fail
    refine hK.out _ _ ?_ (fun hHeld2 => ?_)
    · exact HM.out _ _ hHeld hb12
    clear hK K hHeld
    have hHeld := hHeld2
    clear hHeld2
    try simp only [Array.reduceGetElem, Act.put, List.setIfInBounds_toArray, List.set_cons_zero, List.set_cons_succ]
    refine wpAnyH_take (i := 4) (v := ?v3x) rfl (by kernel_rfl) (by kernel_rfl) (by kernel_rfl) (fun _ _ _ h => h) (Or.inl ⟨by rfl, ?hy3x⟩) hHeld ?rest3x
    case hy3x => (intro w hSw; (try dsimp only at hSw); go_simp <;> with_reducible rfl)
    try simp only [Array.reduceGetElem, Act.put, List.setIfInBounds_toArray, List.set_cons_zero, List.set_cons_succ]
    refine wpAnyH_take (i := 5) (v := ?v4x) rfl (by kernel_rfl) (by kernel_rfl) (by kernel_rfl) (fun _ _ _ h => h) (Or.inl ⟨by rfl, ?hy4x⟩) hHeld ?rest4x
    case hy4x => (intro w hSw; (try dsimp only at hSw); go_simp <;> with_reducible rfl)
    try simp only [Array.reduceGetElem, Act.put, List.setIfInBounds_toArray, List.set_cons_zero, List.set_cons_succ]
    refine wpAnyH_take (i := 6) (v := ?v5x) rfl (by kernel_rfl) (by kernel_rfl) (by kernel_rfl) (fun _ _ _ h => h) (Or.inl ⟨by rfl, ?hy5x⟩) hHeld ?rest5x
    case hy5x => (intro w hSw; (try dsimp only at hSw); go_simp <;> with_reducible rfl)
    try simp only [Array.reduceGetElem, Act.put, List.setIfInBounds_toArray, List.set_cons_zero, List.set_cons_succ]
    refine wpAnyH_take (i := 7) (v := ?v6x) rfl (by kernel_rfl) (by kernel_rfl) (by kernel_rfl) (fun _ _ _ h => h) (Or.inl ⟨by rfl, ?hy6x⟩) hHeld ?rest6x
    case hy6x => (intro w hSw; (try dsimp only at hSw); go_simp <;> with_reducible rfl)
    try simp only [Array.reduceGetElem, Act.put, List.setIfInBounds_toArray, List.set_cons_zero, List.set_cons_succ]
    refine wpAnyH_take (i := 9) (v := ?v7x) rfl (by kernel_rfl) (by kernel_rfl) (by kernel_rfl) (fun _ _ _ h => h) (Or.inl ⟨by rfl, ?hy7x⟩) hHeld ?rest7x
    case hy7x => (intro w hSw; (try dsimp only at hSw); go_simp <;> with_reducible rfl)
    try simp only [Array.reduceGetElem, Act.put, List.setIfInBounds_toArray, List.set_cons_zero, List.set_cons_succ]
    refine wpAnyH_ready (rs := [8]) (by kernel_rfl) (by simp) ?_
    refine AllReadyH.cons rfl (fun K hK => ?_) AllReadyH.nil
    go_simp
    go_at_call 13; refine (HRR.out _ hHeld.2.2).mono ?_; rintro e v13 ⟨x13, rfl, o13, hb13⟩; obtain ⟨a13, c13, rfl, _, _⟩ := o13.len; go_wp2_with fail
    refine hK.out _ _ ?_ (fun hHeld2 => ?_)
    · exact HM.out _ _ hHeld hb13
    clear hK K hHeld
    have hHeld := hHeld2
    clear hHeld2
    try simp only [Array.reduceGetElem, Act.put, List.setIfInBounds_toArray, List.set_cons_zero, List.set_cons_succ]
    refine wpAnyH_ready (rs := [10]) (by kernel_rfl) (by simp) ?_
    refine AllReadyH.cons rfl (fun K hK => ?_) AllReadyH.nil
    go_simp
    go_at_call 21; refine (same_is _ _ rs v13 BR.out o13 (WAS.out.below hHeld.2.2)).mono ?_; rintro e v14 ⟨rfl, hb14⟩; go_wp2_with fail
    refine hK.out _ _ ?_ (fun hHeld2 => ?_)
    · exact HM.out _ _ hHeld hb14
    clear hK K hHeld
    have hHeld := hHeld2
    clear hHeld2
    try simp only [Array.reduceGetElem, Act.put, List.setIfInBounds_toArray, List.set_cons_zero, List.set_cons_succ]
    refine wpAnyH_take (i := 11) (v := ?v8x) rfl (by kernel_rfl) (by kernel_rfl) (by kernel_rfl) (fun _ _ _ h => h) (Or.inl ⟨by rfl, ?hy8x⟩) hHeld ?rest8x
    case hy8x => (intro w hSw; (try dsimp only at hSw); go_simp <;> with_reducible rfl)
    try simp only [Array.reduceGetElem, Act.put, List.setIfInBounds_toArray, List.set_cons_zero, List.set_cons_succ]
    refine wpAnyH_take (i := 12) (v := ?v9x) rfl (by kernel_rfl) (by kernel_rfl) (by kernel_rfl) (fun _ _ _ h => h) (Or.inl ⟨by rfl, ?hy9x⟩) hHeld ?rest9x
    case hy9x => (intro w hSw; (try dsimp only at hSw); go_simp <;> with_reducible rfl)
    try simp only [Array.reduceGetElem, Act.put, List.setIfInBounds_toArray, List.set_cons_zero, List.set_cons_succ]
    refine wpAnyH_take (i := 13) (v := ?v10x) rfl (by kernel_rfl) (by kernel_rfl) (by kernel_rfl) (fun _ _ _ h => h) (Or.inl ⟨by rfl, ?hy10x⟩) hHeld ?rest10x
    case hy10x => (intro w hSw; (try dsimp only at hSw); go_simp <;> with_reducible rfl)
    try simp only [Array.reduceGetElem, Act.put, List.setIfInBounds_toArray, List.set_cons_zero, List.set_cons_succ]
    refine wpAnyH_take (i := 14) (v := ?v11x) rfl (by kernel_rfl) (by kernel_rfl) (by kernel_rfl) (fun _ _ _ h => h) (Or.inl ⟨by rfl, ?hy11x⟩) hHeld ?rest11x
    case hy11x => (intro w hSw; (try dsimp only at hSw); go_simp <;> with_reducible rfl)
    try simp only [Array.reduceGetElem, Act.put, List.setIfInBounds_toArray, List.set_cons_zero, List.set_cons_succ]
    refine wpAnyH_take (i := 15) (v := ?v12x) rfl (by kernel_rfl) (by kernel_rfl) (by kernel_rfl) (fun _ _ _ h => h) (Or.inl ⟨by rfl, ?hy12x⟩) hHeld ?rest12x
    case hy12x => (intro w hSw; (try dsimp only at hSw); go_simp <;> with_reducible rfl)
    try simp only [Array.reduceGetElem, Act.put, List.setIfInBounds_toArray, List.set_cons_zero, List.set_cons_succ]
    refine wpAnyH_ready (rs := [16]) (by kernel_rfl) (by simp) ?_
    refine AllReadyH.cons rfl (fun K hK => ?_) AllReadyH.nil
    go_simp
    go_at_call 22; refine (HEQ.out _ hHeld.2.2).mono ?_; rintro e v15 ⟨rfl, hb15⟩; go_wp2_with fail
    refine hK.out _ _ ?_ (fun hHeld2 => ?_)
    · exact HM.out _ _ hHeld hb15
    clear hK K hHeld
    have hHeld := hHeld2
    clear hHeld2
    try simp only [Array.reduceGetElem, Act.put, List.setIfInBounds_toArray, List.set_cons_zero, List.set_cons_succ]
    refine wpAnyH_take (i := 17) (v := ?v13x) rfl (by kernel_rfl) (by kernel_rfl) (by kernel_rfl) (fun _ _ _ h => h) (Or.inl ⟨by rfl, ?hy13x⟩) hHeld ?rest13x
    case hy13x => (intro w hSw; (try dsimp only at hSw); go_simp <;> with_reducible rfl)
    try simp only [Array.reduceGetElem, Act.put, List.setIfInBounds_toArray, List.set_cons_zero, List.set_cons_succ]
    refine wpAnyH_take (i := 18) (v := ?v14x) rfl (by kernel_rfl) (by kernel_rfl) (by kernel_rfl) (fun _ _ _ h => h) (Or.inl ⟨by rfl, ?hy14x⟩) hHeld ?rest14x
    case hy14x => (intro w hSw; (try dsimp only at hSw); go_simp <;> with_reducible rfl)
    try simp only [Array.reduceGetElem, Act.put, List.setIfInBounds_toArray, List.set_cons_zero, List.set_cons_succ]
    refine wpAnyH_take (i := 19) (v := ?v15x) rfl (by kernel_rfl) (by kernel_rfl) (by kernel_rfl) (fun _ _ _ h => h) (Or.inl ⟨by rfl, ?hy15x⟩) hHeld ?rest15x
    case hy15x => (intro w hSw; (try dsimp only at hSw); go_simp <;> with_reducible rfl)
    try simp only [Array.reduceGetElem, Act.put, List.setIfInBounds_toArray, List.set_cons_zero, List.set_cons_succ]
    refine wpAnyH_take (i := 20) (v := ?v16x) rfl (by kernel_rfl) (by kernel_rfl) (by kernel_rfl) (fun _ _ _ h => h) (Or.inl ⟨by rfl, ?hy16x⟩) hHeld ?rest16x
    case hy16x => (intro w hSw; (try dsimp only at hSw); go_simp <;> with_reducible rfl)
    try simp only [Array.reduceGetElem, Act.put, List.setIfInBounds_toArray, List.set_cons_zero, List.set_cons_succ]
    refine wpAnyH_take (i := 22) (v := ?v17x) rfl (by kernel_rfl) (by kernel_rfl) (by kernel_rfl) (fun _ _ _ h => h) (Or.inl ⟨by rfl, ?hy17x⟩) hHeld ?rest17x
    case hy17x => (intro w hSw; (try dsimp only at hSw); go_simp <;> with_reducible rfl)
    try simp only [Array.reduceGetElem, Act.put, List.setIfInBounds_toArray, List.set_cons_zero, List.set_cons_succ]
    refine wpAnyH_ready (rs := [21]) (by kernel_rfl) (by simp) ?_
    refine AllReadyH.cons rfl (fun K hK => ?_) AllReadyH.nil
    go_simp
    go_at_call 23; refine (HCP.out _ hHeld.2.2).mono ?_; rintro e v16 ⟨x16a, x16b, hs16, rfl, o16, o16b, hb16⟩; obtain ⟨p1, p2, p3, rfl⟩ := o16.sh; obtain ⟨p4, p5, p6, rfl⟩ := o16b.sh; go_wp2_with fail
    refine hK.out _ _ ?_ (fun hHeld2 => ?_)
    · exact HM.out _ _ hHeld hb16
    clear hK K hHeld
    have hHeld := hHeld2
    clear hHeld2
    try simp only [Array.reduceGetElem, Act.put, List.setIfInBounds_toArray, List.set_cons_zero, List.set_cons_succ]
    refine wpAnyH_ready (rs := [23]) (by kernel_rfl) (by simp) ?_
    refine AllReadyH.cons rfl (fun K hK => ?_) AllReadyH.nil
    go_simp
    go_at_call 22; refine (tabEq_is _ _ _ _ cs rs v16 BC.out BR.out o16.at o16b.at (HS.out.below hHeld.2.2) (HV.out.below hHeld.2.2)).mono ?_; rintro e v17 ⟨rfl, hb17⟩; go_wp2_with fail
    refine hK.out _ _ ?_ (fun hHeld2 => ?_)
    · exact HM.out _ _ hHeld hb17
    clear hK K hHeld
    have hHeld := hHeld2
    clear hHeld2
    try simp only [Array.reduceGetElem, Act.put, List.setIfInBounds_toArray, List.set_cons_zero, List.set_cons_succ]
    refine wpAnyH_take (i := 24) (v := ?v18x) rfl (by kernel_rfl) (by kernel_rfl) (by kernel_rfl) (fun _ _ _ h => h) (Or.inl ⟨by rfl, ?hy18x⟩) hHeld ?rest18x
    case hy18x => (intro w hSw; (try dsimp only at hSw); go_simp <;> with_reducible rfl)
    try simp only [Array.reduceGetElem, Act.put, List.setIfInBounds_toArray, List.set_cons_zero, List.set_cons_succ]
    refine wpAnyH_take (i := 25) (v := ?v19x) rfl (by kernel_rfl) (by kernel_rfl) (by kernel_rfl) (fun _ _ _ h => h) (Or.inl ⟨by rfl, ?hy19x⟩) hHeld ?rest19x
    case hy19x => (intro w hSw; (try dsimp only at hSw); go_simp <;> with_reducible rfl)
    try simp only [Array.reduceGetElem, Act.put, List.setIfInBounds_toArray, List.set_cons_zero, List.set_cons_succ]
    refine wpAnyH_done (by kernel_rfl) ?_ _
    have bw17 := Lib.hid hHeld.2.2
    have RB17 := Lib.hid (RB0.out.next bw17.out)
    have RM17 := Lib.hid (RM0.out.next bw17.out)
    obtain ⟨z0, z1, _, _⟩ := RB17.out.two
    clear hHeld HM HCK HRT HEQ HCP
    by_cases hE0 : E = 0
    · subst hE0
      obtain ⟨HMC, HMR⟩ : Hid (ColsAt v3 (.slice ma mn mc) cs) ∧ Hid (RowsAt v3 (.slice ra rn rc) (sortR rs)) := by
        rcases MA.out with ⟨_, h1, h2⟩ | ⟨h1, _⟩
        · exact ⟨h1, h2⟩
        · exact absurd rfl h1
      have b30 := BW0.out
      have HCM : Hid (∀ W, Below W0.heap.size W0 W → Calls Tryd.prog 20 #[.agg #[.slice ma mn mc, .slice ra rn rc]] W fun e w' => e = .returned (.int .i64 0) ∧ Below W.heap.size W w') := fun W hb => tcheck_is (errT_sort HEE.out) W BC.out (brSort BR.out) ((HMC.out.below b30).below hb) ((HMR.out.below b30).below hb)
      have HSE : Hid (∀ W, Below W0.heap.size W0 W → Calls Tryd.prog 27 #[.slice ma mn mc, .slice sao sn scap] W fun e w' => e = .returned (.bool true) ∧ Below W.heap.size W w') := fun W hb => schEq_is _ _ cs cs true (by simp) W BC.out.len BC.out.len ((HMC.out.below b30).below hb) (HS.out.below hb)
      have HRM : Hid (∀ W, Below W0.heap.size W0 W → Calls Tryd.prog 13 #[.slice ra rn rc] W (RefRs W (sortR rs))) := fun W hb => refRows_is _ (sortR rs) W (brSort BR.out) ((HMR.out.below b30).below hb)
      have HSO : Hid (∀ W, Below W0.heap.size W0 W → Calls Tryd.prog 28 #[.slice wa n wc] W (RefRs W (sortR rs))) := fun W hb => sortRef_is _ rs W BR.out (WAS.out.below hb)
      clear b30 HMC HMR HE0
      go_wp2_with (first | (go_at_call 25; refine (HRC.out _ bw17.out).mono ?_; rintro e v20 ⟨x20, rfl, o20, hb20⟩; obtain ⟨q1, q2, rfl, _, _⟩ := o20.len) | (go_at_call 24; refine (HRK.out _ _ (two bw17.out hb20) o20).mono ?_; rintro e v21 ⟨rfl, hb21⟩; have RB21 := Lib.hid ((RB17.out.next hb20).next hb21); have RM21 := Lib.hid ((RM17.out.next hb20).next hb21); have bw21 := Lib.hid (two (two bw17.out hb20) hb21); obtain ⟨y0, y1, _, _⟩ := RB21.out.two; obtain ⟨m0, m1, _, _⟩ := RM21.out.two) | (go_at_call 27; refine (HSE.out _ bw21.out).mono ?_; rintro e v22 ⟨rfl, hb22⟩; obtain ⟨k0, k1, _, _⟩ := (RM21.out.next hb22).two) | (go_at_call 13; refine (HRM.out _ (two bw21.out hb22)).mono ?_; rintro e v23 ⟨x23, rfl, o23, hb23⟩; obtain ⟨q3, q4, rfl, _, _⟩ := o23.len) | (go_at_call 28; refine (HSO.out _ (two (two bw21.out hb22) hb23)).mono ?_; rintro e v24 ⟨x24, rfl, o24, hb24⟩; obtain ⟨q5, q6, rfl, _, _⟩ := o24.len) | (go_at_call 21; refine (same_is _ _ (sortR rs) v24 (brSort BR.out) (o23.below hb24) o24).mono ?_; rintro e v25 ⟨rfl, hb25⟩; obtain ⟨j0, j1, _, _⟩ := ((((RM21.out.next hb22).next hb23).next hb24).next hb25).two) | (go_at_call 20; refine (HCM.out _ (two (two (two (two bw21.out hb22) hb23) hb24) hb25)).mono ?_; rintro e v26 ⟨rfl, hb26⟩) | (go_at_call 12; refine (HAW.out _ (two BWW.out (two (two (two (two (two bw21.out hb22) hb23) hb24) hb25) hb26))).mono ?_; rintro e v27 ⟨rfl, hb27⟩))
      go_ret
      exact ⟨rfl, two (two BWW.out (two (two (two (two (two bw21.out hb22) hb23) hb24) hb25) hb26)) hb27⟩
    · have d0 : (E != 0) = true := by simpa using hE0
      obtain ⟨rfl, rfl, rfl, rfl, rfl, rfl⟩ : ma = none ∧ mn = 0 ∧ mc = 0 ∧ ra = none ∧ rn = 0 ∧ rc = 0 := by
        rcases MA.out with ⟨h1, _⟩ | ⟨_, h1⟩
        · exact absurd h1 hE0
        · exact h1
      clear hE0
      go_wp2_with (first | (go_at_call 25; refine (HRC.out _ bw17.out).mono ?_; rintro e v20 ⟨x20, rfl, o20, hb20⟩; obtain ⟨q1, q2, rfl, _, _⟩ := o20.len) | (go_at_call 24; refine (HRK.out _ _ (two bw17.out hb20) o20).mono ?_; rintro e v21 ⟨rfl, hb21⟩; have RM21 := Lib.hid ((RM17.out.next hb20).next hb21); have bw21 := Lib.hid (two (two bw17.out hb20) hb21); obtain ⟨m0, m1, _, _⟩ := RM21.out.two) | (go_at_call 26; refine (empty_is _).mono ?_; rintro e v22 ⟨rfl, hb22⟩) | (go_at_call 12; refine (HAW.out _ (two BWW.out (two bw21.out hb22))).mono ?_; rintro e v27 ⟨rfl, hb27⟩))
      go_ret
      exact ⟨rfl, two (two BWW.out (two bw21.out hb22)) hb27⟩
end Go.Proofs.YtfmjeggomphliaaDoor.Tb
