/- TableShows: whatever the input, the call returns true, and each argument reads behind it as before: the law's card, out of its walk. Conditions: the listed package variables hold what the program's text lays in them (tied); Go's own sizes. -/
import Derived.Test.YtfmjeggomphliaaGreatDoorParsesWalk
import Derived.Test.YtfmjeggomphliaaGreatDoorTabDigest
import Derived.Test.YtfmjeggomphliaaGreatDoorEqWalk
import Derived.Test.YtfmjeggomphliaaGreatDoorZEnv
import Derived.Test.YtfmjeggomphliaaGreatDoorTabFrame2
import Derived.Test.YtfmjeggomphliaaGreatDoorFrame
import Derived.Lay
set_option linter.unusedVariables false
set_option linter.unusedSimpArgs false
namespace Go.Proofs.YtfmjeggomphliaaGreatDoor.Rf
open Go.RowKit Go Go.Sort Ba Tb Va

theorem parse_shown (cs : List Col) (rs : List (List Val)) (w : World) (hE : EnvZ w) (h0 : errT cs rs = 0) (hn : ∀ r ∈ rs, Num r) (h6 : rs.length ≤ 60) :
    Calls Tryz.prog 6 #[.string ⟨(showT cs rs).toArray⟩] w fun e w' => ∃ a1 n1 c1 a2 n2 c2, e = .returned (.tuple #[.agg #[.slice a1 n1 c1, .slice a2 n2 c2], .int .i64 0]) ∧ ColsAt w' (.slice a1 n1 c1) cs ∧ RowsAt w' (.slice a2 n2 c2) rs ∧ Below w.heap.size w w' := by
  obtain ⟨h1, h2, _, _⟩ := errT_zero h0
  have hl := showT_le h0 hn h6
  have hT := table_show h0 hn
  have hc := cut_show (rs := rs) h1
  have hx := lines_rows rs (fun r hr => fit_right (h2 r hr))
  have e : (⟨(showT cs rs).toArray⟩ : ByteArray).data.toList = showT cs rs := by simp
  refine (tabParse_is ⟨(showT cs rs).toArray⟩ w (by rw [size_list, e]; omega) (by rw [e, hc]; have := showC_len h1; show (showC cs).length ≤ _; omega) (fun x hxm => ?_) ?_ hE).mono ?_
  · rw [e, hc] at hxm
    have hxm' : x ∈ linesL (rowsL rs) := hxm
    rw [hx] at hxm'
    obtain ⟨r, hr, rfl⟩ := List.mem_map.1 hxm'
    have := line_le (h2 r hr) h1 (hn r hr)
    rw [List.length_append]
    simp only [List.length_cons, List.length_nil]
    omega
  · rw [e, hc]
    show (linesL (rowsL rs)).length ≤ _
    rw [hx, List.length_map]; omega
  · rintro en w' ⟨hb, ⟨_, h⟩ | ⟨cs', rs', a1, n1, c1, a2, n2, c2, he, h, k1, k2, _, _⟩⟩
    · rw [e] at h
      exact absurd hT (h cs rs)
    · rw [e] at h
      obtain ⟨rfl, rfl⟩ := table_unique hT h
      exact ⟨a1, n1, c1, a2, n2, c2, he, k1, k2, hb⟩
set_option maxHeartbeats 12800000 in
set_option maxRecDepth 100000 in
theorem tshows_law (sv v : Value) (cs : List Col) (rs : List (List Val)) (w : World) (hE : EnvZ w) (hs : ColsAt w sv cs) (hv : RowsAt w v rs) (h1 : ∀ c ∈ cs, c.name.size ≤ maxLen) (h2 : ∀ r ∈ rs, ∀ x ∈ r, x.t.size ≤ maxLen) (hn : ∀ r ∈ rs, Num r) :
    Calls Tryz.prog 4 #[.agg #[sv, v]] w fun e w' => e = .returned (.bool true) ∧ Below w.heap.size w w' := by
  obtain ⟨sao, scap, rfl, hsc, hsm⟩ := hs.len
  obtain ⟨ao, cap, rfl, hcp, hcm⟩ := hv.len
  obtain ⟨sn, hsn⟩ : ∃ sn, cs.length = sn := ⟨_, rfl⟩
  obtain ⟨n, hnn⟩ : ∃ n, rs.length = n := ⟨_, rfl⟩
  rw [hsn] at hs ⊢
  rw [hnn] at hv ⊢
  have HE := Lib.hid hE
  have HS0 := Lib.hid hs
  have HV0 := Lib.hid hv
  have HNN := Lib.hid hnn
  have B1 := Lib.hid (Box.new w [.slice sao sn scap, .slice ao n cap] 27)
  have bw1 : Hid (Below w.heap.size w (w.alloc (.cells #[.slice sao sn scap, .slice ao n cap] 27))) := (Below.refl _ _).alloc (Nat.le_refl _) _
  obtain ⟨q, hq⟩ : ∃ q : Bool, q = true ↔ Small cs rs := by
    by_cases h : Small cs rs
    · exact ⟨true, by simp [h]⟩
    · exact ⟨false, by simp [h]⟩
  have HSM : Hid (∀ W, Below w.heap.size w W → Calls Tryz.prog 12 #[.agg #[.slice sao sn scap, .slice ao n cap]] W fun e w' => e = .returned (.bool q) ∧ Below W.heap.size W w') := fun W hb => small_is _ _ cs rs q hq W (hs.below hb) (hv.below hb) h1 h2
  have HAW : Hid (∀ W, Below w.heap.size w W → Calls Tryz.prog 5 #[] W fun e w' => e = .returned (.bool true) ∧ Below W.heap.size W w') := fun W hb => awake_any W (HE.out.tab.below hb)
  cases q with
  | false =>
    clear hs hv hE h1 h2 hn hq hsn hnn hsc hcp
    go_enter Tryz.func4, Tryz.ntmps4
    go_wp2_with (first | (go_at_call 12; refine (HSM.out _ bw1.out).mono ?_; rintro e v1 ⟨rfl, hb1⟩) | (go_at_call 5; refine (HAW.out _ (two bw1.out hb1)).mono ?_; rintro e v2 ⟨rfl, hb2⟩))
    go_ret
    exact ⟨rfl, two (two bw1.out hb1) hb2⟩
  | true =>
    have hS := hq.1 rfl
    have BC := Lib.hid hS.bc
    have BR := Lib.hid (hS.br hn)
    have hN6 := hS.r1
    have HNM := Lib.hid hn
    obtain ⟨E, hEE⟩ : ∃ E, errT cs rs = E := ⟨_, rfl⟩
    have HEE := Lib.hid hEE
    have HRT : Hid (∀ W, Below w.heap.size w W → Calls Tryz.prog 8 #[.agg #[.slice sao sn scap, .slice ao n cap]] W fun e w' => e = .returned (.int .i64 E) ∧ Below W.heap.size W w') := fun W hb => right3_is HEE.out W BC.out BR.out (HS0.out.below hb) (HV0.out.below hb)
    by_cases hE0 : E = 0
    · subst hE0
      obtain ⟨X, hX⟩ : ∃ X : ByteArray, X = ⟨(showT cs rs).toArray⟩ := ⟨_, rfl⟩
      have HX := Lib.hid hX
      have HXS : Hid (X.size ≤ 1000000) := by
        show X.size ≤ _
        have := showT_le hEE hn (by omega)
        rw [hX, size_list]
        show (showT cs rs).toArray.toList.length ≤ _
        rw [List.toList_toArray]; omega
      have HSH : Hid (∀ W, Below w.heap.size w W → Calls Tryz.prog 13 #[.agg #[.slice sao sn scap, .slice ao n cap]] W fun e w' => e = .returned (.string X) ∧ Below W.heap.size W w') := fun W hb => by rw [HX.out]; exact tshow_is _ _ _ _ W BC.out BR.out (HS0.out.below hb) (HV0.out.below hb) (HE.out.tab.below hb) HEE.out
      obtain ⟨G, hG⟩ : ∃ G, digL X.data.toList = G := ⟨_, rfl⟩
      have HG := Lib.hid hG
      have HDG : Hid (∀ W, Below w.heap.size w W → Calls Tryz.prog 14 #[.agg #[.slice sao sn scap, .slice ao n cap]] W fun e w' => e = .returned (.int .u64 G) ∧ Below W.heap.size W w') := fun W hb => by rw [← HG.out]; exact tabDig_is _ _ _ _ _ _ W X HXS.out (fun V hv => HSH.out V (two hb hv))
      have HRD : Hid (∀ W, Below w.heap.size w W → Calls Tryz.prog 15 #[.string X] W fun e w' => e = .returned (.int .u64 G) ∧ Below W.heap.size W w') := fun W hb => by rw [← HG.out]; exact refDigB_is X W HXS.out
      have HPS : Hid (∀ W, Below w.heap.size w W → Calls Tryz.prog 6 #[.string X] W fun e w' => ∃ a1 n1 c1 a2 n2 c2, e = .returned (.tuple #[.agg #[.slice a1 n1 c1, .slice a2 n2 c2], .int .i64 0]) ∧ ColsAt w' (.slice a1 n1 c1) cs ∧ RowsAt w' (.slice a2 n2 c2) rs ∧ Below W.heap.size W w') := fun W hb => by rw [HX.out]; exact parse_shown cs rs W (HE.out.below hb) HEE.out HNM.out (by rw [HNN.out]; rw [HNN.out] at hN6; exact hN6)
      clear hs hv hE h1 h2 hn hq hsn hnn hsc hcp hS hEE hX hG hN6
      go_enter Tryz.func4, Tryz.ntmps4
      go_wp2_with (first | (go_at_call 12; refine (HSM.out _ (bw1.out)).mono ?_; rintro e v1 ⟨rfl, hb1⟩; have c1 := two bw1.out hb1; have X1 := B1.out.next hb1; obtain ⟨z1a, z1b, _, _⟩ := X1.two) | (go_at_call 13; refine (HSH.out _ (c1)).mono ?_; rintro e v2 ⟨rfl, hb2⟩; have c2 := two c1 hb2; have X2 := X1.next hb2; obtain ⟨z2a, z2b, _, _⟩ := X2.two) | (go_at_call 14; refine (HDG.out _ (c2)).mono ?_; rintro e v3 ⟨rfl, hb3⟩; have c3 := two c2 hb3; have X3 := X2.next hb3; obtain ⟨z3a, z3b, _, _⟩ := X3.two) | (go_at_call 15; refine (HRD.out _ (c3)).mono ?_; rintro e v4 ⟨rfl, hb4⟩; have c4 := two c3 hb4; have X4 := X3.next hb4; obtain ⟨z4a, z4b, _, _⟩ := X4.two) | (go_at_call 8; refine (HRT.out _ (c4)).mono ?_; rintro e v5 ⟨rfl, hb5⟩; have c5 := two c4 hb5; have X5 := X4.next hb5; obtain ⟨z5a, z5b, _, _⟩ := X5.two) | (go_at_call 6; refine (HPS.out _ (c5)).mono ?_; rintro e v6 ⟨a1, n1, c1, a2, n2, c2, rfl, tC, tR, hb6⟩; have c6 := two c5 hb6; have X6 := X5.next hb6; obtain ⟨z6a, z6b, _, _⟩ := X6.two))
      have B0 := Box.new v6 [.slice a1 n1 c1, .slice a2 n2 c2] 27
      have BWW : Hid (Below w.heap.size w (v6.alloc (.cells #[.slice a1 n1 c1, .slice a2 n2 c2] 27))) := two c6 (balloc _ _)
      have HC := Lib.hid (tC.below (balloc v6 (.cells #[.slice a1 n1 c1, .slice a2 n2 c2] 27)))
      have HR := Lib.hid (tR.below (balloc v6 (.cells #[.slice a1 n1 c1, .slice a2 n2 c2] 27)))
      obtain ⟨y0, y1, _, _⟩ := (X6.next (balloc v6 (.cells #[.slice a1 n1 c1, .slice a2 n2 c2] 27))).two
      obtain ⟨z0, z1, _, _⟩ := B0.two
      clear B0 tC tR HSM HSH HDG HRD HRT HPS z1a z1b z2a z2b z3a z3b z4a z4b z5a z5b z6a z6b X1 X2 X3 X4 X5 X6 hb1 hb2 hb3 hb4 hb5 hb6
      generalize v6.alloc (.cells #[.slice a1 n1 c1, .slice a2 n2 c2] 27) = W0 at *
      have HS : Hid (ColsAt W0 (.slice sao sn scap) cs) := HS0.out.below BWW.out
      have HV : Hid (RowsAt W0 (.slice ao n cap) rs) := HV0.out.below BWW.out
      have HRR : Hid (∀ W, Below W0.heap.size W0 W → Calls Tryz.prog 11 #[.slice ao n cap] W (RefRs W rs)) := fun W hb => refRows_is _ rs W BR.out (HV.out.below hb)
      have HRC : Hid (∀ W, Below W0.heap.size W0 W → Calls Tryz.prog 10 #[.slice sao sn scap] W (RefC W cs)) := fun W hb => refSchema_is _ cs W (by have := BC.out.len; omega) (HS.out.below hb)
      have HRS : Hid (∀ W u v, Below W0.heap.size W0 W → ColsAt W u cs → RowsAt W v rs → Calls Tryz.prog 9 #[u, v] W fun e w' => e = .returned (.string X) ∧ Below W.heap.size W w') := fun W u v hb hu hv => by rw [HX.out]; exact refTab_is u v cs rs W HEE.out BR.out hu hv
      have HEQ : Hid (∀ W, Below W0.heap.size W0 W → Calls Tryz.prog 16 #[.agg #[.slice a1 n1 c1, .slice a2 n2 c2], .agg #[.slice sao sn scap, .slice ao n cap]] W fun e w' => e = .returned (.bool true) ∧ Below W.heap.size W w') := fun W hb => tabEq_is _ _ _ _ cs rs W BC.out BR.out (HC.out.below hb) (HR.out.below hb) (HS.out.below hb) (HV.out.below hb)
      have HM : Hid (∀ W W', (W.cell? ⟨w.heap.size, 0, none⟩ = some (.slice sao sn scap) ∧ W.cell? ⟨w.heap.size, 1, none⟩ = some (.slice ao n cap) ∧ W.cell? ⟨v6.heap.size, 0, none⟩ = some (.slice a1 n1 c1) ∧ W.cell? ⟨v6.heap.size, 1, none⟩ = some (.slice a2 n2 c2) ∧ Below W0.heap.size W0 W) → Below W.heap.size W W' → W'.cell? ⟨w.heap.size, 0, none⟩ = some (.slice sao sn scap) ∧ W'.cell? ⟨w.heap.size, 1, none⟩ = some (.slice ao n cap) ∧ W'.cell? ⟨v6.heap.size, 0, none⟩ = some (.slice a1 n1 c1) ∧ W'.cell? ⟨v6.heap.size, 1, none⟩ = some (.slice a2 n2 c2) ∧ Below W0.heap.size W0 W') := fun W W' h hb => ⟨(hb.cell (by exact lt_of_cell h.1)).trans h.1, (hb.cell (by exact lt_of_cell h.2.1)).trans h.2.1, (hb.cell (by exact lt_of_cell h.2.2.1)).trans h.2.2.1, (hb.cell (by exact lt_of_cell h.2.2.2.1)).trans h.2.2.2.1, two h.2.2.2.2 hb⟩
      have hXX : (X.toList == X.toList) = true := by simp
      go_wp2_with fail
      refine wp_region_held_drew (S := fun W => W.cell? ⟨w.heap.size, 0, none⟩ = some (.slice sao sn scap) ∧ W.cell? ⟨w.heap.size, 1, none⟩ = some (.slice ao n cap) ∧ W.cell? ⟨v6.heap.size, 0, none⟩ = some (.slice a1 n1 c1) ∧ W.cell? ⟨v6.heap.size, 1, none⟩ = some (.slice a2 n2 c2) ∧ Below W0.heap.size W0 W) (by kernel_rfl) (by exact ⟨y0, y1, z0, z1, Below.drew (Below.refl _ _)⟩) (fun hHeld => ?_)
      refine wpAnyH_take (i := 0) (v := ?v1x) rfl (by kernel_rfl) (by kernel_rfl) (by kernel_rfl) (fun _ _ _ h => h) (Or.inl ⟨by rfl, ?hy1x⟩) hHeld ?rest1x
      case hy1x => (intro w hSw; (try dsimp only at hSw); go_simp <;> with_reducible rfl)
      try simp only [Array.reduceGetElem, Act.put, List.setIfInBounds_toArray, List.set_cons_zero, List.set_cons_succ]
      refine wpAnyH_take (i := 1) (v := ?v2x) rfl (by kernel_rfl) (by kernel_rfl) (by kernel_rfl) (fun _ _ _ h => h) (Or.inl ⟨by rfl, ?hy2x⟩) hHeld ?rest2x
      case hy2x => (intro w hSw; (try dsimp only at hSw); go_simp <;> with_reducible rfl)
      try simp only [Array.reduceGetElem, Act.put, List.setIfInBounds_toArray, List.set_cons_zero, List.set_cons_succ]
      refine wpAnyH_take (i := 2) (v := ?v3x) rfl (by kernel_rfl) (by kernel_rfl) (by kernel_rfl) (fun _ _ _ h => h) (Or.inl ⟨by rfl, ?hy3x⟩) hHeld ?rest3x
      case hy3x => (intro w hSw; (try dsimp only at hSw); go_simp <;> with_reducible rfl)
      try simp only [Array.reduceGetElem, Act.put, List.setIfInBounds_toArray, List.set_cons_zero, List.set_cons_succ]
      refine wpAnyH_take (i := 4) (v := ?v4x) rfl (by kernel_rfl) (by kernel_rfl) (by kernel_rfl) (fun _ _ _ h => h) (Or.inl ⟨by rfl, ?hy4x⟩) hHeld ?rest4x
      case hy4x => (intro w hSw; (try dsimp only at hSw); go_simp <;> with_reducible rfl)
      try simp only [Array.reduceGetElem, Act.put, List.setIfInBounds_toArray, List.set_cons_zero, List.set_cons_succ]
      refine wpAnyH_take (i := 5) (v := ?v5x) rfl (by kernel_rfl) (by kernel_rfl) (by kernel_rfl) (fun _ _ _ h => h) (Or.inl ⟨by rfl, ?hy5x⟩) hHeld ?rest5x
      case hy5x => (intro w hSw; (try dsimp only at hSw); go_simp <;> with_reducible rfl)
      try simp only [Array.reduceGetElem, Act.put, List.setIfInBounds_toArray, List.set_cons_zero, List.set_cons_succ]
      refine wpAnyH_ready (rs := [3]) (by kernel_rfl) (by simp) ?_
      refine AllReadyH.cons rfl (fun K hK => ?_) AllReadyH.nil
      go_simp
      go_at_call 10; refine (HRC.out _ hHeld.2.2.2.2).mono ?_; rintro e v12 ⟨x12, rfl, o12, hb12⟩; obtain ⟨p1, p2, rfl, _, _⟩ := o12.len; go_wp2_with fail
      refine hK.out _ _ ?_ (fun hHeld2 => ?_)
      · exact HM.out _ _ hHeld hb12
      clear hK K hHeld
      have hHeld := hHeld2
      clear hHeld2
      try simp only [Array.reduceGetElem, Act.put, List.setIfInBounds_toArray, List.set_cons_zero, List.set_cons_succ]
      refine wpAnyH_ready (rs := [6]) (by kernel_rfl) (by simp) ?_
      refine AllReadyH.cons rfl (fun K hK => ?_) AllReadyH.nil
      go_simp
      go_at_call 11; refine (HRR.out _ hHeld.2.2.2.2).mono ?_; rintro e v13 ⟨x13, rfl, o13, hb13⟩; obtain ⟨p3, p4, rfl, _, _⟩ := o13.len; have o12b := o12.below hb13; go_wp2_with fail
      refine hK.out _ _ ?_ (fun hHeld2 => ?_)
      · exact HM.out _ _ hHeld hb13
      clear hK K hHeld
      have hHeld := hHeld2
      clear hHeld2
      try simp only [Array.reduceGetElem, Act.put, List.setIfInBounds_toArray, List.set_cons_zero, List.set_cons_succ]
      refine wpAnyH_ready (rs := [7]) (by kernel_rfl) (by simp) ?_
      refine AllReadyH.cons rfl (fun K hK => ?_) AllReadyH.nil
      go_simp
      go_at_call 9; refine (HRS.out _ _ _ hHeld.2.2.2.2 o12b o13).mono ?_; rintro e v14 ⟨rfl, hb14⟩; go_wp2_with fail
      refine hK.out _ _ ?_ (fun hHeld2 => ?_)
      · exact HM.out _ _ hHeld hb14
      clear hK K hHeld
      have hHeld := hHeld2
      clear hHeld2
      try simp only [Array.reduceGetElem, Act.put, List.setIfInBounds_toArray, List.set_cons_zero, List.set_cons_succ]
      refine wpAnyH_take (i := 8) (v := ?v6x) rfl (by kernel_rfl) (by kernel_rfl) (by kernel_rfl) (fun _ _ _ h => h) (Or.inl ⟨by rfl, ?hy6x⟩) hHeld ?rest6x
      case hy6x => (intro w hSw; (try dsimp only at hSw); go_simp <;> with_reducible rfl)
      try simp only [Array.reduceGetElem, Act.put, List.setIfInBounds_toArray, List.set_cons_zero, List.set_cons_succ]
      refine wpAnyH_take (i := 9) (v := ?v7x) rfl (by kernel_rfl) (by kernel_rfl) (by kernel_rfl) (fun _ _ _ h => h) (Or.inl ⟨by rfl, ?hy7x⟩) hHeld ?rest7x
      case hy7x => (intro w hSw; (try dsimp only at hSw); go_simp <;> with_reducible rfl)
      try simp only [Array.reduceGetElem, Act.put, List.setIfInBounds_toArray, List.set_cons_zero, List.set_cons_succ]
      refine wpAnyH_take (i := 10) (v := ?v8x) rfl (by kernel_rfl) (by kernel_rfl) (by kernel_rfl) (fun _ _ _ h => h) (Or.inl ⟨by rfl, ?hy8x⟩) hHeld ?rest8x
      case hy8x => (intro w hSw; (try dsimp only at hSw); go_simp <;> with_reducible rfl)
      try simp only [Array.reduceGetElem, Act.put, List.setIfInBounds_toArray, List.set_cons_zero, List.set_cons_succ]
      refine wpAnyH_take (i := 11) (v := ?v9x) rfl (by kernel_rfl) (by kernel_rfl) (by kernel_rfl) (fun _ _ _ h => h) (Or.inl ⟨by rfl, ?hy9x⟩) hHeld ?rest9x
      case hy9x => (intro w hSw; (try dsimp only at hSw); go_simp <;> with_reducible rfl)
      try simp only [Array.reduceGetElem, Act.put, List.setIfInBounds_toArray, List.set_cons_zero, List.set_cons_succ]
      refine wpAnyH_take (i := 12) (v := ?v10x) rfl (by kernel_rfl) (by kernel_rfl) (by kernel_rfl) (fun _ _ _ h => h) (Or.inl ⟨by rfl, ?hy10x⟩) hHeld ?rest10x
      case hy10x => (intro w hSw; (try dsimp only at hSw); go_simp <;> with_reducible rfl)
      try simp only [Array.reduceGetElem, Act.put, List.setIfInBounds_toArray, List.set_cons_zero, List.set_cons_succ]
      refine wpAnyH_take (i := 13) (v := ?v11x) rfl (by kernel_rfl) (by kernel_rfl) (by kernel_rfl) (fun _ _ _ h => h) (Or.inl ⟨by rfl, ?hy11x⟩) hHeld ?rest11x
      case hy11x => (intro w hSw; (try dsimp only at hSw); go_simp <;> with_reducible rfl)
      try simp only [Array.reduceGetElem, Act.put, List.setIfInBounds_toArray, List.set_cons_zero, List.set_cons_succ]
      refine wpAnyH_take (i := 14) (v := ?v12x) rfl (by kernel_rfl) (by kernel_rfl) (by kernel_rfl) (fun _ _ _ h => h) (Or.inl ⟨by rfl, ?hy12x⟩) hHeld ?rest12x
      case hy12x => (intro w hSw; (try dsimp only at hSw); go_simp <;> with_reducible rfl)
      try simp only [Array.reduceGetElem, Act.put, List.setIfInBounds_toArray, List.set_cons_zero, List.set_cons_succ]
      refine wpAnyH_take (i := 15) (v := ?v13x) rfl (by kernel_rfl) (by kernel_rfl) (by kernel_rfl) (fun _ _ _ h => h) (Or.inl ⟨by rfl, ?hy13x⟩) hHeld ?rest13x
      case hy13x => (intro w hSw; (try dsimp only at hSw); go_simp <;> with_reducible rfl)
      try simp only [Array.reduceGetElem, Act.put, List.setIfInBounds_toArray, List.set_cons_zero, List.set_cons_succ]
      refine wpAnyH_ready (rs := [16]) (by kernel_rfl) (by simp) ?_
      refine AllReadyH.cons rfl (fun K hK => ?_) AllReadyH.nil
      go_simp
      go_at_call 16; refine (HEQ.out _ hHeld.2.2.2.2).mono ?_; rintro e v16 ⟨rfl, hb16⟩; go_wp2_with fail
      refine hK.out _ _ ?_ (fun hHeld2 => ?_)
      · exact HM.out _ _ hHeld hb16
      clear hK K hHeld
      have hHeld := hHeld2
      clear hHeld2
      try simp only [Array.reduceGetElem, Act.put, List.setIfInBounds_toArray, List.set_cons_zero, List.set_cons_succ]
      refine wpAnyH_take (i := 17) (v := ?v14x) rfl (by kernel_rfl) (by kernel_rfl) (by kernel_rfl) (fun _ _ _ h => h) (Or.inl ⟨by rfl, ?hy14x⟩) hHeld ?rest14x
      case hy14x => (intro w hSw; (try dsimp only at hSw); go_simp <;> with_reducible rfl)
      try simp only [Array.reduceGetElem, Act.put, List.setIfInBounds_toArray, List.set_cons_zero, List.set_cons_succ]
      refine wpAnyH_take (i := 18) (v := ?v15x) rfl (by kernel_rfl) (by kernel_rfl) (by kernel_rfl) (fun _ _ _ h => h) (Or.inl ⟨by rfl, ?hy15x⟩) hHeld ?rest15x
      case hy15x => (intro w hSw; (try dsimp only at hSw); go_simp <;> with_reducible rfl)
      try simp only [Array.reduceGetElem, Act.put, List.setIfInBounds_toArray, List.set_cons_zero, List.set_cons_succ]
      refine wpAnyH_ready (rs := [19]) (by kernel_rfl) (by simp) ?_
      refine AllReadyH.cons rfl (fun K hK => ?_) AllReadyH.nil
      go_simp
      go_at_call 5; refine (HAW.out _ (two BWW.out hHeld.2.2.2.2)).mono ?_; rintro e v15 ⟨rfl, hb15⟩; go_wp2_with fail
      refine hK.out _ _ ?_ (fun hHeld2 => ?_)
      · exact HM.out _ _ hHeld hb15
      clear hK K hHeld
      have hHeld := hHeld2
      clear hHeld2
      try simp only [Array.reduceGetElem, Act.put, List.setIfInBounds_toArray, List.set_cons_zero, List.set_cons_succ]
      refine wpAnyH_take (i := 20) (v := ?v16x) rfl (by kernel_rfl) (by kernel_rfl) (by kernel_rfl) (fun _ _ _ h => h) (Or.inl ⟨by rfl, ?hy16x⟩) hHeld ?rest16x
      case hy16x => (intro w hSw; (try dsimp only at hSw); go_simp <;> with_reducible rfl)
      try simp only [Array.reduceGetElem, Act.put, List.setIfInBounds_toArray, List.set_cons_zero, List.set_cons_succ]
      refine wpAnyH_take (i := 21) (v := ?v17x) rfl (by kernel_rfl) (by kernel_rfl) (by kernel_rfl) (fun _ _ _ h => h) (Or.inl ⟨by rfl, ?hy17x⟩) hHeld ?rest17x
      case hy17x => (intro w hSw; (try dsimp only at hSw); go_simp <;> with_reducible rfl)
      try simp only [Array.reduceGetElem, Act.put, List.setIfInBounds_toArray, List.set_cons_zero, List.set_cons_succ]
      refine wpAnyH_done (by kernel_rfl) ?_ _
      go_wp2_with fail
      go_ret
      exact ⟨rfl, two BWW.out hHeld.2.2.2.2⟩
    · have d0 : (E != 0) = true := by simpa using hE0
      have HSH : Hid (∀ W, Below w.heap.size w W → Calls Tryz.prog 13 #[.agg #[.slice sao sn scap, .slice ao n cap]] W fun e w' => e = .returned (.string ⟨#[]⟩) ∧ Below W.heap.size W w') := fun W hb => tshow_no _ _ cs rs W BC.out BR.out (HS0.out.below hb) (HV0.out.below hb) E HEE.out hE0
      obtain ⟨G, hG⟩ : ∃ G, digL (⟨#[]⟩ : ByteArray).data.toList = G := ⟨_, rfl⟩
      have HG := Lib.hid hG
      have HDG : Hid (∀ W, Below w.heap.size w W → Calls Tryz.prog 14 #[.agg #[.slice sao sn scap, .slice ao n cap]] W fun e w' => e = .returned (.int .u64 G) ∧ Below W.heap.size W w') := fun W hb => by rw [← HG.out]; exact tabDig_is _ _ _ _ _ _ W ⟨#[]⟩ (by decide) (fun V hv => HSH.out V (two hb hv))
      have HRD : Hid (∀ W, Below w.heap.size w W → Calls Tryz.prog 15 #[.string ⟨#[]⟩] W fun e w' => e = .returned (.int .u64 G) ∧ Below W.heap.size W w') := fun W hb => by rw [← HG.out]; exact refDigB_is ⟨#[]⟩ W (by decide)
      clear hs hv hE h1 h2 hn hq hsn hnn hsc hcp hS hEE hG hN6 hE0
      go_enter Tryz.func4, Tryz.ntmps4
      go_wp2_with (first | (go_at_call 12; refine (HSM.out _ (bw1.out)).mono ?_; rintro e v1 ⟨rfl, hb1⟩; have c1 := two bw1.out hb1; have X1 := B1.out.next hb1; obtain ⟨z1a, z1b, _, _⟩ := X1.two) | (go_at_call 13; refine (HSH.out _ (c1)).mono ?_; rintro e v2 ⟨rfl, hb2⟩; have c2 := two c1 hb2; have X2 := X1.next hb2; obtain ⟨z2a, z2b, _, _⟩ := X2.two) | (go_at_call 14; refine (HDG.out _ (c2)).mono ?_; rintro e v3 ⟨rfl, hb3⟩; have c3 := two c2 hb3; have X3 := X2.next hb3; obtain ⟨z3a, z3b, _, _⟩ := X3.two) | (go_at_call 15; refine (HRD.out _ (c3)).mono ?_; rintro e v4 ⟨rfl, hb4⟩; have c4 := two c3 hb4; have X4 := X3.next hb4; obtain ⟨z4a, z4b, _, _⟩ := X4.two) | (go_at_call 8; refine (HRT.out _ (c4)).mono ?_; rintro e v5 ⟨rfl, hb5⟩; have c5 := two c4 hb5; have X5 := X4.next hb5; obtain ⟨z5a, z5b, _, _⟩ := X5.two) | (go_at_call 5; refine (HAW.out _ c5).mono ?_; rintro e v7 ⟨rfl, hb7⟩))
      go_ret
      exact ⟨rfl, two c5 hb7⟩
end Go.Proofs.YtfmjeggomphliaaGreatDoor.Rf

set_option linter.unusedVariables false
namespace Go.Proofs.YtfmjeggomphliaaGreatDoor.TableShowsLaw
open Go.ChangeShapes Go.WideShapes Go.ChangeAt Go.RowKit Go

set_option maxRecDepth 100000 in
/-- What the walk gives, for every argument and every world that holds the listed variables. -/
theorem contract (H : Type) (enc : TypeId × Value → H) (W : World) (base : Nat) (args : Array Value) (ds gs : List (DataW H)) (before : List MemPlace)
    (hval : ∀ (j : Nat) t v, Tryz.f4.params[j]? = some t → args[j]? = some v → Value.okWide Tryz.prog W .any base t v)
    (hW : DataW.Whole enc Tryz.prog Tryz.f4.params.toList Rows.tableShowsSpec.vars false W args.toList ds gs before)
    (hsz0 : (DataW.weightsEach Tryz.prog (Tryz.f4.params.toList ++ (OpenSpec.ofChange Rows.tableShowsSpec).bare.plain.varTypes Tryz.prog) (ds ++ gs)).all (· ≤ reachBytes) = true)
    (hL : laidMetH Tryz.prog Rows.tableShowsRow.laid W) (hS : W.ShapedOpen Tryz.prog) :
    Calls Tryz.prog 4 args W fun e W' => ∃ v, e = .returned v ∧ Rows.tableShowsSpec.post enc Tryz.prog Tryz.f4 false true false false W args v W' := by
  have hW' := hW
  obtain ⟨p, q, hA0, hV, rfl, hfz, hnd⟩ := hW
  obtain ⟨rfl, rfl⟩ := trodVars_none hV
  have hA : DataW.TrodAll enc Tryz.prog W 0 (fun _ => true) true Tryz.f4.params.toList args.toList ds p := hA0
  rw [Tryz.params4] at hA hval
  obtain ⟨v0, vs0, d0, ds0, p0, q0, hargs, rfl, rfl, h0, r0⟩ := trodAll_cons hA
  obtain ⟨rfl, rfl, rfl⟩ := trodAll_nil r0
  obtain rfl : args = #[v0] := by cases args; simp_all
  clear hA0
  obtain ⟨ts, tv, tcs, trs, rfl, tC, tR, tbc, tbr⟩ := Tb.open_table (hval 0 27 v0 rfl rfl) h0
  have walk := Rf.tshows_law ts tv tcs trs W (Rf.EnvZ.of (Rf.laidS hL) hS) tC tR tbc (fun r hr => (tbr r hr).2) (fun r hr => (tbr r hr).1)
  refine walk.mono fun e W' ⟨he, hb⟩ => ?_
  subst he
  exact ⟨_, rfl, Fr.post_true (tb := 4) (by rw [Tryz.params4]; intro t ht; simp only [List.mem_cons, List.not_mem_nil, or_false] at ht; rcases ht with rfl <;> exact ⟨by kernel_rfl, of_decide_eq_true (by kernel_rfl)⟩) rfl Tryz.underlying4 rfl hW' (fun gs hg => by subst hg; exact ⟨rfl, rfl, rfl⟩) hb⟩

theorem laid_met (os : Os) : laidMet Tryz.prog Rows.tableShowsRow.laid ((World.laidAll Tryz.prog os Rows.tableShowsRow.laid).forCall (fun _ _ => 0) ⟨#[], #[.agg #[.slice none 0 0, .slice none 0 0]], []⟩).memory :=
  laidMet_laidAll _ (by kernel_rfl) (by kernel_rfl)
theorem reads (os : Os) {H : Type} (enc : TypeId × Value → H) : ∃ places, DataW.whole enc Tryz.prog ((World.laidAll Tryz.prog os Rows.tableShowsRow.laid).forCall (fun _ _ => 0) ⟨#[], #[.agg #[.slice none 0 0, .slice none 0 0]], []⟩).memory Tryz.f4.params.toList Rows.tableShowsSpec.vars false (#[.agg #[.slice none 0 0, .slice none 0 0]] : Array Value).toList 8 = some ([.agg [.nil, .nil]], [], places) :=
  ⟨[], by kernel_rfl⟩

set_option maxRecDepth 100000 in
theorem lifted (os : Os) (started : os.Started) (H : Type) (enc : TypeId × Value → H) (F : Stop.Interp) :
    ReturnsInHanded {} Tryz.checked os 4 .any ((OpenSpec.ofChange Rows.tableShowsSpec).preRow enc Tryz.prog Tryz.f4 Rows.tableShowsRow.domain false Rows.tableShowsRow.laid) (((OpenSpec.ofChange Rows.tableShowsSpec).at F).post enc Tryz.prog Tryz.f4 false true false false) := by
  obtain ⟨places, hx⟩ := reads os enc
  refine returnsInHanded_of_row (C := Tryz.checked) (s := OpenSpec.ofChange Rows.tableShowsSpec) Fr.own started (by kernel_rfl) Tryz.func4
    (witness_row_atRef (enc := enc) (C := Tryz.checked) false (World.laidAll Tryz.prog os Rows.tableShowsRow.laid) #[.agg #[.slice none 0 0, .slice none 0 0]] (World.laidAll_os _ _ _) (by kernel_rfl) (by kernel_rfl) (by kernel_rfl)
      (OpenSpec.preRow_of_cond 8 hx (by kernel_rfl) (fun k hk => by cases hk) (by kernel_rfl) (laid_met os))) ?_
  intro W base args ds gs before hval hW _ _ hsz hL hS _
  exact contract H enc W base args ds gs before hval hW hsz hL hS

theorem said : Rows.TableShowsSaid :=
  OpenClaim.holds_of_cond 4 Tryz.f4 rfl rfl rfl rfl rfl rfl rfl ⟨rfl, rfl, rfl, rfl, rfl⟩ rfl rfl rfl rfl rfl (by kernel_rfl) Tryz.func4 (by kernel_rfl)
    (of_decide_eq_true (by kernel_rfl)) (by unfold Func.isWrapper; first | (rw [if_pos (by decide +kernel)]; kernel_rfl) | (rw [if_neg (by decide +kernel)]; exact ⟨rfl, rfl⟩))
    (fun os started H enc _ F => by rw [OpenClaim.pre_eq_preRow]; exact lifted os started H enc F)

/-- No parameter wants a stand-in. -/
theorem plain (f : FuncId) (fn : Func) (hf : Tryz.pinned.checked.prog.funcNamed "bywash/bywashlaw03.TableShows" = some f) (hfn : Tryz.pinned.checked.prog.funcs[f]? = some fn) :
    true = Tryz.pinned.checked.prog.looks [] ∧ ∀ (j : Nat) t, fn.params[j]? = some t → Tryz.pinned.checked.prog.wantsStandIn t = false := by
  obtain rfl : f = 4 := Option.some.inj ((show Tryz.prog.funcNamed "bywash/bywashlaw03.TableShows" = some 4 by kernel_rfl).symm.trans hf) |>.symm
  obtain rfl : fn = Tryz.f4 := (Option.some.inj (Tryz.func4.symm.trans hfn)).symm
  refine ⟨by kernel_rfl, fun j t ht => ?_⟩
  rw [Tryz.params4] at ht
  have hm := Array.mem_of_getElem? ht
  simp only [List.mem_toArray, List.mem_cons, List.not_mem_nil, or_false] at hm
  rcases hm with rfl <;> exact (show Tryz.prog.wantsStandIn _ = false by kernel_rfl)

/-- The law's card. -/
theorem card : Rows.TableShowsCardSaid :=
  Claim7.holds_tied_plain_at .later [] _ _ _ _ said (fun _ h => by cases h) (by kernel_rfl) (fun _ h => by cases h) tableShows_row_tie rfl ⟨rfl, rfl⟩ (by kernel_rfl) rfl plain (by kernel_rfl)
end Go.Proofs.YtfmjeggomphliaaGreatDoor.TableShowsLaw
