/- Walks: table.Parse for any text; the statement TableParses. -/
import Derived.Test.YtfmjeggomphliaaGreatDoorTabParse
import Derived.Test.YtfmjeggomphliaaGreatDoorRefShow
import Derived.Test.YtfmjeggomphliaaGreatDoorHdr
set_option linter.unusedVariables false
set_option linter.unusedSimpArgs false
namespace Go.Proofs.YtfmjeggomphliaaGreatDoor.Rf
open Go.RowKit Go Go.Sort Ba Tb Va

theorem lines_le : ∀ (l : List UInt8), (∀ x ∈ linesL l, x.length ≤ l.length) ∧ (linesL l).length ≤ l.length
  | [] => ⟨fun x hx => by simp [linesL] at hx, by simp [linesL]⟩
  | c :: r => by
    obtain ⟨h1, h2⟩ := lines_le r
    by_cases hc : c = 10
    · have e : linesL (c :: r) = [10] :: linesL r := by show (if c = 10 then [10] :: linesL r else _) = _; rw [if_pos hc]
      rw [e]
      refine ⟨fun x hx => ?_, by simp only [List.length_cons]; omega⟩
      rcases List.mem_cons.1 hx with rfl | hx
      · simp
      · have := h1 x hx
        simp only [List.length_cons]; omega
    · cases hl : linesL r with
      | nil =>
        rw [lines_lone hc hl]
        refine ⟨fun x hx => ?_, by simp⟩
        rw [List.mem_singleton.1 hx]; simp
      | cons y ys =>
        rw [lines_ne hc hl]
        rw [hl] at h1 h2
        refine ⟨fun x hx => ?_, by simp only [List.length_cons] at h2 ⊢; omega⟩
        rcases List.mem_cons.1 hx with rfl | hx
        · have := h1 y List.mem_cons_self
          simp only [List.length_cons]; omega
        · have := h1 x (List.mem_cons_of_mem _ hx)
          simp only [List.length_cons]; omega
theorem cutN_le (s : List UInt8) : (Lib.cut s [10]).1.length ≤ s.length ∧ (Lib.cut s [10]).2.1.length ≤ s.length := by
  unfold Lib.cut
  split
  · exact ⟨by simp only [List.length_take]; omega, by simp only [List.length_drop]; omega⟩
  · exact ⟨Nat.le_refl _, Nat.zero_le _⟩
theorem tabParse_is (s : ByteArray) (w : World) (hs : s.size ≤ 1000000) (hh : (Lib.cut s.data.toList [10]).1.length ≤ 4000) (hln : ∀ x ∈ linesL (Lib.cut s.data.toList [10]).2.1, x.length ≤ 4000) (hnn : (linesL (Lib.cut s.data.toList [10]).2.1).length ≤ 10000) (hE : EnvZ w) :
    Calls Tryz.prog 6 #[.string s] w (TabParsed s.data.toList w) := by
  by_cases h : SchemaOf (Lib.cut s.data.toList [10]).1 (headOf (Lib.cut s.data.toList [10]).1)
  · exact tabParse_yes s w hs hh hln hnn hE h
  · exact tabParse_no s w hs hh hE h
theorem tabParse_small (s : ByteArray) (w : World) (hs : s.size ≤ 4000) (hE : EnvZ w) :
    Calls Tryz.prog 6 #[.string s] w (TabParsed s.data.toList w) := by
  have h1 := cutN_le s.data.toList
  have h2 := lines_le (Lib.cut s.data.toList [10]).2.1
  rw [size_list] at hs
  exact tabParse_is s w (by rw [size_list]; omega) (by omega) (fun x hx => by have := h2.1 x hx; omega) (by omega) hE
theorem tab_err {s : List UInt8} {cs : List Col} {rs : List (List Val)} (h : TableOf s cs rs) : errT cs rs = 0 ∧ showT cs rs = s := by
  obtain ⟨_, _, _, qs, _, h1, rfl, h2⟩ := h
  exact ⟨errT_sort h1, h2⟩
theorem empty0_is (w : World) : Calls Tryz.prog 7 #[.agg #[.slice none 0 0, .slice none 0 0]] w fun e w' => e = .returned (.bool true) ∧ Below w.heap.size w w' := by
  go_enter Tryz.func7, Tryz.ntmps7
  go_wp2_with fail
  go_ret
  exact ⟨rfl, by go_grown⟩
set_option maxHeartbeats 6400000 in
set_option maxRecDepth 100000 in
theorem parses_no (s : ByteArray) (w : World) (hE : EnvZ w) (h6 : s.size ≤ 600) (hno : ∀ cs rs, ¬ TableOf s.data.toList cs rs) :
    Calls Tryz.prog 3 #[.string s] w fun e w' => e = .returned (.bool true) ∧ Below w.heap.size w w' := by
  have HE := Lib.hid hE
  have HP : Hid (Calls Tryz.prog 6 #[.string s] w fun e w' => e = .returned (.tuple #[.agg #[.slice none 0 0, .slice none 0 0], .int .i64 20]) ∧ Below w.heap.size w w') := by
    refine (tabParse_small s w (by omega) hE).mono ?_
    rintro e w' ⟨hb, ⟨rfl, _⟩ | ⟨cs, rs, _, _, _, _, _, _, _, h, _⟩⟩
    · exact ⟨rfl, hb⟩
    · exact absurd h (hno cs rs)
  have h7 : ¬ (600 : Int) < (s.size : Int) := by omega
  have HAW : Hid (∀ W, Below w.heap.size w W → Calls Tryz.prog 5 #[] W fun e w' => e = .returned (.bool true) ∧ Below W.heap.size W w') := fun W hb => awake_any W (HE.out.tab.below hb)
  clear hE hno h6
  go_enter Tryz.func3, Tryz.ntmps3
  go_wp2_with (first | (go_at_call 6; refine HP.out.mono ?_; rintro e w1 ⟨rfl, hb1⟩) | (go_at_call 7; refine (empty0_is _).mono ?_; rintro e w2 ⟨rfl, hb2⟩) | (go_at_call 5; refine (HAW.out _ (two (two hb1 (balloc _ _)) hb2)).mono ?_; rintro e w3 ⟨rfl, hb3⟩))
  go_ret
  exact ⟨rfl, two (two (two hb1 (balloc _ _)) hb2) hb3⟩
set_option maxHeartbeats 1600000 in
theorem parses_big (s : ByteArray) (w : World) (hE : EnvZ w) (h6 : 600 < (s.size : Int)) :
    Calls Tryz.prog 3 #[.string s] w fun e w' => e = .returned (.bool true) ∧ Below w.heap.size w w' := by
  have HE := Lib.hid hE
  clear hE
  go_enter Tryz.func3, Tryz.ntmps3
  go_wp2_with (go_at_call 5; refine (awake_any _ HE.out.tab).mono ?_; rintro e w3 ⟨rfl, hb3⟩)
  go_ret
  exact ⟨rfl, hb3⟩
set_option maxHeartbeats 12800000 in
set_option maxRecDepth 100000 in
theorem parses_yes (s : ByteArray) (w : World) (hE : EnvZ w) (h6 : s.size ≤ 600) (cs : List Col) (rs : List (List Val)) (hT : TableOf s.data.toList cs rs) :
    Calls Tryz.prog 3 #[.string s] w fun e w' => e = .returned (.bool true) ∧ Below w.heap.size w w' := by
  have HE := Lib.hid hE
  have HP : Hid (Calls Tryz.prog 6 #[.string s] w fun e w' => ∃ a1 n1 c1 a2 n2 c2, e = .returned (.tuple #[.agg #[.slice a1 n1 c1, .slice a2 n2 c2], .int .i64 0]) ∧ ColsAt w' (.slice a1 n1 c1) cs ∧ RowsAt w' (.slice a2 n2 c2) rs ∧ BdC cs ∧ BdRs rs ∧ Below w.heap.size w w') := by
    refine (tabParse_small s w (by omega) hE).mono ?_
    rintro e w' ⟨hb, ⟨_, h⟩ | ⟨cs', rs', a1, n1, c1, a2, n2, c2, he, h, h1, h2, h3, h4⟩⟩
    · exact absurd hT (h cs rs)
    · obtain ⟨rfl, rfl⟩ := table_unique hT h
      exact ⟨a1, n1, c1, a2, n2, c2, he, h1, h2, h3, h4, hb⟩
  have h7 : ¬ (600 : Int) < (s.size : Int) := by omega
  have HAW : Hid (∀ W, Below w.heap.size w W → Calls Tryz.prog 5 #[] W fun e w' => e = .returned (.bool true) ∧ Below W.heap.size W w') := fun W hb => awake_any W (HE.out.tab.below hb)
  have HTE := Lib.hid (tab_err hT)
  have hsx : s = ⟨(showT cs rs).toArray⟩ := str_of HTE.out.2.symm
  have HSX := Lib.hid hsx
  clear hE hT h6 hsx
  go_enter Tryz.func3, Tryz.ntmps3
  go_wp2_with (go_at_call 6; refine HP.out.mono ?_; rintro e w1 ⟨a1, n1, c1, a2, n2, c2, rfl, tC, tR, bc, br, hb1⟩)
  have BC := Lib.hid bc
  have BR := Lib.hid br
  have B0 := Box.new w1 [.slice a1 n1 c1, .slice a2 n2 c2] 27
  have BWW := Lib.hid (two hb1 (balloc w1 (.cells #[.slice a1 n1 c1, .slice a2 n2 c2] 27)))
  have HC := Lib.hid (tC.below (balloc w1 (.cells #[.slice a1 n1 c1, .slice a2 n2 c2] 27)))
  have HR := Lib.hid (tR.below (balloc w1 (.cells #[.slice a1 n1 c1, .slice a2 n2 c2] 27)))
  clear tC tR bc br hb1 HP
  obtain ⟨z0, z1, _, _⟩ := B0.two
  clear B0
  generalize w1.alloc (.cells #[.slice a1 n1 c1, .slice a2 n2 c2] 27) = W0 at *
  have HRT : Hid (∀ W, Below W0.heap.size W0 W → Calls Tryz.prog 8 #[.agg #[.slice a1 n1 c1, .slice a2 n2 c2]] W fun e w' => e = .returned (.int .i64 0) ∧ Below W.heap.size W w') := fun W hb => right3_is HTE.out.1 W BC.out BR.out (HC.out.below hb) (HR.out.below hb)
  have HRR : Hid (∀ W, Below W0.heap.size W0 W → Calls Tryz.prog 11 #[.slice a2 n2 c2] W (RefRs W rs)) := fun W hb => refRows_is _ rs W BR.out (HR.out.below hb)
  have HRC : Hid (∀ W, Below W0.heap.size W0 W → Calls Tryz.prog 10 #[.slice a1 n1 c1] W (RefC W cs)) := fun W hb => refSchema_is _ cs W (by have := BC.out.len; omega) (HC.out.below hb)
  have HSH : Hid (∀ W u v, Below W0.heap.size W0 W → ColsAt W u cs → RowsAt W v rs → Calls Tryz.prog 9 #[u, v] W fun e w' => e = .returned (.string s) ∧ Below W.heap.size W w') := fun W u v hb hu hv => by rw [HSX.out]; exact refTab_is u v cs rs W HTE.out.1 BR.out hu hv
  have HM : Hid (∀ W W', (W.cell? ⟨w1.heap.size, 0, none⟩ = some (.slice a1 n1 c1) ∧ W.cell? ⟨w1.heap.size, 1, none⟩ = some (.slice a2 n2 c2) ∧ Below W0.heap.size W0 W) → Below W.heap.size W W' → W'.cell? ⟨w1.heap.size, 0, none⟩ = some (.slice a1 n1 c1) ∧ W'.cell? ⟨w1.heap.size, 1, none⟩ = some (.slice a2 n2 c2) ∧ Below W0.heap.size W0 W') := fun W W' h hb => ⟨(hb.cell (by exact lt_of_cell h.1)).trans h.1, (hb.cell (by exact lt_of_cell h.2.1)).trans h.2.1, two h.2.2 hb⟩
  have hss : (s.toList == s.toList) = true := by simp
  go_wp2_with fail
  refine wp_region_held_drew (S := fun W => W.cell? ⟨w1.heap.size, 0, none⟩ = some (.slice a1 n1 c1) ∧ W.cell? ⟨w1.heap.size, 1, none⟩ = some (.slice a2 n2 c2) ∧ Below W0.heap.size W0 W) (by kernel_rfl) (by exact ⟨z0, z1, Below.drew (Below.refl _ _)⟩) (fun hHeld => ?_)
  refine wpAnyH_take (i := 0) (v := ?v1x) rfl (by kernel_rfl) (by kernel_rfl) (by kernel_rfl) (fun _ _ _ h => h) (Or.inl ⟨by rfl, ?hy1x⟩) hHeld ?rest1x
  case hy1x => (intro w hSw; (try dsimp only at hSw); go_simp <;> with_reducible rfl)
  try simp only [Array.reduceGetElem, Act.put, List.setIfInBounds_toArray, List.set_cons_zero, List.set_cons_succ]
  refine wpAnyH_ready (rs := [1]) (by kernel_rfl) (by simp) ?_
  refine AllReadyH.cons rfl (fun K hK => ?_) AllReadyH.nil
  go_simp
  go_at_call 8; refine (HRT.out _ hHeld.2.2).mono ?_; rintro e v11 ⟨rfl, hb11⟩; go_wp2_with fail
  refine hK.out _ _ ?_ (fun hHeld2 => ?_)
  · exact HM.out _ _ hHeld hb11
  clear hK K hHeld
  have hHeld := hHeld2
  clear hHeld2
  try simp only [Array.reduceGetElem, Act.put, List.setIfInBounds_toArray, List.set_cons_zero, List.set_cons_succ]
  refine wpAnyH_take (i := 2) (v := ?v2x) rfl (by kernel_rfl) (by kernel_rfl) (by kernel_rfl) (fun _ _ _ h => h) (Or.inl ⟨by rfl, ?hy2x⟩) hHeld ?rest2x
  case hy2x => (intro w hSw; (try dsimp only at hSw); go_simp <;> with_reducible rfl)
  try simp only [Array.reduceGetElem, Act.put, List.setIfInBounds_toArray, List.set_cons_zero, List.set_cons_succ]
  refine wpAnyH_take (i := 3) (v := ?v3x) rfl (by kernel_rfl) (by kernel_rfl) (by kernel_rfl) (fun _ _ _ h => h) (Or.inl ⟨by rfl, ?hy3x⟩) hHeld ?rest3x
  case hy3x => (intro w hSw; (try dsimp only at hSw); go_simp <;> with_reducible rfl)
  try simp only [Array.reduceGetElem, Act.put, List.setIfInBounds_toArray, List.set_cons_zero, List.set_cons_succ]
  refine wpAnyH_take (i := 4) (v := ?v4x) rfl (by kernel_rfl) (by kernel_rfl) (by kernel_rfl) (fun _ _ _ h => h) (Or.inl ⟨by rfl, ?hy4x⟩) hHeld ?rest4x
  case hy4x => (intro w hSw; (try dsimp only at hSw); go_simp <;> with_reducible rfl)
  try simp only [Array.reduceGetElem, Act.put, List.setIfInBounds_toArray, List.set_cons_zero, List.set_cons_succ]
  refine wpAnyH_take (i := 5) (v := ?v5x) rfl (by kernel_rfl) (by kernel_rfl) (by kernel_rfl) (fun _ _ _ h => h) (Or.inl ⟨by rfl, ?hy5x⟩) hHeld ?rest5x
  case hy5x => (intro w hSw; (try dsimp only at hSw); go_simp <;> with_reducible rfl)
  try simp only [Array.reduceGetElem, Act.put, List.setIfInBounds_toArray, List.set_cons_zero, List.set_cons_succ]
  refine wpAnyH_take (i := 7) (v := ?v6x) rfl (by kernel_rfl) (by kernel_rfl) (by kernel_rfl) (fun _ _ _ h => h) (Or.inl ⟨by rfl, ?hy6x⟩) hHeld ?rest6x
  case hy6x => (intro w hSw; (try dsimp only at hSw); go_simp <;> with_reducible rfl)
  try simp only [Array.reduceGetElem, Act.put, List.setIfInBounds_toArray, List.set_cons_zero, List.set_cons_succ]
  refine wpAnyH_take (i := 8) (v := ?v7x) rfl (by kernel_rfl) (by kernel_rfl) (by kernel_rfl) (fun _ _ _ h => h) (Or.inl ⟨by rfl, ?hy7x⟩) hHeld ?rest7x
  case hy7x => (intro w hSw; (try dsimp only at hSw); go_simp <;> with_reducible rfl)
  try simp only [Array.reduceGetElem, Act.put, List.setIfInBounds_toArray, List.set_cons_zero, List.set_cons_succ]
  refine wpAnyH_take (i := 11) (v := ?v8x) rfl (by kernel_rfl) (by kernel_rfl) (by kernel_rfl) (fun _ _ _ h => h) (Or.inl ⟨by rfl, ?hy8x⟩) hHeld ?rest8x
  case hy8x => (intro w hSw; (try dsimp only at hSw); go_simp <;> with_reducible rfl)
  try simp only [Array.reduceGetElem, Act.put, List.setIfInBounds_toArray, List.set_cons_zero, List.set_cons_succ]
  refine wpAnyH_ready (rs := [6]) (by kernel_rfl) (by simp) ?_
  refine AllReadyH.cons rfl (fun K hK => ?_) AllReadyH.nil
  go_simp
  go_at_call 10; refine (HRC.out _ hHeld.2.2).mono ?_; rintro e v12 ⟨x12, rfl, o12, hb12⟩; obtain ⟨p1, p2, rfl, _, _⟩ := o12.len; go_wp2_with fail
  refine hK.out _ _ ?_ (fun hHeld2 => ?_)
  · exact HM.out _ _ hHeld hb12
  clear hK K hHeld
  have hHeld := hHeld2
  clear hHeld2
  try simp only [Array.reduceGetElem, Act.put, List.setIfInBounds_toArray, List.set_cons_zero, List.set_cons_succ]
  refine wpAnyH_ready (rs := [9]) (by kernel_rfl) (by simp) ?_
  refine AllReadyH.cons rfl (fun K hK => ?_) AllReadyH.nil
  go_simp
  go_at_call 11; refine (HRR.out _ hHeld.2.2).mono ?_; rintro e v13 ⟨x13, rfl, o13, hb13⟩; obtain ⟨p3, p4, rfl, _, _⟩ := o13.len; have o12b := o12.below hb13; go_wp2_with fail
  refine hK.out _ _ ?_ (fun hHeld2 => ?_)
  · exact HM.out _ _ hHeld hb13
  clear hK K hHeld
  have hHeld := hHeld2
  clear hHeld2
  try simp only [Array.reduceGetElem, Act.put, List.setIfInBounds_toArray, List.set_cons_zero, List.set_cons_succ]
  refine wpAnyH_ready (rs := [10]) (by kernel_rfl) (by simp) ?_
  refine AllReadyH.cons rfl (fun K hK => ?_) AllReadyH.nil
  go_simp
  go_at_call 9; refine (HSH.out _ _ _ hHeld.2.2 o12b o13).mono ?_; rintro e v14 ⟨rfl, hb14⟩; go_wp2_with fail
  refine hK.out _ _ ?_ (fun hHeld2 => ?_)
  · exact HM.out _ _ hHeld hb14
  clear hK K hHeld
  have hHeld := hHeld2
  clear hHeld2
  try simp only [Array.reduceGetElem, Act.put, List.setIfInBounds_toArray, List.set_cons_zero, List.set_cons_succ]
  refine wpAnyH_take (i := 12) (v := ?v9x) rfl (by kernel_rfl) (by kernel_rfl) (by kernel_rfl) (fun _ _ _ h => h) (Or.inl ⟨by rfl, ?hy9x⟩) hHeld ?rest9x
  case hy9x => (intro w hSw; (try dsimp only at hSw); go_simp <;> with_reducible rfl)
  try simp only [Array.reduceGetElem, Act.put, List.setIfInBounds_toArray, List.set_cons_zero, List.set_cons_succ]
  refine wpAnyH_take (i := 13) (v := ?v10x) rfl (by kernel_rfl) (by kernel_rfl) (by kernel_rfl) (fun _ _ _ h => h) (Or.inl ⟨by rfl, ?hy10x⟩) hHeld ?rest10x
  case hy10x => (intro w hSw; (try dsimp only at hSw); go_simp <;> with_reducible rfl)
  try simp only [Array.reduceGetElem, Act.put, List.setIfInBounds_toArray, List.set_cons_zero, List.set_cons_succ]
  refine wpAnyH_take (i := 14) (v := ?v11x) rfl (by kernel_rfl) (by kernel_rfl) (by kernel_rfl) (fun _ _ _ h => h) (Or.inl ⟨by rfl, ?hy11x⟩) hHeld ?rest11x
  case hy11x => (intro w hSw; (try dsimp only at hSw); go_simp <;> with_reducible rfl)
  try simp only [Array.reduceGetElem, Act.put, List.setIfInBounds_toArray, List.set_cons_zero, List.set_cons_succ]
  refine wpAnyH_ready (rs := [15]) (by kernel_rfl) (by simp) ?_
  refine AllReadyH.cons rfl (fun K hK => ?_) AllReadyH.nil
  go_simp
  go_at_call 5; refine (HAW.out _ (two BWW.out hHeld.2.2)).mono ?_; rintro e v15 ⟨rfl, hb15⟩; go_wp2_with fail
  refine hK.out _ _ ?_ (fun hHeld2 => ?_)
  · exact HM.out _ _ hHeld hb15
  clear hK K hHeld
  have hHeld := hHeld2
  clear hHeld2
  try simp only [Array.reduceGetElem, Act.put, List.setIfInBounds_toArray, List.set_cons_zero, List.set_cons_succ]
  refine wpAnyH_take (i := 16) (v := ?v12x) rfl (by kernel_rfl) (by kernel_rfl) (by kernel_rfl) (fun _ _ _ h => h) (Or.inl ⟨by rfl, ?hy12x⟩) hHeld ?rest12x
  case hy12x => (intro w hSw; (try dsimp only at hSw); go_simp <;> with_reducible rfl)
  try simp only [Array.reduceGetElem, Act.put, List.setIfInBounds_toArray, List.set_cons_zero, List.set_cons_succ]
  refine wpAnyH_take (i := 17) (v := ?v13x) rfl (by kernel_rfl) (by kernel_rfl) (by kernel_rfl) (fun _ _ _ h => h) (Or.inl ⟨by rfl, ?hy13x⟩) hHeld ?rest13x
  case hy13x => (intro w hSw; (try dsimp only at hSw); go_simp <;> with_reducible rfl)
  try simp only [Array.reduceGetElem, Act.put, List.setIfInBounds_toArray, List.set_cons_zero, List.set_cons_succ]
  refine wpAnyH_done (by kernel_rfl) ?_ _
  go_wp2_with fail
  go_ret
  exact ⟨rfl, two BWW.out hHeld.2.2⟩
theorem parses_law (s : ByteArray) (w : World) (hE : EnvZ w) :
    Calls Tryz.prog 3 #[.string s] w fun e w' => e = .returned (.bool true) ∧ Below w.heap.size w w' := by
  by_cases h6 : s.size ≤ 600
  · by_cases h : ∃ cs rs, TableOf s.data.toList cs rs
    · obtain ⟨cs, rs, h⟩ := h
      exact parses_yes s w hE h6 cs rs h
    · exact parses_no s w hE h6 fun cs rs h' => h ⟨cs, rs, h'⟩
  · exact parses_big s w hE (by omega)
end Go.Proofs.YtfmjeggomphliaaGreatDoor.Rf
