/- Walks: the fixed answer that each law asks for. -/
import Derived.Test.YtfmjeggomphliaaGreatDoorTblWalk12
set_option linter.unusedVariables false
set_option linter.unusedSimpArgs false
namespace Go.Proofs.YtfmjeggomphliaaGreatDoor.Tb
open Go.RowKit Go Go.Sort Ba Va Sr

theorem balloc (w : World) (o : Obj) : Below w.heap.size w (w.alloc o) := (Below.refl _ _).alloc (Nat.le_refl _) _
/-- A literal, read. -/
theorem SlAt.new (w : World) (T : TypeId) (sz H cap : Nat) (xs : List (List Value)) (cs : Array Value) (hH : w.heap.size = H) (hcs : cs.toList = xs.flatten) (hs : ∀ x ∈ xs, x.length = sz) (hc : xs.length ≤ cap) (hm : cap ≤ maxLen) :
    SlAt (w.alloc (.cells cs T)) (.slice (some ⟨H, 0, none⟩) xs.length cap) sz xs := by
  subst hH
  exact ⟨some ⟨w.heap.size, 0, none⟩, cap, rfl, hc, hm, fun i x hx => ⟨w.heap.size, 0, rfl, by simp, fun j hj => by rw [Nat.zero_add, World.cell?_alloc_at _ _ _ _ rfl, ← Array.getElem?_toList, hcs]; exact flat_at xs hs i x hx j hj⟩⟩
def v2 : Val := ⟨1, 2, ⟨#[]⟩⟩
def vN : Val := ⟨0, 0, ⟨#[]⟩⟩
def cs0 : List Col := [⟨⟨#[97]⟩, 1⟩]
def rs0 : List (List Val) := [[v2], [vN], [v2]]
theorem cols0 (w : World) : ColsAt (w.alloc (.cells #[.string ⟨#[97]⟩, .int .i64 1] 45)) (.slice (some ⟨w.heap.size, 0, none⟩) 1 1) cs0 :=
  SlAt.new w _ 2 _ 1 (cs0.map cc) _ rfl rfl (by intro x hx; simp [cs0] at hx; subst hx; rfl) (Nat.le_refl _) (by unfold maxLen; decide)
theorem row2 (w : World) : RowAt (w.alloc (.cells #[.int .i64 1, .int .i64 2, .string ⟨#[]⟩] 47)) (.slice (some ⟨w.heap.size, 0, none⟩) 1 1) [v2] :=
  SlAt.new w _ 3 _ 1 ([v2].map vc) _ rfl rfl (by intro x hx; simp at hx; subst hx; rfl) (Nat.le_refl _) (by unfold maxLen; decide)
theorem rowN (w : World) : RowAt (w.alloc (.cells #[.int .i64 0, .int .i64 0, .string ⟨#[]⟩] 47)) (.slice (some ⟨w.heap.size, 0, none⟩) 1 1) [vN] :=
  SlAt.new w _ 3 _ 1 ([vN].map vc) _ rfl rfl (by intro x hx; simp at hx; subst hx; rfl) (Nat.le_refl _) (by unfold maxLen; decide)
theorem rows0 (w : World) (H : Nat) (hH : w.heap.size = H) (a b c : Value) (ha : RowAt w a [v2]) (hb : RowAt w b [vN]) (hc : RowAt w c [v2]) : RowsAt (w.alloc (.cells #[a, b, c] 49)) (.slice (some ⟨H, 0, none⟩) 3 3) rs0 := by
  refine ⟨[a, b, c], rfl, SlAt.new w _ 1 H 3 ([a, b, c].map fun h => [h]) _ hH rfl (by intro x hx; simp at hx; rcases hx with rfl | rfl | rfl <;> rfl) (Nat.le_refl _) (by unfold maxLen; decide), fun i h r h1 h2 => ?_⟩
  match i, h1, h2 with
  | 0, h1, h2 => simp [rs0] at h1 h2; subst h1; subst h2; exact ha.below (balloc _ _)
  | 1, h1, h2 => simp [rs0] at h1 h2; subst h1; subst h2; exact hb.below (balloc _ _)
  | 2, h1, h2 => simp [rs0] at h1 h2; subst h1; subst h2; exact hc.below (balloc _ _)
  | i + 3, h1, h2 => simp at h1
theorem bc0 : BdC cs0 := ⟨by decide, fun c hc => by simp [cs0] at hc; subst hc; decide⟩
theorem br1 (x : Val) (h : x = v2 ∨ x = vN) : BdR [x] := ⟨by simp, fun y hy => by simp at hy; subst hy; rcases h with rfl | rfl <;> decide, fun y hy => by simp at hy; subst hy; rcases h with rfl | rfl <;> decide⟩
theorem br0 : BdRs rs0 := ⟨by decide, fun r hr => by
  simp [rs0] at hr
  rcases hr with rfl | rfl | rfl
  · exact br1 _ (.inl rfl)
  · exact br1 _ (.inr rfl)
  · exact br1 _ (.inl rfl)⟩
theorem err0 : err cs0 rs0 = 0 := by decide +kernel
theorem sort0 : sortR rs0 = [[vN], [v2], [v2]] := by rfl
theorem errT0 : errT cs0 (sortR rs0) = 0 := by rw [sort0]; decide +kernel
theorem show0 : showT cs0 (sortR rs0) = [40, 97, 32, 105, 110, 116, 41, 10, 110, 117, 108, 108, 10, 50, 10, 50, 10] := by rw [sort0]; decide +kernel
theorem cnt0 : cnt [v2] (sortR rs0) = 2 := by rw [sort0]; decide +kernel
theorem brS : BdRs (sortR rs0) := by
  rw [sort0]
  refine ⟨by decide, fun r hr => ?_⟩
  simp at hr
  rcases hr with rfl | rfl
  · exact br1 _ (.inr rfl)
  · exact br1 _ (.inl rfl)
set_option maxHeartbeats 3200000 in
set_option maxRecDepth 100000 in
theorem awake_any (w : World) (hE : EnvT w) :
    Calls Tryz.prog 5 #[] w fun e w' => e = .returned (.bool true) ∧ Below w.heap.size w w' := by
  have HE := Lib.hid hE
  have tok1 : True := trivial
  have tok2 : True := trivial
  clear hE
  go_enter Tryz.func5, Tryz.ntmps5
  go_wp2_with (first | (go_at_call 18; have _t := tok1; refine (of_any 2 _).mono ?_; rintro e w1 ⟨rfl, hb1⟩; have c1 := ((cols0 w).below hb1).below (balloc w1 (.cells #[.int .i64 1, .int .i64 2, .string ⟨#[]⟩] 47)); have r1 := row2 w1; have B1 := two (balloc w _) hb1; clear tok1) | (go_at_call 19; refine (null_any _).mono ?_; rintro e w2 ⟨rfl, hb2⟩; have c2 := (c1.below hb2).below (balloc w2 (.cells #[.int .i64 0, .int .i64 0, .string ⟨#[]⟩] 47)); have r12 := (r1.below hb2).below (balloc w2 (.cells #[.int .i64 0, .int .i64 0, .string ⟨#[]⟩] 47)); have r2 := rowN w2; have B2 := two (two B1 (balloc w1 _)) hb2; clear c1 r1) | (go_at_call 18; have _t := tok2; refine (of_any 2 _).mono ?_; rintro e w3 ⟨rfl, hb3⟩; have c3 := (c2.below hb3).below (balloc w3 (.cells #[.int .i64 1, .int .i64 2, .string ⟨#[]⟩] 47)); have r13 := (r12.below hb3).below (balloc w3 (.cells #[.int .i64 1, .int .i64 2, .string ⟨#[]⟩] 47)); have r23 := (r2.below hb3).below (balloc w3 (.cells #[.int .i64 1, .int .i64 2, .string ⟨#[]⟩] 47)); have r33 := row2 w3; have B3 := two (two (two B2 (balloc w2 _)) hb3) (balloc w3 (.cells #[.int .i64 1, .int .i64 2, .string ⟨#[]⟩] 47)); have RR := rows0 (w3.alloc (.cells #[.int .i64 1, .int .i64 2, .string ⟨#[]⟩] 47)) (w3.heap.size + 1) (by simp) _ _ _ r13 r23 r33; have c4 := c3.below (balloc (w3.alloc (.cells #[.int .i64 1, .int .i64 2, .string ⟨#[]⟩] 47)) (.cells #[.slice (some ⟨w1.heap.size, 0, none⟩) 1 1, .slice (some ⟨w2.heap.size, 0, none⟩) 1 1, .slice (some ⟨w3.heap.size, 0, none⟩) 1 1] 49)); clear c2 r12 r2 c3 r13 r23 r33) | (go_at_call 17; refine (make_is _ _ cs0 rs0 _ bc0 br0 c4 RR err0).mono ?_; rintro e w4 ⟨x1, x2, rfl, h1, h2, hb4⟩; have B4 := two (two B3 (balloc _ _)) hb4; obtain ⟨xa, xc, rfl, _, _⟩ := h1.len; obtain ⟨ya, yc, rfl, _, _⟩ := h2.len))
  clear c4 RR B1 B2 B3 hb1 hb2 hb3 hb4
  have BX := Box.new w4 [.slice xa cs0.length xc, .slice ya (sortR rs0).length yc] 27
  have HBW : Hid (Below w.heap.size w (w4.alloc (.cells #[.slice xa cs0.length xc, .slice ya (sortR rs0).length yc] 27))) := two B4 (balloc _ _)
  replace h1 := h1.below (balloc w4 (.cells #[.slice xa cs0.length xc, .slice ya (sortR rs0).length yc] 27))
  replace h2 := h2.below (balloc w4 (.cells #[.slice xa cs0.length xc, .slice ya (sortR rs0).length yc] 27))
  have e1 : (⟨(showT cs0 (sortR rs0)).toArray⟩ : ByteArray) = ⟨#[40, 97, 32, 105, 110, 116, 41, 10, 110, 117, 108, 108, 10, 50, 10, 50, 10]⟩ := by rw [show0]
  generalize (sortR rs0).length = rn at *
  generalize cs0.length = cn at *
  generalize w4.alloc (.cells #[.slice xa cn xc, .slice ya rn yc] 27) = W0 at *
  obtain ⟨z0, z1, _, _⟩ := BX.two
  have HSH : Hid (∀ W, Below W0.heap.size W0 W → Calls Tryz.prog 13 #[.agg #[.slice xa cn xc, .slice ya rn yc]] W fun e w' => e = .returned (.string ⟨#[40, 97, 32, 105, 110, 116, 41, 10, 110, 117, 108, 108, 10, 50, 10, 50, 10]⟩) ∧ Below W.heap.size W w') := fun W hb => by rw [← e1]; exact tshow_is _ _ cs0 (sortR rs0) W bc0 brS (h1.below hb) (h2.below hb) ((HE.out.below HBW.out).below hb) errT0
  have HCT : Hid (∀ W u, Below W0.heap.size W0 W → RowAt W u [v2] → Calls Tryz.prog 20 #[.agg #[.slice xa cn xc, .slice ya rn yc], u] W fun e w' => e = .returned (.int .i64 2) ∧ Below W.heap.size W w') := fun W u hb hu => by
    have := count_is (.slice xa cn xc) _ u (sortR rs0) [v2] W brS (by decide) (sort_sorted rs0) ⟨_, _, _, rfl⟩ (h2.below hb) hu
    rw [cnt0] at this
    exact this
  have HM : Hid (∀ W W', (W.cell? ⟨w4.heap.size, 0, none⟩ = some (.slice xa cn xc) ∧ W.cell? ⟨w4.heap.size, 1, none⟩ = some (.slice ya rn yc) ∧ Below W0.heap.size W0 W) → Below W.heap.size W W' → W'.cell? ⟨w4.heap.size, 0, none⟩ = some (.slice xa cn xc) ∧ W'.cell? ⟨w4.heap.size, 1, none⟩ = some (.slice ya rn yc) ∧ Below W0.heap.size W0 W') := fun W W' h hb => ⟨(hb.cell (by exact lt_of_cell h.1)).trans h.1, (hb.cell (by exact lt_of_cell h.2.1)).trans h.2.1, two h.2.2 hb⟩
  clear e1 h1 h2 BX B4
  refine wp_region_held_drew (S := fun W => W.cell? ⟨w4.heap.size, 0, none⟩ = some (.slice xa cn xc) ∧ W.cell? ⟨w4.heap.size, 1, none⟩ = some (.slice ya rn yc) ∧ Below W0.heap.size W0 W) (by kernel_rfl) (by exact ⟨z0, z1, Below.drew (Below.refl _ _)⟩) (fun hHeld => ?_)
  refine wpAnyH_take (i := 0) (v := ?v1x) rfl (by kernel_rfl) (by kernel_rfl) (by kernel_rfl) (fun _ _ _ h => h) (Or.inl ⟨by rfl, ?hy1x⟩) hHeld ?rest1x
  case hy1x => (intro w hSw; (try dsimp only at hSw); go_simp <;> with_reducible rfl)
  try simp only [Array.reduceGetElem, Act.put, List.setIfInBounds_toArray, List.set_cons_zero, List.set_cons_succ]
  refine wpAnyH_take (i := 1) (v := ?v2x) rfl (by kernel_rfl) (by kernel_rfl) (by kernel_rfl) (fun _ _ _ h => h) (Or.inl ⟨by rfl, ?hy2x⟩) hHeld ?rest2x
  case hy2x => (intro w hSw; (try dsimp only at hSw); go_simp <;> with_reducible rfl)
  try simp only [Array.reduceGetElem, Act.put, List.setIfInBounds_toArray, List.set_cons_zero, List.set_cons_succ]
  refine wpAnyH_take (i := 2) (v := ?v3x) rfl (by kernel_rfl) (by kernel_rfl) (by kernel_rfl) (fun _ _ _ h => h) (Or.inl ⟨by rfl, ?hy3x⟩) hHeld ?rest3x
  case hy3x => (intro w hSw; (try dsimp only at hSw); go_simp <;> with_reducible rfl)
  try simp only [Array.reduceGetElem, Act.put, List.setIfInBounds_toArray, List.set_cons_zero, List.set_cons_succ]
  refine wpAnyH_take (i := 3) (v := ?v4x) rfl (by kernel_rfl) (by kernel_rfl) (by kernel_rfl) (fun _ _ _ h => h) (Or.inl ⟨by rfl, ?hy4x⟩) hHeld ?rest4x
  case hy4x => (intro w hSw; (try dsimp only at hSw); go_simp <;> with_reducible rfl)
  try simp only [Array.reduceGetElem, Act.put, List.setIfInBounds_toArray, List.set_cons_zero, List.set_cons_succ]
  refine wpAnyH_ready (rs := [4]) (by kernel_rfl) (by simp) ?_
  refine AllReadyH.cons rfl (fun K hK => ?_) AllReadyH.nil
  go_simp
  go_at_call 13; refine (HSH.out _ hHeld.2.2).mono ?_; rintro e v1 ⟨rfl, hb⟩; go_wp2_with fail
  refine hK.out _ _ ?_ (fun hHeld2 => ?_)
  · exact HM.out _ _ hHeld hb
  clear hK K hHeld
  have hHeld := hHeld2
  clear hHeld2
  clear hb
  try simp only [Array.reduceGetElem, Act.put, List.setIfInBounds_toArray, List.set_cons_zero, List.set_cons_succ]
  refine wpAnyH_take (i := 5) (v := ?v5x) rfl (by kernel_rfl) (by kernel_rfl) (by kernel_rfl) (fun _ _ _ h => h) (Or.inl ⟨by rfl, ?hy5x⟩) hHeld ?rest5x
  case hy5x => (intro w hSw; (try dsimp only at hSw); go_simp <;> with_reducible rfl)
  try simp only [Array.reduceGetElem, Act.put, List.setIfInBounds_toArray, List.set_cons_zero, List.set_cons_succ]
  refine wpAnyH_take (i := 6) (v := ?v6x) rfl (by kernel_rfl) (by kernel_rfl) (by kernel_rfl) (fun _ _ _ h => h) (Or.inl ⟨by rfl, ?hy6x⟩) hHeld ?rest6x
  case hy6x => (intro w hSw; (try dsimp only at hSw); go_simp <;> with_reducible rfl)
  try simp only [Array.reduceGetElem, Act.put, List.setIfInBounds_toArray, List.set_cons_zero, List.set_cons_succ]
  refine wpAnyH_take (i := 7) (v := ?v7x) rfl (by kernel_rfl) (by kernel_rfl) (by kernel_rfl) (fun _ _ _ h => h) (Or.inl ⟨by rfl, ?hy7x⟩) hHeld ?rest7x
  case hy7x => (intro w hSw; (try dsimp only at hSw); go_simp <;> with_reducible rfl)
  try simp only [Array.reduceGetElem, Act.put, List.setIfInBounds_toArray, List.set_cons_zero, List.set_cons_succ]
  refine wpAnyH_take (i := 8) (v := ?v8x) rfl (by kernel_rfl) (by kernel_rfl) (by kernel_rfl) (fun _ _ _ h => h) (Or.inl ⟨by rfl, ?hy8x⟩) hHeld ?rest8x
  case hy8x => (intro w hSw; (try dsimp only at hSw); go_simp <;> with_reducible rfl)
  try simp only [Array.reduceGetElem, Act.put, List.setIfInBounds_toArray, List.set_cons_zero, List.set_cons_succ]
  refine wpAnyH_ready (rs := [9]) (by kernel_rfl) (by simp) ?_
  refine AllReadyH.cons rfl (fun K hK => ?_) AllReadyH.nil
  go_simp
  go_at_call 18; refine (of_any 2 _).mono ?_; rintro e v2 ⟨rfl, hb⟩; go_wp2_with fail
  refine hK.out _ _ ?_ (fun hHeld2 => ?_)
  · exact HM.out _ _ hHeld hb
  clear hK K hHeld
  have hHeld := hHeld2
  clear hHeld2
  clear hb
  try simp only [Array.reduceGetElem, Act.put, List.setIfInBounds_toArray, List.set_cons_zero, List.set_cons_succ]
  refine wpAnyH_ready (rs := [10]) (by kernel_rfl) (by simp) ?_
  refine AllReadyH.cons rfl (fun K hK => ?_) AllReadyH.nil
  go_simp
  refine hK.out _ _ ?_ (fun hHeld2 => ?_)
  · exact HM.out _ _ hHeld (balloc v2 (.cells #[.int .i64 1, .int .i64 2, .string ⟨#[]⟩] 47))
  clear hK K hHeld
  have hHeld := hHeld2
  clear hHeld2
  try simp only [Array.reduceGetElem, Act.put, List.setIfInBounds_toArray, List.set_cons_zero, List.set_cons_succ]
  refine wpAnyH_ready (rs := [11]) (by kernel_rfl) (by simp) ?_
  refine AllReadyH.cons rfl (fun K hK => ?_) AllReadyH.nil
  go_simp
  go_at_call 20; refine (HCT.out _ _ hHeld.2.2 (row2 v2)).mono ?_; rintro e v4 ⟨rfl, hb⟩; go_wp2_with fail
  refine hK.out _ _ ?_ (fun hHeld2 => ?_)
  · exact HM.out _ _ hHeld hb
  clear hK K hHeld
  have hHeld := hHeld2
  clear hHeld2
  clear hb
  try simp only [Array.reduceGetElem, Act.put, List.setIfInBounds_toArray, List.set_cons_zero, List.set_cons_succ]
  refine wpAnyH_take (i := 12) (v := ?v9x) rfl (by kernel_rfl) (by kernel_rfl) (by kernel_rfl) (fun _ _ _ h => h) (Or.inl ⟨by rfl, ?hy9x⟩) hHeld ?rest9x
  case hy9x => (intro w hSw; (try dsimp only at hSw); go_simp <;> with_reducible rfl)
  try simp only [Array.reduceGetElem, Act.put, List.setIfInBounds_toArray, List.set_cons_zero, List.set_cons_succ]
  refine wpAnyH_take (i := 13) (v := ?v10x) rfl (by kernel_rfl) (by kernel_rfl) (by kernel_rfl) (fun _ _ _ h => h) (Or.inl ⟨by rfl, ?hy10x⟩) hHeld ?rest10x
  case hy10x => (intro w hSw; (try dsimp only at hSw); go_simp <;> with_reducible rfl)
  try simp only [Array.reduceGetElem, Act.put, List.setIfInBounds_toArray, List.set_cons_zero, List.set_cons_succ]
  refine wpAnyH_take (i := 14) (v := ?v11x) rfl (by kernel_rfl) (by kernel_rfl) (by kernel_rfl) (fun _ _ _ h => h) (Or.inl ⟨by rfl, ?hy11x⟩) hHeld ?rest11x
  case hy11x => (intro w hSw; (try dsimp only at hSw); go_simp <;> with_reducible rfl)
  try simp only [Array.reduceGetElem, Act.put, List.setIfInBounds_toArray, List.set_cons_zero, List.set_cons_succ]
  refine wpAnyH_done (by kernel_rfl) ?_ _
  go_wp2_with fail
  go_ret
  exact ⟨rfl, (HBW.out).trans (hHeld.2.2.mono HBW.out.size)⟩
end Go.Proofs.YtfmjeggomphliaaGreatDoor.Tb
