/- Walks: the text of columns. -/
import Derived.Test.YtfmjeggomphliaaGreatDoorTblA
import Derived.Deep.RegionHeld3
set_option linter.unusedVariables false
set_option linter.unusedSimpArgs false
namespace Go.Proofs.YtfmjeggomphliaaGreatDoor.Tb
open Go.RowKit Go Go.Sort Ba Va Sr

theorem infoStr : (Tryz.prog.info? 9).map (fun i => (i.zero, i.size, i.bytes)) = some (some (.string ⟨#[]⟩), 1, 16) := by kernel_rfl
/-- The types' words. -/
def wordL (T : Int) : List UInt8 := if T = 1 then [105, 110, 116] else [116, 101, 120, 116]
def wordB (T : Int) : ByteArray := ⟨(wordL T).toArray⟩
def colB (c : Col) : ByteArray := c.name ++ ⟨#[32]⟩ ++ wordB c.ty
def showC (cs : List Col) : List UInt8 := 40 :: (Lib.join (cs.map fun c => (colB c).data.toList) [44, 32] ++ [41])
/-- What all walks of tables lean on. -/
structure EnvT (w : World) : Prop where
  val : Va.Env w
  w1 : w.cell? ⟨0, 1, none⟩ = some (.string (wordB 1))
  w2 : w.cell? ⟨0, 2, none⟩ = some (.string (wordB 2))
theorem EnvT.below {w w' : World} (h : EnvT w) (hb : Below w.heap.size w w') : EnvT w' :=
  ⟨h.val.below hb, (hb.cell (by exact lt_of_cell h.w1)).trans h.w1, (hb.cell (by exact lt_of_cell h.w2)).trans h.w2⟩
theorem EnvT.word {w : World} (h : EnvT w) {T : Int} (hT : T = 1 ∨ T = 2) : w.cell? ⟨0, T.toNat, none⟩ = some (.string (wordB T)) := by
  rcases hT with rfl | rfl
  · exact h.w1
  · exact h.w2
theorem chkL_ty : ∀ (cs seen : List Col), chkL seen cs = 0 → ∀ c ∈ cs, (c.ty = 1 ∨ c.ty = 2) ∧ nameB c.name = true
  | [], _, _, c, hc => by cases hc
  | x :: cs, seen, h, c, hc => by
    unfold chkL at h
    split at h
    · exact absurd h (by decide)
    rename_i h1
    split at h
    · exact absurd h (by decide)
    rename_i h2
    split at h
    · exact absurd h (by decide)
    rcases List.mem_cons.1 hc with rfl | hc
    · exact ⟨by omega, by simpa using h1⟩
    · exact chkL_ty cs _ h c hc
theorem chk_ty {cs : List Col} (h : chk cs = 0) : (∀ c ∈ cs, (c.ty = 1 ∨ c.ty = 2) ∧ nameB c.name = true) ∧ 0 < cs.length ∧ cs.length ≤ 16 := by
  unfold chk at h
  split at h
  · exact absurd h (by decide)
  · exact ⟨chkL_ty cs [] h, by omega, by omega⟩
theorem name_size {s : ByteArray} (h : nameB s = true) : s.size ≤ 16 := by
  apply Classical.byContradiction
  intro hn
  rw [name_long (by omega)] at h; cases h
theorem tail_le (sep : List UInt8) (m : Nat) : ∀ r : List (List UInt8), (∀ x ∈ r, x.length ≤ m) → (Lib.joinTail sep r).length ≤ r.length * (m + sep.length)
  | [], _ => by simp [Lib.joinTail]
  | x :: r, h => by
    have ih := tail_le sep m r (fun y hy => h y (by simp [hy]))
    have hx := h x (by simp)
    have e : Lib.joinTail sep (x :: r) = (sep ++ x) ++ Lib.joinTail sep r := rfl
    rw [e, List.length_append, List.length_append, List.length_cons, Nat.succ_mul]
    omega
theorem join_le (sep : List UInt8) (m : Nat) : ∀ r : List (List UInt8), (∀ x ∈ r, x.length ≤ m) → (Lib.join r sep).length ≤ r.length * (m + sep.length)
  | [], _ => by simp [Lib.join_nil]
  | x :: r, h => by
    have ih := tail_le sep m r (fun y hy => h y (by simp [hy]))
    have hx := h x (by simp)
    rw [Lib.join_cons, List.length_append, List.length_cons, Nat.succ_mul]
    omega
theorem own_shape {w : World} {base : Nat} {e : TypeId} {v : Value} {n : Nat} {xs : List Value} (h : w.ownsRow base e 1 v n xs) (hn : 0 < n) :
    ∃ g cap, v = .slice (some ⟨g, 0, none⟩) n cap ∧ n ≤ cap ∧ cap ≤ maxLen ∧ g < w.heap.size ∧ ∀ (j : Nat) (u : Value), xs[j]? = some u → w.cell? ⟨g, j, none⟩ = some u := by
  rcases h.2 with ⟨_, h2⟩ | ⟨g, cap, cur, rfl, hg, hh, h3, h4, h5, h6⟩
  · omega
  · refine ⟨g, cap, rfl, h3, h4, (h.lt g rfl).2, fun j u hj => ?_⟩
    have := h.cells (g := g) rfl j u hj
    rwa [Addr.add_lit, Nat.zero_add] at this
set_option maxHeartbeats 3200000 in
set_option maxRecDepth 100000 in
theorem schShow_is (sv : Value) (cs : List Col) (w : World) (hs : ColsAt w sv cs) (hc : chk cs = 0) (hE : EnvT w) :
    Calls Tryz.prog 34 #[sv] w fun e w' => e = .returned (.string ⟨(showC cs).toArray⟩) ∧ Below w.heap.size w w' := by
  obtain ⟨hty, hp, h16⟩ := chk_ty hc
  obtain ⟨ao, cap, rfl, hcap, _⟩ := hs.len
  obtain ⟨i0, hi, hz0, hz1, hz2⟩ := info_parts infoStr
  obtain ⟨n, hn⟩ : ∃ n, cs.length = n := ⟨_, rfl⟩
  have HCK := Lib.hid (check_is hc w (by omega) (fun c hcc => by have := name_size (hty c hcc).2; omega) hs)
  have HS := Lib.hid hs
  have HTY := Lib.hid hty
  have HE := Lib.hid hE
  rw [hn] at hcap HS HCK hp h16 ⊢
  have HN := Lib.hid hn
  clear hs hn hc hty hE
  go_enter Tryz.func34, Tryz.ntmps34
  go_wp2_with (go_at_call 66; refine HCK.out.mono ?_; rintro e w0 ⟨rfl, hb0⟩)
  have HB0 := Lib.hid hb0
  clear hb0
  go_loopw [3, 11] (fun out i wr => ∃ k : Nat, k ≤ n ∧ i = .int .i64 k ∧ Hid (wr.ownsRow w.heap.size 9 1 out ((cs.take k).map fun c => Value.string (colB c)).length ((cs.take k).map fun c => Value.string (colB c))) ∧ Hid (Below w.heap.size w wr)) (fun out i _ => n - (intOf i).toNat)
  case atStart => exact ⟨0, Nat.zero_le _, rfl, World.ownsRow_nil _ _ _ _, HB0.out⟩
  case round =>
    obtain ⟨k, hk, rfl, HO, BW⟩ := hrel
    clear HB0 HCK
    by_cases hlt : k < n
    · obtain ⟨c, hc⟩ : ∃ c, cs[k]? = some c := ⟨_, List.getElem?_eq_getElem (by rw [HN.out]; exact hlt)⟩
      obtain ⟨hct, hcn⟩ := HTY.out c (List.mem_of_getElem? hc)
      have hcs := name_size hcn
      obtain ⟨b, o, rfl, hb, x0, x1⟩ := ColsAt.col HS.out hc
      replace x0 := (BW.out.cell (by exact hb)).trans x0
      replace x1 := (BW.out.cell (by exact hb)).trans x1
      obtain ⟨S, hS⟩ : ∃ S, c.name = S := ⟨_, rfl⟩
      obtain ⟨T, hT⟩ : ∃ T, c.ty = T := ⟨_, rfl⟩
      obtain ⟨WD, hWD⟩ : ∃ WD, wordB T = WD := ⟨_, rfl⟩
      have hsn : ((cs.take (k + 1)).map fun c => Value.string (colB c)) = ((cs.take k).map fun c => Value.string (colB c)) ++ [.string (S ++ ⟨#[32]⟩ ++ WD)] := by
        rw [take_one cs k c hc, List.map_append, List.map_cons, List.map_nil]
        unfold colB
        rw [hS, hT, hWD]
      have hln : ((cs.take k).map fun c => Value.string (colB c)).length = k := by rw [List.length_map, List.length_take, HN.out]; omega
      rw [hS] at x0 hcs
      rw [hT] at x1 hct
      have hE2 := (HE.out.below ⟨BW.out.os, BW.out.tape, BW.out.output, BW.out.size, BW.out.block⟩).word hct
      rw [hWD] at hE2
      have hw4 : WD.size ≤ 4 := by
        rw [← hWD]
        rcases hct with rfl | rfl <;> decide
      have HSN := Lib.hid hsn
      have HLN := Lib.hid hln
      have own1 := HO.out
      have hne : ∀ B, (B = wr.heap.size ∨ B < w.heap.size) → some B ≠ u3.ownBlock := fun B h e => by
        have := own1.lt B e.symm
        omega
      have hne1 := hne wr.heap.size (.inl rfl)
      have hg0 : 0 < w.heap.size := lt_of_cell HE.out.w1
      have hne0 := hne 0 (.inr hg0)
      obtain ⟨l, hl⟩ : ∃ l, ((cs.take k).map fun c => Value.string (colB c)) = l := ⟨_, rfl⟩
      rw [hl] at own1 HSN HLN
      have bw2 : Hid (Below w.heap.size w (wr.alloc (.cells #[.string S, .int .i64 T] 45))) := BW.out.alloc BW.out.size _
      have hT0 : (0 : Int) ≤ T := by omega
      have hT1 : T < 3 := by omega
      have n1 : ¬ 9223372036854775807 < S.size + 1 := by omega
      have n2 : ¬ 9223372036854775807 < S.size + 1 + WD.size := by omega
      clear hc hcn hct hS hT hWD hsn hln hl hne
      go_wp2_with fail
      obtain ⟨v0, v1, _, _⟩ := (Box.new wr [.string S, .int .i64 T] 45).two
      have gE := (World.cell?_alloc_past (.cells #[.string S, .int .i64 T] 45) _ _ (Nat.lt_of_lt_of_le hg0 BW.out.size)).trans hE2
      have own2 := Lib.hid (own1.alloc (.cells #[.string S, .int .i64 T] 45))
      clear own1 x0 x1 hE2 HO
      generalize hBX : wr.heap.size = BX at *
      generalize wr.alloc (.cells #[.string S, .int .i64 T] 45) = W1 at *
      have HM : Hid (∀ (W W' : World) (row : Option Nat), (W.cell? ⟨BX, 0, none⟩ = some (.string S) ∧ W.cell? ⟨BX, 1, none⟩ = some (.int .i64 T) ∧ W.cell? ⟨0, T.toNat, none⟩ = some (.string WD)) → W.grownBy W' row → some BX ≠ row → some 0 ≠ row → W'.cell? ⟨BX, 0, none⟩ = some (.string S) ∧ W'.cell? ⟨BX, 1, none⟩ = some (.int .i64 T) ∧ W'.cell? ⟨0, T.toNat, none⟩ = some (.string WD)) := fun W W' row h hg h1 h2 => ⟨hg.cell h.1 h1, hg.cell h.2.1 h1, hg.cell h.2.2 h2⟩
      refine wp_region_held_drew (S := fun W => W.cell? ⟨BX, 0, none⟩ = some (.string S) ∧ W.cell? ⟨BX, 1, none⟩ = some (.int .i64 T) ∧ W.cell? ⟨0, T.toNat, none⟩ = some (.string WD)) (by kernel_rfl) (by exact ⟨v0, v1, gE⟩) (fun hHeld => ?_)
      refine wpAnyH_take (i := 0) (v := ?v1x) rfl (by kernel_rfl) (by kernel_rfl) (by kernel_rfl) (fun _ _ _ h => h) (Or.inl ⟨by rfl, ?hy1x⟩) hHeld ?rest1x
      case hy1x => (intro w hSw; (try dsimp only at hSw); go_simp <;> with_reducible rfl)
      try simp only [Array.reduceGetElem, Act.put, List.setIfInBounds_toArray, List.set_cons_zero, List.set_cons_succ]
      refine wpAnyH_take (i := 1) (v := ?v2x) rfl (by kernel_rfl) (by kernel_rfl) (by kernel_rfl) (fun _ _ _ h => h) (Or.inl ⟨by rfl, ?hy2x⟩) hHeld ?rest2x
      case hy2x => (intro w hSw; (try dsimp only at hSw); go_simp <;> with_reducible rfl)
      try simp only [Array.reduceGetElem, Act.put, List.setIfInBounds_toArray, List.set_cons_zero, List.set_cons_succ]
      refine wpAnyH_take (i := 2) (v := ?v3x) rfl (by kernel_rfl) (by kernel_rfl) (by kernel_rfl) (fun _ _ _ h => h) (Or.inl ⟨by rfl, ?hy3x⟩) hHeld ?rest3x
      case hy3x => (intro w hSw; (try dsimp only at hSw); go_simp <;> with_reducible rfl)
      try simp only [Array.reduceGetElem, Act.put, List.setIfInBounds_toArray, List.set_cons_zero, List.set_cons_succ]
      refine wpAnyH_take (i := 3) (v := ?v4x) rfl (by kernel_rfl) (by kernel_rfl) (by kernel_rfl) (fun _ _ _ h => h) (Or.inl ⟨by rfl, ?hy4x⟩) hHeld ?rest4x
      case hy4x => (intro w hSw; (try dsimp only at hSw); go_simp <;> with_reducible rfl)
      try simp only [Array.reduceGetElem, Act.put, List.setIfInBounds_toArray, List.set_cons_zero, List.set_cons_succ]
      refine wpAnyH_take (i := 4) (v := ?v5x) rfl (by kernel_rfl) (by kernel_rfl) (by kernel_rfl) (fun _ _ _ h => h) (Or.inl ⟨by rfl, ?hy5x⟩) hHeld ?rest5x
      case hy5x => (intro w hSw; (try dsimp only at hSw); go_simp <;> with_reducible rfl)
      try simp only [Array.reduceGetElem, Act.put, List.setIfInBounds_toArray, List.set_cons_zero, List.set_cons_succ]
      refine wpAnyH_take (i := 5) (v := ?v6x) rfl (by kernel_rfl) (by kernel_rfl) (by kernel_rfl) (fun _ _ _ h => h) (Or.inl ⟨by rfl, ?hy6x⟩) hHeld ?rest6x
      case hy6x => (intro w hSw; (try dsimp only at hSw); go_simp <;> with_reducible rfl)
      try simp only [Array.reduceGetElem, Act.put, List.setIfInBounds_toArray, List.set_cons_zero, List.set_cons_succ]
      refine wpAnyH_take (i := 6) (v := ?v7x) rfl (by kernel_rfl) (by kernel_rfl) (by kernel_rfl) (fun _ _ _ h => h) (Or.inl ⟨by rfl, ?hy7x⟩) hHeld ?rest7x
      case hy7x => (intro w hSw; (try dsimp only at hSw); go_simp <;> with_reducible rfl)
      try simp only [Array.reduceGetElem, Act.put, List.setIfInBounds_toArray, List.set_cons_zero, List.set_cons_succ]
      refine wpAnyH_take (i := 7) (v := ?v8x) rfl (by kernel_rfl) (by kernel_rfl) (by kernel_rfl) (fun _ _ _ h => h) (Or.inl ⟨by rfl, ?hy8x⟩) hHeld ?rest8x
      case hy8x => (intro w hSw; (try dsimp only at hSw); go_simp <;> with_reducible rfl)
      try simp only [Array.reduceGetElem, Act.put, List.setIfInBounds_toArray, List.set_cons_zero, List.set_cons_succ]
      refine wpAnyH_take (i := 8) (v := ?v9x) rfl (by kernel_rfl) (by kernel_rfl) (by kernel_rfl) (fun _ _ _ h => h) (Or.inl ⟨by rfl, ?hy9x⟩) hHeld ?rest9x
      case hy9x => (intro w hSw; (try dsimp only at hSw); go_simp <;> with_reducible rfl)
      try simp only [Array.reduceGetElem, Act.put, List.setIfInBounds_toArray, List.set_cons_zero, List.set_cons_succ]
      refine wpAnyH_ready (rs := [9]) (by kernel_rfl) (by simp) ?_
      refine AllReadyH.cons rfl (fun K hK => ?_) AllReadyH.nil
      go_simp
      refine hK.out _ _ ?_ (fun hHeld2 => ?_)
      · exact HM.out _ _ _ hHeld (grown_of ((Below.refl _ W1.drew).alloc (Nat.le_refl _) _) none) (fun e => by cases e) (fun e => by cases e)
      clear hK K hHeld
      have hHeld := hHeld2
      clear hHeld2
      try simp only [Array.reduceGetElem, Act.put, List.setIfInBounds_toArray, List.set_cons_zero, List.set_cons_succ]
      refine wpAnyH_ready (rs := [10]) (by kernel_rfl) (by simp) ?_
      refine AllReadyH.cons rfl (fun K hK => ?_) AllReadyH.nil
      rw [if_pos (by rfl)]
      refine wp_append_own (W1.drew.alloc (.cells #[.string (S ++ ⟨#[32]⟩ ++ WD)] 9)) _ _ 59 (by rfl) w.heap.size 9 i0 _ 1 16 Tryz.underlying59 hi hz0 hz1 hz2 rfl (by decide) u3 l.length l (by rfl) (own2.out.alloc _) ⟨W1.drew.heap.size, 0, none⟩ 1 1 [.string (S ++ ⟨#[32]⟩ ++ WD)] (by rfl) rfl (fun j u hj => by match j, hj with | 0, hj => (simp at hj; subst hj; rw [Addr.add_lit]; exact World.cell?_alloc_at _ _ _ 0 rfl)) (by simp [Value.oneCell']) (by unfold maxLen; have := HLN.out; omega) (by have := HLN.out; omega) (by have := bw2.out.size; simp only [World.size_alloc]; exact Nat.le_succ_of_le this) ?_
      intro v2 w2 hown2 hgrow2 _
      refine hK.out _ _ ?_ (fun hHeld2 => ?_)
      · exact HM.out _ _ _ hHeld hgrow2 hne1 hne0
      clear hK K
      have hHeld1 := hHeld
      clear hHeld
      have hHeld := hHeld2
      clear hHeld2
      try simp only [Array.reduceGetElem, Act.put, List.setIfInBounds_toArray, List.set_cons_zero, List.set_cons_succ]
      refine wpAnyH_take (i := 11) (v := ?v10x) rfl (by kernel_rfl) (by kernel_rfl) (by kernel_rfl) (fun _ _ _ h => h) (Or.inl ⟨by rfl, ?hy10x⟩) hHeld ?rest10x
      case hy10x => (intro w hSw; (try dsimp only at hSw); go_simp <;> with_reducible rfl)
      try simp only [Array.reduceGetElem, Act.put, List.setIfInBounds_toArray, List.set_cons_zero, List.set_cons_succ]
      refine wpAnyH_done (by kernel_rfl) ?_ _
      go_wp2_with fail
      go_roundw
      case rel => exact ⟨k + 1, by omega, by go_num, (by rw [HSN.out, List.length_append]; exact hown2 : w2.ownsRow _ _ _ _ _ _), (bw2.out.drew).grown ⟨hgrow2.os, hgrow2.tape, hgrow2.output, by have := hgrow2.size; simp only [World.size_alloc] at this; exact Nat.le_of_succ_le this, fun j hj hne => by rw [hgrow2.block j (by simp only [World.size_alloc]; omega) hne, Below.heap_alloc _ _ j hj]⟩ bw2.out.size (fun j e => (own2.out.lt j e).1)⟩
      case measure => simp [intOf]; omega
    · obtain rfl : k = n := by omega
      have hxs : ((cs.take k).map fun c => Value.string (colB c)) = (cs.map colB).map Value.string := by rw [← HN.out, List.take_length, List.map_map]; rfl
      have hO := HO.out
      rw [hxs, List.length_map, List.length_map, HN.out] at hO
      have hpos : ((cs.map colB).map Value.string).length = k := by rw [List.length_map, List.length_map, HN.out]
      obtain ⟨g, gcap, e3, g1, g2, g3, g4⟩ := own_shape hO hp
      subst e3
      have hcells : ∀ (j : Nat) (x : ByteArray), (cs.map colB)[j]? = some x → wr.cell? ⟨g, 0 + j, none⟩ = some (.string x) := fun j x hx => by
        have := g4 j (.string x) (by rw [List.getElem?_map, hx]; rfl)
        rw [Nat.zero_add]; exact this
      have hjl : (Lib.join ((cs.map colB).map (·.data.toList)) [44, 32]).length ≤ 1000 := by
        have := join_le [44, 32] 21 ((cs.map colB).map (·.data.toList)) (fun x hx => by
          obtain ⟨y, hy, rfl⟩ := List.mem_map.1 hx
          obtain ⟨c, hc, rfl⟩ := List.mem_map.1 hy
          obtain ⟨h1, h2⟩ := HTY.out c hc
          have h3 := name_size h2
          show (colB c).data.toList.length ≤ 21
          rw [← size_list]
          unfold colB
          rw [ByteArray.size_append, ByteArray.size_append]
          have h4 : (wordB c.ty).size ≤ 4 := by rcases h1 with h | h <;> rw [h] <;> decide
          have h5 : (⟨#[32]⟩ : ByteArray).size = 1 := rfl
          omega)
        rw [List.length_map, List.length_map, HN.out] at this
        have h6 : k * (21 + [44, 32].length) ≤ 16 * 23 := Nat.mul_le_mul_right 23 h16
        exact Nat.le_trans this (Nat.le_trans h6 (by decide))
      have HJ := Lib.hid (Tryz.strings_Join g 0 gcap (cs.map colB) ⟨#[44, 32]⟩ wr hcells g3 (by rw [List.length_map, HN.out]; omega) (by rw [List.length_map, HN.out]; exact g1) (by have := hjl; show (Lib.join ((cs.map colB).map (·.data.toList)) [44, 32]).length ≤ _; omega))
      rw [List.length_map, HN.out] at HJ
      obtain ⟨J, hJ⟩ : ∃ J : ByteArray, (⟨(Lib.join ((cs.map colB).map (·.data.toList)) (⟨#[44, 32]⟩ : ByteArray).data.toList).toArray⟩ : ByteArray) = J := ⟨_, rfl⟩
      rw [hJ] at HJ
      have hJs : J.size ≤ 1000 := by rw [← hJ]; show ((Lib.join ((cs.map colB).map (·.data.toList)) [44, 32]).toArray).size ≤ 1000; rw [List.size_toArray]; exact hjl
      have n1 : ¬ 9223372036854775807 < 1 + J.size := by omega
      have n2 : ¬ 9223372036854775807 < 1 + J.size + 1 := by omega
      have HJJ := Lib.hid hJ
      clear hJ hjl hcells hO hxs hpos g4 HO
      go_wp2_with (go_at_call 67; refine HJ.out.mono ?_; rintro e w2 ⟨rfl, hb2⟩)
      go_ret
      refine ⟨ret_str ?_, two BW.out hb2⟩
      rw [← HJJ.out]
      unfold showC
      rw [List.map_map]
      simp [ByteArray.mk_append_mk]
      try rfl
end Go.Proofs.YtfmjeggomphliaaGreatDoor.Tb
