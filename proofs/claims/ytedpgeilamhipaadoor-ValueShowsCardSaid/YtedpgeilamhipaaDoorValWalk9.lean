/- Walks: the order of values; the document's word on it. -/
import Derived.Test.YtedpgeilamhipaaDoorValWalk8
set_option linter.unusedVariables false
set_option linter.unusedSimpArgs false
namespace Go.Proofs.YtedpgeilamhipaaDoor.Va
open Go.RowKit Go Ba

/-- The first of three that isn't 0. -/
def pick3 (x y z : Int) : Int := if x ≠ 0 then x else if y ≠ 0 then y else z
theorem or_any (x y z : Int) (B : Nat) (w : World) (h0 : w.cell? ⟨B, 0, none⟩ = some (.int .i64 x)) (h1 : w.cell? ⟨B, 1, none⟩ = some (.int .i64 y)) (h2 : w.cell? ⟨B, 2, none⟩ = some (.int .i64 z)) :
    Calls Tryd.prog 34 #[.slice (some ⟨B, 0, none⟩) 3 3] w fun e w' => e = .returned (.int .i64 (pick3 x y z)) ∧ w' = w := by
  by_cases gx : x = 0
  · by_cases gy : y = 0
    · subst gx; subst gy
      have P : pick3 0 0 z = z := by simp [pick3]
      rw [P]
      by_cases gz : z = 0
      · subst gz
        go_enter Tryd.func34, Tryd.ntmps34
        go_wp2_with fail
        go_loop [8] (fun i => i = .int .i64 0 ∨ i = .int .i64 1 ∨ i = .int .i64 2 ∨ i = .int .i64 3) (fun i => 3 - (intOf i).toNat)
        case atStart => exact .inl rfl
        case round =>
          rcases hrel with rfl | rfl | rfl | rfl
          · go_wp2_with fail
            go_round
            case rel => first | exact .inl rfl | exact .inr rfl | exact .inr (.inl rfl) | exact .inr (.inr rfl) | exact .inr (.inr (.inl rfl)) | exact .inr (.inr (.inr rfl))
            case measure => simp [intOf]
          · go_wp2_with fail
            go_round
            case rel => first | exact .inl rfl | exact .inr rfl | exact .inr (.inl rfl) | exact .inr (.inr rfl) | exact .inr (.inr (.inl rfl)) | exact .inr (.inr (.inr rfl))
            case measure => simp [intOf]
          · go_wp2_with fail
            go_round
            case rel => first | exact .inl rfl | exact .inr rfl | exact .inr (.inl rfl) | exact .inr (.inr rfl) | exact .inr (.inr (.inl rfl)) | exact .inr (.inr (.inr rfl))
            case measure => simp [intOf]
          · go_wp2_with fail
            go_ret
            exact ⟨rfl, rfl⟩
      · have dz : (z != 0) = true := by simpa using gz
        go_enter Tryd.func34, Tryd.ntmps34
        go_wp2_with fail
        go_loop [8] (fun i => i = .int .i64 0 ∨ i = .int .i64 1 ∨ i = .int .i64 2) (fun i => 3 - (intOf i).toNat)
        case atStart => exact .inl rfl
        case round =>
          rcases hrel with rfl | rfl | rfl
          · go_wp2_with fail
            go_round
            case rel => first | exact .inl rfl | exact .inr rfl | exact .inr (.inl rfl) | exact .inr (.inr rfl) | exact .inr (.inr (.inl rfl)) | exact .inr (.inr (.inr rfl))
            case measure => simp [intOf]
          · go_wp2_with fail
            go_round
            case rel => first | exact .inl rfl | exact .inr rfl | exact .inr (.inl rfl) | exact .inr (.inr rfl) | exact .inr (.inr (.inl rfl)) | exact .inr (.inr (.inr rfl))
            case measure => simp [intOf]
          · go_wp2_with fail
            go_ret
            exact ⟨rfl, rfl⟩
    · subst gx
      have P : pick3 0 y z = y := by simp [pick3, gy]
      rw [P]
      have dy : (y != 0) = true := by simpa using gy
      go_enter Tryd.func34, Tryd.ntmps34
      go_wp2_with fail
      go_loop [8] (fun i => i = .int .i64 0 ∨ i = .int .i64 1) (fun i => 3 - (intOf i).toNat)
      case atStart => exact .inl rfl
      case round =>
        rcases hrel with rfl | rfl
        · go_wp2_with fail
          go_round
          case rel => first | exact .inl rfl | exact .inr rfl | exact .inr (.inl rfl) | exact .inr (.inr rfl) | exact .inr (.inr (.inl rfl)) | exact .inr (.inr (.inr rfl))
          case measure => simp [intOf]
        · go_wp2_with fail
          go_ret
          exact ⟨rfl, rfl⟩
  · have P : pick3 x y z = x := by simp [pick3, gx]
    rw [P]
    have dx : (x != 0) = true := by simpa using gx
    go_enter Tryd.func34, Tryd.ntmps34
    go_wp2_with fail
    go_loop [8] (fun i => i = .int .i64 0) (fun i => 3 - (intOf i).toNat)
    case atStart => rfl
    case round =>
      subst hrel
      go_wp2_with fail
      go_ret
      exact ⟨rfl, rfl⟩

theorem ci {a b x : Int} (h : Lib.compareInt a b = x) (w : World) : Calls Tryd.prog 35 #[.int .i64 a, .int .i64 b] w fun e w' => e = .returned (.int .i64 x) ∧ w' = w := by
  rw [← h]; exact Tryd.cmp_Compare_int a b w
theorem cs {a b : ByteArray} {x : Int} (h : Lib.compareBytes a.data.toList b.data.toList = x) (w : World) : Calls Tryd.prog 36 #[.string a, .string b] w fun e w' => e = .returned (.int .i64 x) ∧ w' = w := by
  rw [← h]; exact Tryd.strings_Compare a b w
/-- The order of two values. -/
def cmpV (ka na : Int) (sa : ByteArray) (kb nb : Int) (sb : ByteArray) : Int := pick3 (Lib.compareInt ka kb) (Lib.compareInt na nb) (Lib.compareBytes sa.data.toList sb.data.toList)
set_option maxRecDepth 100000 in
set_option maxHeartbeats 1600000 in
theorem cmp_any (ka na : Int) (sa : ByteArray) (kb nb : Int) (sb : ByteArray) (w : World) :
    Calls Tryd.prog 23 #[.agg #[.int .i64 ka, .int .i64 na, .string sa], .agg #[.int .i64 kb, .int .i64 nb, .string sb]] w fun e w' => e = .returned (.int .i64 (cmpV ka na sa kb nb sb)) ∧ Below w.heap.size w w' := by
  obtain ⟨x, hx⟩ : ∃ x, Lib.compareInt ka kb = x := ⟨_, rfl⟩
  obtain ⟨y, hy⟩ : ∃ y, Lib.compareInt na nb = y := ⟨_, rfl⟩
  obtain ⟨z, hz⟩ : ∃ z, Lib.compareBytes sa.data.toList sb.data.toList = z := ⟨_, rfl⟩
  have P : cmpV ka na sa kb nb sb = pick3 x y z := by unfold cmpV; rw [hx, hy, hz]
  rw [P]
  have b0 : Below w.heap.size w ((w.alloc (.cells #[.int .i64 ka, .int .i64 na, .string sa] 23)).alloc (.cells #[.int .i64 kb, .int .i64 nb, .string sb] 23)) := by go_grown
  have HM : Hid (∀ W, Below ((w.alloc (.cells #[.int .i64 ka, .int .i64 na, .string sa] 23)).alloc (.cells #[.int .i64 kb, .int .i64 nb, .string sb] 23)).heap.size ((w.alloc (.cells #[.int .i64 ka, .int .i64 na, .string sa] 23)).alloc (.cells #[.int .i64 kb, .int .i64 nb, .string sb] 23)) W → W.cell? ⟨w.heap.size, 0, none⟩ = some (.int .i64 ka) ∧ W.cell? ⟨w.heap.size, 1, none⟩ = some (.int .i64 na) ∧ W.cell? ⟨w.heap.size, 2, none⟩ = some (.string sa) ∧ W.cell? ⟨w.heap.size + 1, 0, none⟩ = some (.int .i64 kb) ∧ W.cell? ⟨w.heap.size + 1, 1, none⟩ = some (.int .i64 nb) ∧ W.cell? ⟨w.heap.size + 1, 2, none⟩ = some (.string sb) ∧ Below ((w.alloc (.cells #[.int .i64 ka, .int .i64 na, .string sa] 23)).alloc (.cells #[.int .i64 kb, .int .i64 nb, .string sb] 23)).heap.size ((w.alloc (.cells #[.int .i64 ka, .int .i64 na, .string sa] 23)).alloc (.cells #[.int .i64 kb, .int .i64 nb, .string sb] 23)) W) := fun W h =>
    ⟨(h.cell (by simp; omega)).trans (by simp), (h.cell (by simp; omega)).trans (by simp), (h.cell (by simp; omega)).trans (by simp), (h.cell (by simp)).trans (by simp), (h.cell (by simp)).trans (by simp), (h.cell (by simp)).trans (by simp), h⟩
  have HX := Lib.hid hx
  have HY := Lib.hid hy
  have HZ := Lib.hid hz
  clear hx hy hz P
  go_enter Tryd.func23, Tryd.ntmps23
  go_wp2_with fail
  refine wp_region_held_drew (S := (fun W => W.cell? ⟨w.heap.size, 0, none⟩ = some (.int .i64 ka) ∧ W.cell? ⟨w.heap.size, 1, none⟩ = some (.int .i64 na) ∧ W.cell? ⟨w.heap.size, 2, none⟩ = some (.string sa) ∧ W.cell? ⟨w.heap.size + 1, 0, none⟩ = some (.int .i64 kb) ∧ W.cell? ⟨w.heap.size + 1, 1, none⟩ = some (.int .i64 nb) ∧ W.cell? ⟨w.heap.size + 1, 2, none⟩ = some (.string sb) ∧ Below ((w.alloc (.cells #[.int .i64 ka, .int .i64 na, .string sa] 23)).alloc (.cells #[.int .i64 kb, .int .i64 nb, .string sb] 23)).heap.size ((w.alloc (.cells #[.int .i64 ka, .int .i64 na, .string sa] 23)).alloc (.cells #[.int .i64 kb, .int .i64 nb, .string sb] 23)) W)) (by kernel_rfl) (by exact HM.out _ (Below.drew (by go_grown))) (fun hHeld => ?_)
  first
  | (refine wpAnyH_take (i := 0) (v := ?v1x0) rfl (by kernel_rfl) (by kernel_rfl) (by kernel_rfl) (fun _ _ _ h => h) (Or.inl ⟨by rfl, ?hy1x0⟩) hHeld ?rest1x0
     case hy1x0 => (intro w hSw; (try dsimp only at hSw); go_simp <;> with_reducible rfl)
     try simp only [Array.reduceGetElem, Act.put, List.setIfInBounds_toArray, List.set_cons_zero, List.set_cons_succ])
  | (refine wpAnyH_take (i := 0) rfl (by kernel_rfl) (by kernel_rfl) (by kernel_rfl) (fun _ _ _ h => h) (Or.inr ⟨by rfl, rfl⟩) hHeld ?rest1x0
     try simp only [Array.reduceGetElem, Act.put, List.setIfInBounds_toArray, List.set_cons_zero, List.set_cons_succ])
  first
  | (refine wpAnyH_take (i := 1) (v := ?v1x1) rfl (by kernel_rfl) (by kernel_rfl) (by kernel_rfl) (fun _ _ _ h => h) (Or.inl ⟨by rfl, ?hy1x1⟩) hHeld ?rest1x1
     case hy1x1 => (intro w hSw; (try dsimp only at hSw); go_simp <;> with_reducible rfl)
     try simp only [Array.reduceGetElem, Act.put, List.setIfInBounds_toArray, List.set_cons_zero, List.set_cons_succ])
  | (refine wpAnyH_take (i := 1) rfl (by kernel_rfl) (by kernel_rfl) (by kernel_rfl) (fun _ _ _ h => h) (Or.inr ⟨by rfl, rfl⟩) hHeld ?rest1x1
     try simp only [Array.reduceGetElem, Act.put, List.setIfInBounds_toArray, List.set_cons_zero, List.set_cons_succ])
  first
  | (refine wpAnyH_take (i := 2) (v := ?v1x2) rfl (by kernel_rfl) (by kernel_rfl) (by kernel_rfl) (fun _ _ _ h => h) (Or.inl ⟨by rfl, ?hy1x2⟩) hHeld ?rest1x2
     case hy1x2 => (intro w hSw; (try dsimp only at hSw); go_simp <;> with_reducible rfl)
     try simp only [Array.reduceGetElem, Act.put, List.setIfInBounds_toArray, List.set_cons_zero, List.set_cons_succ])
  | (refine wpAnyH_take (i := 2) rfl (by kernel_rfl) (by kernel_rfl) (by kernel_rfl) (fun _ _ _ h => h) (Or.inr ⟨by rfl, rfl⟩) hHeld ?rest1x2
     try simp only [Array.reduceGetElem, Act.put, List.setIfInBounds_toArray, List.set_cons_zero, List.set_cons_succ])
  first
  | (refine wpAnyH_take (i := 3) (v := ?v1x3) rfl (by kernel_rfl) (by kernel_rfl) (by kernel_rfl) (fun _ _ _ h => h) (Or.inl ⟨by rfl, ?hy1x3⟩) hHeld ?rest1x3
     case hy1x3 => (intro w hSw; (try dsimp only at hSw); go_simp <;> with_reducible rfl)
     try simp only [Array.reduceGetElem, Act.put, List.setIfInBounds_toArray, List.set_cons_zero, List.set_cons_succ])
  | (refine wpAnyH_take (i := 3) rfl (by kernel_rfl) (by kernel_rfl) (by kernel_rfl) (fun _ _ _ h => h) (Or.inr ⟨by rfl, rfl⟩) hHeld ?rest1x3
     try simp only [Array.reduceGetElem, Act.put, List.setIfInBounds_toArray, List.set_cons_zero, List.set_cons_succ])
  first
  | (refine wpAnyH_take (i := 5) (v := ?v1x5) rfl (by kernel_rfl) (by kernel_rfl) (by kernel_rfl) (fun _ _ _ h => h) (Or.inl ⟨by rfl, ?hy1x5⟩) hHeld ?rest1x5
     case hy1x5 => (intro w hSw; (try dsimp only at hSw); go_simp <;> with_reducible rfl)
     try simp only [Array.reduceGetElem, Act.put, List.setIfInBounds_toArray, List.set_cons_zero, List.set_cons_succ])
  | (refine wpAnyH_take (i := 5) rfl (by kernel_rfl) (by kernel_rfl) (by kernel_rfl) (fun _ _ _ h => h) (Or.inr ⟨by rfl, rfl⟩) hHeld ?rest1x5
     try simp only [Array.reduceGetElem, Act.put, List.setIfInBounds_toArray, List.set_cons_zero, List.set_cons_succ])
  first
  | (refine wpAnyH_take (i := 6) (v := ?v1x6) rfl (by kernel_rfl) (by kernel_rfl) (by kernel_rfl) (fun _ _ _ h => h) (Or.inl ⟨by rfl, ?hy1x6⟩) hHeld ?rest1x6
     case hy1x6 => (intro w hSw; (try dsimp only at hSw); go_simp <;> with_reducible rfl)
     try simp only [Array.reduceGetElem, Act.put, List.setIfInBounds_toArray, List.set_cons_zero, List.set_cons_succ])
  | (refine wpAnyH_take (i := 6) rfl (by kernel_rfl) (by kernel_rfl) (by kernel_rfl) (fun _ _ _ h => h) (Or.inr ⟨by rfl, rfl⟩) hHeld ?rest1x6
     try simp only [Array.reduceGetElem, Act.put, List.setIfInBounds_toArray, List.set_cons_zero, List.set_cons_succ])
  first
  | (refine wpAnyH_take (i := 7) (v := ?v1x7) rfl (by kernel_rfl) (by kernel_rfl) (by kernel_rfl) (fun _ _ _ h => h) (Or.inl ⟨by rfl, ?hy1x7⟩) hHeld ?rest1x7
     case hy1x7 => (intro w hSw; (try dsimp only at hSw); go_simp <;> with_reducible rfl)
     try simp only [Array.reduceGetElem, Act.put, List.setIfInBounds_toArray, List.set_cons_zero, List.set_cons_succ])
  | (refine wpAnyH_take (i := 7) rfl (by kernel_rfl) (by kernel_rfl) (by kernel_rfl) (fun _ _ _ h => h) (Or.inr ⟨by rfl, rfl⟩) hHeld ?rest1x7
     try simp only [Array.reduceGetElem, Act.put, List.setIfInBounds_toArray, List.set_cons_zero, List.set_cons_succ])
  first
  | (refine wpAnyH_take (i := 8) (v := ?v1x8) rfl (by kernel_rfl) (by kernel_rfl) (by kernel_rfl) (fun _ _ _ h => h) (Or.inl ⟨by rfl, ?hy1x8⟩) hHeld ?rest1x8
     case hy1x8 => (intro w hSw; (try dsimp only at hSw); go_simp <;> with_reducible rfl)
     try simp only [Array.reduceGetElem, Act.put, List.setIfInBounds_toArray, List.set_cons_zero, List.set_cons_succ])
  | (refine wpAnyH_take (i := 8) rfl (by kernel_rfl) (by kernel_rfl) (by kernel_rfl) (fun _ _ _ h => h) (Or.inr ⟨by rfl, rfl⟩) hHeld ?rest1x8
     try simp only [Array.reduceGetElem, Act.put, List.setIfInBounds_toArray, List.set_cons_zero, List.set_cons_succ])
  first
  | (refine wpAnyH_take (i := 10) (v := ?v1x10) rfl (by kernel_rfl) (by kernel_rfl) (by kernel_rfl) (fun _ _ _ h => h) (Or.inl ⟨by rfl, ?hy1x10⟩) hHeld ?rest1x10
     case hy1x10 => (intro w hSw; (try dsimp only at hSw); go_simp <;> with_reducible rfl)
     try simp only [Array.reduceGetElem, Act.put, List.setIfInBounds_toArray, List.set_cons_zero, List.set_cons_succ])
  | (refine wpAnyH_take (i := 10) rfl (by kernel_rfl) (by kernel_rfl) (by kernel_rfl) (fun _ _ _ h => h) (Or.inr ⟨by rfl, rfl⟩) hHeld ?rest1x10
     try simp only [Array.reduceGetElem, Act.put, List.setIfInBounds_toArray, List.set_cons_zero, List.set_cons_succ])
  first
  | (refine wpAnyH_take (i := 11) (v := ?v1x11) rfl (by kernel_rfl) (by kernel_rfl) (by kernel_rfl) (fun _ _ _ h => h) (Or.inl ⟨by rfl, ?hy1x11⟩) hHeld ?rest1x11
     case hy1x11 => (intro w hSw; (try dsimp only at hSw); go_simp <;> with_reducible rfl)
     try simp only [Array.reduceGetElem, Act.put, List.setIfInBounds_toArray, List.set_cons_zero, List.set_cons_succ])
  | (refine wpAnyH_take (i := 11) rfl (by kernel_rfl) (by kernel_rfl) (by kernel_rfl) (fun _ _ _ h => h) (Or.inr ⟨by rfl, rfl⟩) hHeld ?rest1x11
     try simp only [Array.reduceGetElem, Act.put, List.setIfInBounds_toArray, List.set_cons_zero, List.set_cons_succ])
  first
  | (refine wpAnyH_take (i := 12) (v := ?v1x12) rfl (by kernel_rfl) (by kernel_rfl) (by kernel_rfl) (fun _ _ _ h => h) (Or.inl ⟨by rfl, ?hy1x12⟩) hHeld ?rest1x12
     case hy1x12 => (intro w hSw; (try dsimp only at hSw); go_simp <;> with_reducible rfl)
     try simp only [Array.reduceGetElem, Act.put, List.setIfInBounds_toArray, List.set_cons_zero, List.set_cons_succ])
  | (refine wpAnyH_take (i := 12) rfl (by kernel_rfl) (by kernel_rfl) (by kernel_rfl) (fun _ _ _ h => h) (Or.inr ⟨by rfl, rfl⟩) hHeld ?rest1x12
     try simp only [Array.reduceGetElem, Act.put, List.setIfInBounds_toArray, List.set_cons_zero, List.set_cons_succ])
  first
  | (refine wpAnyH_take (i := 13) (v := ?v1x13) rfl (by kernel_rfl) (by kernel_rfl) (by kernel_rfl) (fun _ _ _ h => h) (Or.inl ⟨by rfl, ?hy1x13⟩) hHeld ?rest1x13
     case hy1x13 => (intro w hSw; (try dsimp only at hSw); go_simp <;> with_reducible rfl)
     try simp only [Array.reduceGetElem, Act.put, List.setIfInBounds_toArray, List.set_cons_zero, List.set_cons_succ])
  | (refine wpAnyH_take (i := 13) rfl (by kernel_rfl) (by kernel_rfl) (by kernel_rfl) (fun _ _ _ h => h) (Or.inr ⟨by rfl, rfl⟩) hHeld ?rest1x13
     try simp only [Array.reduceGetElem, Act.put, List.setIfInBounds_toArray, List.set_cons_zero, List.set_cons_succ])
  refine wpAnyH_ready (rs := [4]) (by kernel_rfl) (by simp) ?_
  refine AllReadyH.cons rfl (fun K hK => ?_) AllReadyH.nil
  go_simp
  go_at_call 35; refine (ci HX.out _).mono ?_; rintro e w' ⟨rfl, rfl⟩; go_wp2_with fail
  refine hK.out _ _ ?_ (fun hHeld2 => ?_)
  · exact hHeld
  clear hK K hHeld
  have hHeld := hHeld2
  clear hHeld2
  try simp only [Array.reduceGetElem, Act.put, List.setIfInBounds_toArray, List.set_cons_zero, List.set_cons_succ]
  refine wpAnyH_ready (rs := [9]) (by kernel_rfl) (by simp) ?_
  refine AllReadyH.cons rfl (fun K hK => ?_) AllReadyH.nil
  go_simp
  go_at_call 35; refine (ci HY.out _).mono ?_; rintro e w' ⟨rfl, rfl⟩; go_wp2_with fail
  refine hK.out _ _ ?_ (fun hHeld2 => ?_)
  · exact hHeld
  clear hK K hHeld
  have hHeld := hHeld2
  clear hHeld2
  try simp only [Array.reduceGetElem, Act.put, List.setIfInBounds_toArray, List.set_cons_zero, List.set_cons_succ]
  refine wpAnyH_ready (rs := [14]) (by kernel_rfl) (by simp) ?_
  refine AllReadyH.cons rfl (fun K hK => ?_) AllReadyH.nil
  go_simp
  go_at_call 36; refine (cs HZ.out _).mono ?_; rintro e w' ⟨rfl, rfl⟩; go_wp2_with fail
  refine hK.out _ _ ?_ (fun hHeld2 => ?_)
  · exact hHeld
  clear hK K hHeld
  have hHeld := hHeld2
  clear hHeld2
  try simp only [Array.reduceGetElem, Act.put, List.setIfInBounds_toArray, List.set_cons_zero, List.set_cons_succ]
  refine wpAnyH_ready (rs := [15]) (by kernel_rfl) (by simp) ?_
  refine AllReadyH.cons rfl (fun K hK => ?_) AllReadyH.nil
  go_simp
  skip
  refine hK.out _ _ ?_ (fun hHeld2 => ?_)
  · exact HM.out _ (hHeld.2.2.2.2.2.2.alloc hHeld.2.2.2.2.2.2.size _)
  clear hK K hHeld
  have hHeld := hHeld2
  clear hHeld2
  try simp only [Array.reduceGetElem, Act.put, List.setIfInBounds_toArray, List.set_cons_zero, List.set_cons_succ]
  refine wpAnyH_ready (rs := [16]) (by kernel_rfl) (by simp) ?_
  refine AllReadyH.cons rfl (fun K hK => ?_) AllReadyH.nil
  go_simp
  go_at_call 34; refine (or_any x y z _ _ (by simp [World.cell?_alloc_at]) (by simp [World.cell?_alloc_at]) (by simp [World.cell?_alloc_at])).mono ?_; rintro e w' ⟨rfl, rfl⟩; go_wp2_with fail
  refine hK.out _ _ ?_ (fun hHeld2 => ?_)
  · exact hHeld
  clear hK K hHeld
  have hHeld := hHeld2
  clear hHeld2
  try simp only [Array.reduceGetElem, Act.put, List.setIfInBounds_toArray, List.set_cons_zero, List.set_cons_succ]
  first
  | (refine wpAnyH_take (i := 17) (v := ?v1x17) rfl (by kernel_rfl) (by kernel_rfl) (by kernel_rfl) (fun _ _ _ h => h) (Or.inl ⟨by rfl, ?hy1x17⟩) hHeld ?rest1x17
     case hy1x17 => (intro w hSw; (try dsimp only at hSw); go_simp <;> with_reducible rfl)
     try simp only [Array.reduceGetElem, Act.put, List.setIfInBounds_toArray, List.set_cons_zero, List.set_cons_succ])
  | (refine wpAnyH_take (i := 17) rfl (by kernel_rfl) (by kernel_rfl) (by kernel_rfl) (fun _ _ _ h => h) (Or.inr ⟨by rfl, rfl⟩) hHeld ?rest1x17
     try simp only [Array.reduceGetElem, Act.put, List.setIfInBounds_toArray, List.set_cons_zero, List.set_cons_succ])
  refine wpAnyH_done (by kernel_rfl) ?_ _
  go_wp2_with fail
  go_ret
  exact ⟨rfl, next b0 hHeld.2.2.2.2.2.2 (by simp <;> omega)⟩
end Go.Proofs.YtedpgeilamhipaaDoor.Va
