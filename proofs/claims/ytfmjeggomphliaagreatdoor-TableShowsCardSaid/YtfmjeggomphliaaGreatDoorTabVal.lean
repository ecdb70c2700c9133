/- Values, as tables need them: the document's word on a right value, the order of values, equality. -/
import Derived.Test.YtfmjeggomphliaaGreatDoorValWalk3
import Derived.Test.YtfmjeggomphliaaGreatDoorShelf
import Derived.Test.YtfmjeggomphliaaGreatDoorBase
set_option linter.unusedVariables false
set_option linter.unusedSimpArgs false
namespace Go.Proofs.YtfmjeggomphliaaGreatDoor.Va
open Go.RowKit Go Ba

theorem undrew {a w : World} (h : Below a.drew.heap.size a.drew w) : Below a.heap.size a w := ⟨h.os, h.tape, h.output, h.size, h.block⟩
theorem r_other {k n : Int} {s : ByteArray} (h0 : k ≠ 0) (h1 : k ≠ 1) (h2 : k ≠ 2) : rightB k n s = false := by unfold rightB; rw [if_neg h0, if_neg h1, if_neg h2]
theorem r_num {k n : Int} {s : ByteArray} (h1 : k ≠ 1) (hn : n ≠ 0) : rightB k n s = false := by
  unfold rightB
  by_cases h0 : k = 0
  · rw [if_pos h0]; simp [hn]
  rw [if_neg h0, if_neg h1]
  split <;> simp [hn]
theorem ne_size {s : ByteArray} (h : 0 < s.size) : s.toList.isEmpty = false := by
  rw [Bool.eq_false_iff]; intro hx; rw [empty_iff] at hx; subst hx; exact absurd h (by decide)
theorem em_size {s : ByteArray} (h : s.size ≤ 0) : s.toList.isEmpty = true := (empty_iff s).2 (by
  rcases s with ⟨d⟩; have : d.size = 0 := by have : d.size ≤ 0 := h; omega
  rw [Array.size_eq_zero_iff] at this; rw [this])
theorem r_text {k n : Int} {s : ByteArray} (h2 : k ≠ 2) (hs : 0 < s.size) : rightB k n s = false := by
  unfold rightB; rw [ne_size hs, if_neg h2]
  split
  · simp
  · split <;> rfl
theorem r_null {s : ByteArray} (h : s.size ≤ 0) : rightB 0 0 s = true := by unfold rightB; rw [em_size h]; rfl
theorem r_one {n : Int} {s : ByteArray} (h : s.size ≤ 0) : rightB 1 n s = true := by unfold rightB; rw [em_size h]; rfl
theorem r_two {s : ByteArray} : rightB 2 0 s = plainB s := by unfold rightB; simp
theorem r_long {k n : Int} {s : ByteArray} (h : 64 < s.size) : rightB k n s = false := by
  have : plainB s = false := by unfold plainB; simp; omega
  unfold rightB; rw [ne_size (by omega), this]; simp
theorem plain_empty {s : ByteArray} (h : s.size ≤ 0) : plainB s = true := by
  have : s = ⟨#[]⟩ := (empty_iff s).1 (em_size h)
  subst this; decide
theorem str_at {s : ByteArray} {j : Nat} {b : UInt8} (hj : j < s.size) (h : s.data.toList[j]? = some b) : s[j] = b := by
  have : s.data[j]? = some b := by simpa using h
  obtain ⟨_, h2⟩ := Array.getElem?_eq_some_iff.1 this
  exact h2

set_option maxRecDepth 20000 in
set_option maxHeartbeats 800000 in
theorem refRight_any (k n : Int) (s : ByteArray) (w : World) (hs : s.size ≤ 9223372036854775807) :
    Calls Tryz.prog 90 #[.agg #[.int .i64 k, .int .i64 n, .string s]] w fun e w' => e = .returned (.bool (rightB k n s)) ∧ Below w.heap.size w w' := by
  by_cases g0 : k < 0
  · go_enter Tryz.func90, Tryz.ntmps90
    go_wp2_with fail
    go_ret
    exact ⟨ret_bool (r_other (by omega) (by omega) (by omega)).symm, by go_grown⟩
  by_cases g2 : 2 < k
  · go_enter Tryz.func90, Tryz.ntmps90
    go_wp2_with fail
    go_ret
    exact ⟨ret_bool (r_other (by omega) (by omega) (by omega)).symm, by go_grown⟩
  by_cases k1 : k = 1
  · subst k1
    by_cases gs : 0 < s.size
    · go_enter Tryz.func90, Tryz.ntmps90
      go_wp2_with fail
      go_ret
      exact ⟨ret_bool (r_text (by decide) gs).symm, by go_grown⟩
    · have gs0 : s.size ≤ 0 := by omega
      go_enter Tryz.func90, Tryz.ntmps90
      go_wp2_with fail
      go_loop [3] (fun i => i = .int .i64 0) (fun _ => 0)
      case atStart => rfl
      case round =>
        subst hrel
        go_wp2_with fail
        go_ret
        exact ⟨ret_bool (r_one gs0).symm, by go_grown⟩
  by_cases gn : n = 0
  · subst gn
    by_cases k0 : k = 0
    · subst k0
      by_cases gs : 0 < s.size
      · go_enter Tryz.func90, Tryz.ntmps90
        go_wp2_with fail
        go_ret
        exact ⟨ret_bool (r_text (by decide) gs).symm, by go_grown⟩
      · have gs0 : s.size ≤ 0 := by omega
        go_enter Tryz.func90, Tryz.ntmps90
        go_wp2_with fail
        go_loop [3] (fun i => i = .int .i64 0) (fun _ => 0)
        case atStart => rfl
        case round =>
          subst hrel
          go_wp2_with fail
          go_ret
          exact ⟨ret_bool (r_null gs0).symm, by go_grown⟩
    · obtain rfl : k = 2 := by omega
      by_cases gs : 64 < s.size
      · go_enter Tryz.func90, Tryz.ntmps90
        go_wp2_with fail
        go_ret
        exact ⟨ret_bool (r_long gs).symm, by go_grown⟩
      · go_enter Tryz.func90, Tryz.ntmps90
        go_wp2_with fail
        go_loop [3] (fun i => ∃ j : Nat, j ≤ s.size ∧ i = .int .i64 j ∧ (s.data.toList.take j).all okByte = true) (fun i => s.size - (intOf i).toNat)
        case atStart => exact ⟨0, by omega, rfl, by simp⟩
        case round =>
          obtain ⟨j, hj, rfl, hall⟩ := hrel
          have HA := Lib.hid hall
          clear hall
          by_cases hlt : j < s.size
          · obtain ⟨b, hbk⟩ := bat s j hlt
            have hb8 : (b.toNat : Int) ≤ 255 := by have := b.toNat_lt; omega
            have hat := str_at hlt hbk
            have HBK := Lib.hid hbk
            clear hbk
            by_cases h1 : (b.toNat : Int) < 32
            · go_wp2_with fail
              go_ret
              exact ⟨ret_bool (r_two.trans (plain_no (List.mem_of_getElem? HBK.out) (by unfold okByte; simp; omega))).symm, by go_grown⟩
            · by_cases h2 : 126 < (b.toNat : Int)
              · go_wp2_with fail
                go_ret
                exact ⟨ret_bool (r_two.trans (plain_no (List.mem_of_getElem? HBK.out) (by unfold okByte; simp; omega))).symm, by go_grown⟩
              · go_wp2_with fail
                go_round
                case rel => exact ⟨j + 1, by omega, by go_num, by rw [take_one _ _ _ HBK.out, List.all_append, HA.out]; simp [okByte]; omega⟩
                case measure => simp [intOf]; omega
          · have ek : j = s.size := by omega
            have HK := Lib.hid ek
            clear ek
            go_wp2_with fail
            go_ret
            refine ⟨ret_bool (r_two.trans ?_).symm, by go_grown⟩
            have ha := HA.out
            rw [HK.out, size_list, List.take_length] at ha
            unfold plainB
            rw [ha, Bool.true_and]
            simp
            omega
  · have dn : (n == 0) = false := by simpa using gn
    have d1 : (k == 1) = false := by simpa using k1
    have P : Hid (rightB k n s = false) := r_num k1 gn
    have q0 : 0 ≤ k := by omega
    have q2 : k ≤ 2 := by omega
    have e1 : (k != 1) = true := by simpa using k1
    have en : (n != 0) = true := by simpa using gn
    clear g0 g2
    go_enter Tryz.func90, Tryz.ntmps90
    go_wp2_with fail
    go_ret
    exact ⟨ret_bool (P.out).symm, by go_grown⟩
/-- The first of three that isn't 0. -/
def pick3 (x y z : Int) : Int := if x ≠ 0 then x else if y ≠ 0 then y else z
theorem or_any (x y z : Int) (B : Nat) (w : World) (h0 : w.cell? ⟨B, 0, none⟩ = some (.int .i64 x)) (h1 : w.cell? ⟨B, 1, none⟩ = some (.int .i64 y)) (h2 : w.cell? ⟨B, 2, none⟩ = some (.int .i64 z)) :
    Calls Tryz.prog 99 #[.slice (some ⟨B, 0, none⟩) 3 3] w fun e w' => e = .returned (.int .i64 (pick3 x y z)) ∧ w' = w := by
  by_cases gx : x = 0
  · by_cases gy : y = 0
    · subst gx; subst gy
      have P : pick3 0 0 z = z := by simp [pick3]
      rw [P]
      by_cases gz : z = 0
      · subst gz
        go_enter Tryz.func99, Tryz.ntmps99
        go_wp2_with fail
        go_loop [8] (fun i => i = .int .i64 0 ∨ i = .int .i64 1 ∨ i = .int .i64 2 ∨ i = .int .i64 3) (fun i => 3 - (intOf i).toNat)
        case atStart => exact .inl rfl
        case round =>
          rcases hrel with rfl | rfl | rfl | rfl
          · go_wp2_with fail
            go_round
            case rel => first | exact .inl rfl | exact .inr rfl | exact .inr (.inl rfl) | exact .inr (.inr rfl) | exact .inr (.inr (.inl rfl)) | exact .inr (.inr (.inr rfl))
            case measure => simp [intOf]
          · go_wp2_with fail
            go_round
            case rel => first | exact .inl rfl | exact .inr rfl | exact .inr (.inl rfl) | exact .inr (.inr rfl) | exact .inr (.inr (.inl rfl)) | exact .inr (.inr (.inr rfl))
            case measure => simp [intOf]
          · go_wp2_with fail
            go_round
            case rel => first | exact .inl rfl | exact .inr rfl | exact .inr (.inl rfl) | exact .inr (.inr rfl) | exact .inr (.inr (.inl rfl)) | exact .inr (.inr (.inr rfl))
            case measure => simp [intOf]
          · go_wp2_with fail
            go_ret
            exact ⟨rfl, rfl⟩
      · have dz : (z != 0) = true := by simpa using gz
        go_enter Tryz.func99, Tryz.ntmps99
        go_wp2_with fail
        go_loop [8] (fun i => i = .int .i64 0 ∨ i = .int .i64 1 ∨ i = .int .i64 2) (fun i => 3 - (intOf i).toNat)
        case atStart => exact .inl rfl
        case round =>
          rcases hrel with rfl | rfl | rfl
          · go_wp2_with fail
            go_round
            case rel => first | exact .inl rfl | exact .inr rfl | exact .inr (.inl rfl) | exact .inr (.inr rfl) | exact .inr (.inr (.inl rfl)) | exact .inr (.inr (.inr rfl))
            case measure => simp [intOf]
          · go_wp2_with fail
            go_round
            case rel => first | exact .inl rfl | exact .inr rfl | exact .inr (.inl rfl) | exact .inr (.inr rfl) | exact .inr (.inr (.inl rfl)) | exact .inr (.inr (.inr rfl))
            case measure => simp [intOf]
          · go_wp2_with fail
            go_ret
            exact ⟨rfl, rfl⟩
    · subst gx
      have P : pick3 0 y z = y := by simp [pick3, gy]
      rw [P]
      have dy : (y != 0) = true := by simpa using gy
      go_enter Tryz.func99, Tryz.ntmps99
      go_wp2_with fail
      go_loop [8] (fun i => i = .int .i64 0 ∨ i = .int .i64 1) (fun i => 3 - (intOf i).toNat)
      case atStart => exact .inl rfl
      case round =>
        rcases hrel with rfl | rfl
        · go_wp2_with fail
          go_round
          case rel => first | exact .inl rfl | exact .inr rfl | exact .inr (.inl rfl) | exact .inr (.inr rfl) | exact .inr (.inr (.inl rfl)) | exact .inr (.inr (.inr rfl))
          case measure => simp [intOf]
        · go_wp2_with fail
          go_ret
          exact ⟨rfl, rfl⟩
  · have P : pick3 x y z = x := by simp [pick3, gx]
    rw [P]
    have dx : (x != 0) = true := by simpa using gx
    go_enter Tryz.func99, Tryz.ntmps99
    go_wp2_with fail
    go_loop [8] (fun i => i = .int .i64 0) (fun i => 3 - (intOf i).toNat)
    case atStart => rfl
    case round =>
      subst hrel
      go_wp2_with fail
      go_ret
      exact ⟨rfl, rfl⟩

theorem ci {a b x : Int} (h : Lib.compareInt a b = x) (w : World) : Calls Tryz.prog 100 #[.int .i64 a, .int .i64 b] w fun e w' => e = .returned (.int .i64 x) ∧ w' = w := by
  rw [← h]; exact Tryz.cmp_Compare_int a b w
theorem cs {a b : ByteArray} {x : Int} (h : Lib.compareBytes a.data.toList b.data.toList = x) (w : World) : Calls Tryz.prog 101 #[.string a, .string b] w fun e w' => e = .returned (.int .i64 x) ∧ w' = w := by
  rw [← h]; exact Tryz.strings_Compare a b w
/-- The order of two values. -/
def cmpV (ka na : Int) (sa : ByteArray) (kb nb : Int) (sb : ByteArray) : Int := pick3 (Lib.compareInt ka kb) (Lib.compareInt na nb) (Lib.compareBytes sa.data.toList sb.data.toList)
set_option maxRecDepth 100000 in
set_option maxHeartbeats 1600000 in
theorem cmp_any (ka na : Int) (sa : ByteArray) (kb nb : Int) (sb : ByteArray) (w : World) :
    Calls Tryz.prog 76 #[.agg #[.int .i64 ka, .int .i64 na, .string sa], .agg #[.int .i64 kb, .int .i64 nb, .string sb]] w fun e w' => e = .returned (.int .i64 (cmpV ka na sa kb nb sb)) ∧ Below w.heap.size w w' := by
  obtain ⟨x, hx⟩ : ∃ x, Lib.compareInt ka kb = x := ⟨_, rfl⟩
  obtain ⟨y, hy⟩ : ∃ y, Lib.compareInt na nb = y := ⟨_, rfl⟩
  obtain ⟨z, hz⟩ : ∃ z, Lib.compareBytes sa.data.toList sb.data.toList = z := ⟨_, rfl⟩
  have P : cmpV ka na sa kb nb sb = pick3 x y z := by unfold cmpV; rw [hx, hy, hz]
  rw [P]
  have b0 : Below w.heap.size w ((w.alloc (.cells #[.int .i64 ka, .int .i64 na, .string sa] 47)).alloc (.cells #[.int .i64 kb, .int .i64 nb, .string sb] 47)) := by go_grown
  have HM : Hid (∀ W, Below ((w.alloc (.cells #[.int .i64 ka, .int .i64 na, .string sa] 47)).alloc (.cells #[.int .i64 kb, .int .i64 nb, .string sb] 47)).heap.size ((w.alloc (.cells #[.int .i64 ka, .int .i64 na, .string sa] 47)).alloc (.cells #[.int .i64 kb, .int .i64 nb, .string sb] 47)) W → W.cell? ⟨w.heap.size, 0, none⟩ = some (.int .i64 ka) ∧ W.cell? ⟨w.heap.size, 1, none⟩ = some (.int .i64 na) ∧ W.cell? ⟨w.heap.size, 2, none⟩ = some (.string sa) ∧ W.cell? ⟨w.heap.size + 1, 0, none⟩ = some (.int .i64 kb) ∧ W.cell? ⟨w.heap.size + 1, 1, none⟩ = some (.int .i64 nb) ∧ W.cell? ⟨w.heap.size + 1, 2, none⟩ = some (.string sb) ∧ Below ((w.alloc (.cells #[.int .i64 ka, .int .i64 na, .string sa] 47)).alloc (.cells #[.int .i64 kb, .int .i64 nb, .string sb] 47)).heap.size ((w.alloc (.cells #[.int .i64 ka, .int .i64 na, .string sa] 47)).alloc (.cells #[.int .i64 kb, .int .i64 nb, .string sb] 47)) W) := fun W h =>
    ⟨(h.cell (by simp; omega)).trans (by simp), (h.cell (by simp; omega)).trans (by simp), (h.cell (by simp; omega)).trans (by simp), (h.cell (by simp)).trans (by simp), (h.cell (by simp)).trans (by simp), (h.cell (by simp)).trans (by simp), h⟩
  have HX := Lib.hid hx
  have HY := Lib.hid hy
  have HZ := Lib.hid hz
  clear hx hy hz P
  go_enter Tryz.func76, Tryz.ntmps76
  go_wp2_with fail
  refine wp_region_held_drew (S := (fun W => W.cell? ⟨w.heap.size, 0, none⟩ = some (.int .i64 ka) ∧ W.cell? ⟨w.heap.size, 1, none⟩ = some (.int .i64 na) ∧ W.cell? ⟨w.heap.size, 2, none⟩ = some (.string sa) ∧ W.cell? ⟨w.heap.size + 1, 0, none⟩ = some (.int .i64 kb) ∧ W.cell? ⟨w.heap.size + 1, 1, none⟩ = some (.int .i64 nb) ∧ W.cell? ⟨w.heap.size + 1, 2, none⟩ = some (.string sb) ∧ Below ((w.alloc (.cells #[.int .i64 ka, .int .i64 na, .string sa] 47)).alloc (.cells #[.int .i64 kb, .int .i64 nb, .string sb] 47)).heap.size ((w.alloc (.cells #[.int .i64 ka, .int .i64 na, .string sa] 47)).alloc (.cells #[.int .i64 kb, .int .i64 nb, .string sb] 47)) W)) (by kernel_rfl) (by exact HM.out _ (Below.drew (by go_grown))) (fun hHeld => ?_)
  first
  | (refine wpAnyH_take (i := 0) (v := ?v1x0) rfl (by kernel_rfl) (by kernel_rfl) (by kernel_rfl) (fun _ _ _ h => h) (Or.inl ⟨by rfl, ?hy1x0⟩) hHeld ?rest1x0
     case hy1x0 => (intro w hSw; (try dsimp only at hSw); go_simp <;> with_reducible rfl)
     try simp only [Array.reduceGetElem, Act.put, List.setIfInBounds_toArray, List.set_cons_zero, List.set_cons_succ])
  | (refine wpAnyH_take (i := 0) rfl (by kernel_rfl) (by kernel_rfl) (by kernel_rfl) (fun _ _ _ h => h) (Or.inr ⟨by rfl, rfl⟩) hHeld ?rest1x0
     try simp only [Array.reduceGetElem, Act.put, List.setIfInBounds_toArray, List.set_cons_zero, List.set_cons_succ])
  first
  | (refine wpAnyH_take (i := 1) (v := ?v1x1) rfl (by kernel_rfl) (by kernel_rfl) (by kernel_rfl) (fun _ _ _ h => h) (Or.inl ⟨by rfl, ?hy1x1⟩) hHeld ?rest1x1
     case hy1x1 => (intro w hSw; (try dsimp only at hSw); go_simp <;> with_reducible rfl)
     try simp only [Array.reduceGetElem, Act.put, List.setIfInBounds_toArray, List.set_cons_zero, List.set_cons_succ])
  | (refine wpAnyH_take (i := 1) rfl (by kernel_rfl) (by kernel_rfl) (by kernel_rfl) (fun _ _ _ h => h) (Or.inr ⟨by rfl, rfl⟩) hHeld ?rest1x1
     try simp only [Array.reduceGetElem, Act.put, List.setIfInBounds_toArray, List.set_cons_zero, List.set_cons_succ])
  first
  | (refine wpAnyH_take (i := 2) (v := ?v1x2) rfl (by kernel_rfl) (by kernel_rfl) (by kernel_rfl) (fun _ _ _ h => h) (Or.inl ⟨by rfl, ?hy1x2⟩) hHeld ?rest1x2
     case hy1x2 => (intro w hSw; (try dsimp only at hSw); go_simp <;> with_reducible rfl)
     try simp only [Array.reduceGetElem, Act.put, List.setIfInBounds_toArray, List.set_cons_zero, List.set_cons_succ])
  | (refine wpAnyH_take (i := 2) rfl (by kernel_rfl) (by kernel_rfl) (by kernel_rfl) (fun _ _ _ h => h) (Or.inr ⟨by rfl, rfl⟩) hHeld ?rest1x2
     try simp only [Array.reduceGetElem, Act.put, List.setIfInBounds_toArray, List.set_cons_zero, List.set_cons_succ])
  first
  | (refine wpAnyH_take (i := 3) (v := ?v1x3) rfl (by kernel_rfl) (by kernel_rfl) (by kernel_rfl) (fun _ _ _ h => h) (Or.inl ⟨by rfl, ?hy1x3⟩) hHeld ?rest1x3
     case hy1x3 => (intro w hSw; (try dsimp only at hSw); go_simp <;> with_reducible rfl)
     try simp only [Array.reduceGetElem, Act.put, List.setIfInBounds_toArray, List.set_cons_zero, List.set_cons_succ])
  | (refine wpAnyH_take (i := 3) rfl (by kernel_rfl) (by kernel_rfl) (by kernel_rfl) (fun _ _ _ h => h) (Or.inr ⟨by rfl, rfl⟩) hHeld ?rest1x3
     try simp only [Array.reduceGetElem, Act.put, List.setIfInBounds_toArray, List.set_cons_zero, List.set_cons_succ])
  first
  | (refine wpAnyH_take (i := 5) (v := ?v1x5) rfl (by kernel_rfl) (by kernel_rfl) (by kernel_rfl) (fun _ _ _ h => h) (Or.inl ⟨by rfl, ?hy1x5⟩) hHeld ?rest1x5
     case hy1x5 => (intro w hSw; (try dsimp only at hSw); go_simp <;> with_reducible rfl)
     try simp only [Array.reduceGetElem, Act.put, List.setIfInBounds_toArray, List.set_cons_zero, List.set_cons_succ])
  | (refine wpAnyH_take (i := 5) rfl (by kernel_rfl) (by kernel_rfl) (by kernel_rfl) (fun _ _ _ h => h) (Or.inr ⟨by rfl, rfl⟩) hHeld ?rest1x5
     try simp only [Array.reduceGetElem, Act.put, List.setIfInBounds_toArray, List.set_cons_zero, List.set_cons_succ])
  first
  | (refine wpAnyH_take (i := 6) (v := ?v1x6) rfl (by kernel_rfl) (by kernel_rfl) (by kernel_rfl) (fun _ _ _ h => h) (Or.inl ⟨by rfl, ?hy1x6⟩) hHeld ?rest1x6
     case hy1x6 => (intro w hSw; (try dsimp only at hSw); go_simp <;> with_reducible rfl)
     try simp only [Array.reduceGetElem, Act.put, List.setIfInBounds_toArray, List.set_cons_zero, List.set_cons_succ])
  | (refine wpAnyH_take (i := 6) rfl (by kernel_rfl) (by kernel_rfl) (by kernel_rfl) (fun _ _ _ h => h) (Or.inr ⟨by rfl, rfl⟩) hHeld ?rest1x6
     try simp only [Array.reduceGetElem, Act.put, List.setIfInBounds_toArray, List.set_cons_zero, List.set_cons_succ])
  first
  | (refine wpAnyH_take (i := 7) (v := ?v1x7) rfl (by kernel_rfl) (by kernel_rfl) (by kernel_rfl) (fun _ _ _ h => h) (Or.inl ⟨by rfl, ?hy1x7⟩) hHeld ?rest1x7
     case hy1x7 => (intro w hSw; (try dsimp only at hSw); go_simp <;> with_reducible rfl)
     try simp only [Array.reduceGetElem, Act.put, List.setIfInBounds_toArray, List.set_cons_zero, List.set_cons_succ])
  | (refine wpAnyH_take (i := 7) rfl (by kernel_rfl) (by kernel_rfl) (by kernel_rfl) (fun _ _ _ h => h) (Or.inr ⟨by rfl, rfl⟩) hHeld ?rest1x7
     try simp only [Array.reduceGetElem, Act.put, List.setIfInBounds_toArray, List.set_cons_zero, List.set_cons_succ])
  first
  | (refine wpAnyH_take (i := 8) (v := ?v1x8) rfl (by kernel_rfl) (by kernel_rfl) (by kernel_rfl) (fun _ _ _ h => h) (Or.inl ⟨by rfl, ?hy1x8⟩) hHeld ?rest1x8
     case hy1x8 => (intro w hSw; (try dsimp only at hSw); go_simp <;> with_reducible rfl)
     try simp only [Array.reduceGetElem, Act.put, List.setIfInBounds_toArray, List.set_cons_zero, List.set_cons_succ])
  | (refine wpAnyH_take (i := 8) rfl (by kernel_rfl) (by kernel_rfl) (by kernel_rfl) (fun _ _ _ h => h) (Or.inr ⟨by rfl, rfl⟩) hHeld ?rest1x8
     try simp only [Array.reduceGetElem, Act.put, List.setIfInBounds_toArray, List.set_cons_zero, List.set_cons_succ])
  first
  | (refine wpAnyH_take (i := 10) (v := ?v1x10) rfl (by kernel_rfl) (by kernel_rfl) (by kernel_rfl) (fun _ _ _ h => h) (Or.inl ⟨by rfl, ?hy1x10⟩) hHeld ?rest1x10
     case hy1x10 => (intro w hSw; (try dsimp only at hSw); go_simp <;> with_reducible rfl)
     try simp only [Array.reduceGetElem, Act.put, List.setIfInBounds_toArray, List.set_cons_zero, List.set_cons_succ])
  | (refine wpAnyH_take (i := 10) rfl (by kernel_rfl) (by kernel_rfl) (by kernel_rfl) (fun _ _ _ h => h) (Or.inr ⟨by rfl, rfl⟩) hHeld ?rest1x10
     try simp only [Array.reduceGetElem, Act.put, List.setIfInBounds_toArray, List.set_cons_zero, List.set_cons_succ])
  first
  | (refine wpAnyH_take (i := 11) (v := ?v1x11) rfl (by kernel_rfl) (by kernel_rfl) (by kernel_rfl) (fun _ _ _ h => h) (Or.inl ⟨by rfl, ?hy1x11⟩) hHeld ?rest1x11
     case hy1x11 => (intro w hSw; (try dsimp only at hSw); go_simp <;> with_reducible rfl)
     try simp only [Array.reduceGetElem, Act.put, List.setIfInBounds_toArray, List.set_cons_zero, List.set_cons_succ])
  | (refine wpAnyH_take (i := 11) rfl (by kernel_rfl) (by kernel_rfl) (by kernel_rfl) (fun _ _ _ h => h) (Or.inr ⟨by rfl, rfl⟩) hHeld ?rest1x11
     try simp only [Array.reduceGetElem, Act.put, List.setIfInBounds_toArray, List.set_cons_zero, List.set_cons_succ])
  first
  | (refine wpAnyH_take (i := 12) (v := ?v1x12) rfl (by kernel_rfl) (by kernel_rfl) (by kernel_rfl) (fun _ _ _ h => h) (Or.inl ⟨by rfl, ?hy1x12⟩) hHeld ?rest1x12
     case hy1x12 => (intro w hSw; (try dsimp only at hSw); go_simp <;> with_reducible rfl)
     try simp only [Array.reduceGetElem, Act.put, List.setIfInBounds_toArray, List.set_cons_zero, List.set_cons_succ])
  | (refine wpAnyH_take (i := 12) rfl (by kernel_rfl) (by kernel_rfl) (by kernel_rfl) (fun _ _ _ h => h) (Or.inr ⟨by rfl, rfl⟩) hHeld ?rest1x12
     try simp only [Array.reduceGetElem, Act.put, List.setIfInBounds_toArray, List.set_cons_zero, List.set_cons_succ])
  first
  | (refine wpAnyH_take (i := 13) (v := ?v1x13) rfl (by kernel_rfl) (by kernel_rfl) (by kernel_rfl) (fun _ _ _ h => h) (Or.inl ⟨by rfl, ?hy1x13⟩) hHeld ?rest1x13
     case hy1x13 => (intro w hSw; (try dsimp only at hSw); go_simp <;> with_reducible rfl)
     try simp only [Array.reduceGetElem, Act.put, List.setIfInBounds_toArray, List.set_cons_zero, List.set_cons_succ])
  | (refine wpAnyH_take (i := 13) rfl (by kernel_rfl) (by kernel_rfl) (by kernel_rfl) (fun _ _ _ h => h) (Or.inr ⟨by rfl, rfl⟩) hHeld ?rest1x13
     try simp only [Array.reduceGetElem, Act.put, List.setIfInBounds_toArray, List.set_cons_zero, List.set_cons_succ])
  refine wpAnyH_ready (rs := [4]) (by kernel_rfl) (by simp) ?_
  refine AllReadyH.cons rfl (fun K hK => ?_) AllReadyH.nil
  go_simp
  go_at_call 100; refine (ci HX.out _).mono ?_; rintro e w' ⟨rfl, rfl⟩; go_wp2_with fail
  refine hK.out _ _ ?_ (fun hHeld2 => ?_)
  · exact hHeld
  clear hK K hHeld
  have hHeld := hHeld2
  clear hHeld2
  try simp only [Array.reduceGetElem, Act.put, List.setIfInBounds_toArray, List.set_cons_zero, List.set_cons_succ]
  refine wpAnyH_ready (rs := [9]) (by kernel_rfl) (by simp) ?_
  refine AllReadyH.cons rfl (fun K hK => ?_) AllReadyH.nil
  go_simp
  go_at_call 100; refine (ci HY.out _).mono ?_; rintro e w' ⟨rfl, rfl⟩; go_wp2_with fail
  refine hK.out _ _ ?_ (fun hHeld2 => ?_)
  · exact hHeld
  clear hK K hHeld
  have hHeld := hHeld2
  clear hHeld2
  try simp only [Array.reduceGetElem, Act.put, List.setIfInBounds_toArray, List.set_cons_zero, List.set_cons_succ]
  refine wpAnyH_ready (rs := [14]) (by kernel_rfl) (by simp) ?_
  refine AllReadyH.cons rfl (fun K hK => ?_) AllReadyH.nil
  go_simp
  go_at_call 101; refine (cs HZ.out _).mono ?_; rintro e w' ⟨rfl, rfl⟩; go_wp2_with fail
  refine hK.out _ _ ?_ (fun hHeld2 => ?_)
  · exact hHeld
  clear hK K hHeld
  have hHeld := hHeld2
  clear hHeld2
  try simp only [Array.reduceGetElem, Act.put, List.setIfInBounds_toArray, List.set_cons_zero, List.set_cons_succ]
  refine wpAnyH_ready (rs := [15]) (by kernel_rfl) (by simp) ?_
  refine AllReadyH.cons rfl (fun K hK => ?_) AllReadyH.nil
  go_simp
  skip
  refine hK.out _ _ ?_ (fun hHeld2 => ?_)
  · exact HM.out _ (hHeld.2.2.2.2.2.2.alloc hHeld.2.2.2.2.2.2.size _)
  clear hK K hHeld
  have hHeld := hHeld2
  clear hHeld2
  try simp only [Array.reduceGetElem, Act.put, List.setIfInBounds_toArray, List.set_cons_zero, List.set_cons_succ]
  refine wpAnyH_ready (rs := [16]) (by kernel_rfl) (by simp) ?_
  refine AllReadyH.cons rfl (fun K hK => ?_) AllReadyH.nil
  go_simp
  go_at_call 99; refine (or_any x y z _ _ (by simp [World.cell?_alloc_at]) (by simp [World.cell?_alloc_at]) (by simp [World.cell?_alloc_at])).mono ?_; rintro e w' ⟨rfl, rfl⟩; go_wp2_with fail
  refine hK.out _ _ ?_ (fun hHeld2 => ?_)
  · exact hHeld
  clear hK K hHeld
  have hHeld := hHeld2
  clear hHeld2
  try simp only [Array.reduceGetElem, Act.put, List.setIfInBounds_toArray, List.set_cons_zero, List.set_cons_succ]
  first
  | (refine wpAnyH_take (i := 17) (v := ?v1x17) rfl (by kernel_rfl) (by kernel_rfl) (by kernel_rfl) (fun _ _ _ h => h) (Or.inl ⟨by rfl, ?hy1x17⟩) hHeld ?rest1x17
     case hy1x17 => (intro w hSw; (try dsimp only at hSw); go_simp <;> with_reducible rfl)
     try simp only [Array.reduceGetElem, Act.put, List.setIfInBounds_toArray, List.set_cons_zero, List.set_cons_succ])
  | (refine wpAnyH_take (i := 17) rfl (by kernel_rfl) (by kernel_rfl) (by kernel_rfl) (fun _ _ _ h => h) (Or.inr ⟨by rfl, rfl⟩) hHeld ?rest1x17
     try simp only [Array.reduceGetElem, Act.put, List.setIfInBounds_toArray, List.set_cons_zero, List.set_cons_succ])
  refine wpAnyH_done (by kernel_rfl) ?_ _
  go_wp2_with fail
  go_ret
  exact ⟨rfl, next b0 hHeld.2.2.2.2.2.2 (by simp <;> omega)⟩
/-- The document's order of bytes. -/
theorem cb_one (A B : List UInt8) (j : Nat) (x y : UInt8) (hx : A[j]? = some x) (hy : B[j]? = some y) :
    Lib.compareBytes (A.drop j) (B.drop j) = if x < y then -1 else if y < x then 1 else Lib.compareBytes (A.drop (j + 1)) (B.drop (j + 1)) := by
  obtain ⟨h1, e1⟩ := List.getElem?_eq_some_iff.1 hx
  obtain ⟨h2, e2⟩ := List.getElem?_eq_some_iff.1 hy
  rw [List.drop_eq_getElem_cons h1, List.drop_eq_getElem_cons h2, e1, e2]
  rfl
theorem cb_ends (A B : List UInt8) (j : Nat) (h : A.length ≤ j ∨ B.length ≤ j) (ha : j ≤ A.length) (hb : j ≤ B.length) :
    Lib.compareBytes (A.drop j) (B.drop j) = if A.length < B.length then -1 else if B.length < A.length then 1 else 0 := by
  obtain ⟨a, hA⟩ : ∃ a, A.drop j = a := ⟨_, rfl⟩
  obtain ⟨b, hB⟩ : ∃ b, B.drop j = b := ⟨_, rfl⟩
  have l1 : A.length = j + a.length := by have := congrArg List.length hA; simp at this; omega
  have l2 : B.length = j + b.length := by have := congrArg List.length hB; simp at this; omega
  rw [hA, hB, l1, l2]
  match a, b with
  | [], [] => simp [Lib.compareBytes]
  | [], _ :: _ => simp [Lib.compareBytes]
  | _ :: _, [] => simp [Lib.compareBytes]
  | x :: a, y :: b => simp at l1 l2; omega
theorem bytes_any (sa sb : ByteArray) (c : Int) (w : World) (ha : sa.size ≤ 9223372036854775807) (hb : sb.size ≤ 9223372036854775807) (hc : Lib.compareBytes sa.data.toList sb.data.toList = c) :
    Calls Tryz.prog 116 #[.string sa, .string sb] w fun e w' => e = .returned (.int .i64 c) ∧ Below w.heap.size w w' := by
  have HC := Lib.hid hc
  clear hc
  go_enter Tryz.func116, Tryz.ntmps116
  go_wp2_with fail
  go_loopw [5] (fun i wr => ∃ j : Nat, j ≤ sa.size ∧ j ≤ sb.size ∧ i = .int .i64 j ∧ Lib.compareBytes (sa.data.toList.drop j) (sb.data.toList.drop j) = c ∧ Below w.heap.size w wr) (fun i _ => sa.size - (intOf i).toNat)
  case atStart => exact ⟨0, by omega, by omega, rfl, by simpa using HC.out, Below.refl _ _⟩
  case round =>
    obtain ⟨j, hj1, hj2, rfl, he, hbel⟩ := hrel
    have HE := Lib.hid he
    clear he
    by_cases l1 : j < sa.size
    · by_cases l2 : j < sb.size
      · obtain ⟨x, hx⟩ := bat sa j l1
        obtain ⟨y, hy⟩ := bat sb j l2
        have o := cb_one _ _ j x y hx hy
        rw [HE.out] at o
        have ax := str_at l1 hx
        have ay := str_at l2 hy
        have O := Lib.hid o
        have x8 : (x.toNat : Int) ≤ 255 := by have := x.toNat_lt; omega
        have y8 : (y.toNat : Int) ≤ 255 := by have := y.toNat_lt; omega
        clear o hx hy
        have j0 : (0 : Int) ≤ (j : Int) := by omega
        by_cases g1 : (x.toNat : Int) < (y.toNat : Int)
        · go_wp2_with fail
          go_quiet (fail)
          go_wp2_with fail
          go_ret
          refine ⟨ret_int ?_, (by first | exact hbel | exact Below.drewN hbel _ | exact Below.drewN (Below.drewN hbel _) _)⟩
          have := O.out
          rw [if_pos (by rw [UInt8.lt_iff_toNat_lt]; omega)] at this
          exact this.symm
        · by_cases g2 : (y.toNat : Int) < (x.toNat : Int)
          · go_wp2_with fail
            go_quiet (fail)
            go_wp2_with fail
            go_quiet (fail)
            go_wp2_with fail
            go_ret
            refine ⟨ret_int ?_, (by first | exact hbel | exact Below.drewN hbel _ | exact Below.drewN (Below.drewN hbel _) _)⟩
            have := O.out
            rw [if_neg (by rw [UInt8.lt_iff_toNat_lt]; omega), if_pos (by rw [UInt8.lt_iff_toNat_lt]; omega)] at this
            exact this.symm
          · go_wp2_with fail
            go_quiet (fail)
            go_wp2_with fail
            go_quiet (fail)
            go_wp2_with fail
            go_round
            case rel =>
              refine ⟨j + 1, by omega, by omega, by go_num, ?_, (by first | exact hbel | exact Below.drewN hbel _ | exact Below.drewN (Below.drewN hbel _) _)⟩
              have := O.out
              rw [if_neg (by rw [UInt8.lt_iff_toNat_lt]; omega), if_neg (by rw [UInt8.lt_iff_toNat_lt]; omega)] at this
              exact this.symm
            case measure => simp [intOf]; omega
      · have o := cb_ends sa.data.toList sb.data.toList j (.inr (by have := size_list sa; have := size_list sb; omega)) (by have := size_list sa; have := size_list sb; omega) (by have := size_list sa; have := size_list sb; omega)
        rw [HE.out, ← size_list, ← size_list] at o
        have O := Lib.hid o
        clear o
        by_cases g1 : sa.size < sb.size
        · go_wp2_with fail
          go_ret
          exact ⟨ret_int (by have := O.out; rw [if_pos g1] at this; exact this.symm), hbel⟩
        · by_cases g2 : sb.size < sa.size
          · go_wp2_with fail
            go_ret
            exact ⟨ret_int (by have := O.out; rw [if_neg g1, if_pos g2] at this; exact this.symm), hbel⟩
          · go_wp2_with fail
            go_ret
            exact ⟨ret_int (by have := O.out; rw [if_neg g1, if_neg g2] at this; exact this.symm), hbel⟩
    · have o := cb_ends sa.data.toList sb.data.toList j (.inl (by have := size_list sa; have := size_list sb; omega)) (by have := size_list sa; have := size_list sb; omega) (by have := size_list sa; have := size_list sb; omega)
      rw [HE.out, ← size_list, ← size_list] at o
      have O := Lib.hid o
      clear o
      by_cases g1 : sa.size < sb.size
      · go_wp2_with fail
        go_ret
        exact ⟨ret_int (by have := O.out; rw [if_pos g1] at this; exact this.symm), hbel⟩
      · by_cases g2 : sb.size < sa.size
        · go_wp2_with fail
          go_ret
          exact ⟨ret_int (by have := O.out; rw [if_neg g1, if_pos g2] at this; exact this.symm), hbel⟩
        · go_wp2_with fail
          go_ret
          exact ⟨ret_int (by have := O.out; rw [if_neg g1, if_neg g2] at this; exact this.symm), hbel⟩
theorem cv_kind {ka na : Int} {sa : ByteArray} {kb nb : Int} {sb : ByteArray} (h : ka ≠ kb) : cmpV ka na sa kb nb sb = if ka < kb then -1 else 1 := by
  unfold cmpV pick3 Lib.compareInt
  by_cases g : ka < kb
  · simp [g]
  · have : kb < ka := by omega
    simp [g, this]
theorem cv_num {ka na : Int} {sa : ByteArray} {nb : Int} {sb : ByteArray} (h : na ≠ nb) : cmpV ka na sa ka nb sb = if na < nb then -1 else 1 := by
  unfold cmpV pick3 Lib.compareInt
  by_cases g : na < nb
  · simp [g]
  · have : nb < na := by omega
    simp [g, this]
theorem cv_text {ka na : Int} {sa sb : ByteArray} : cmpV ka na sa ka na sb = Lib.compareBytes sa.data.toList sb.data.toList := by
  unfold cmpV pick3 Lib.compareInt
  simp
set_option maxHeartbeats 800000 in
theorem refCmp_any (ka na : Int) (sa : ByteArray) (kb nb : Int) (sb : ByteArray) (c : Int) (w : World) (ha : sa.size ≤ 9223372036854775807) (hb : sb.size ≤ 9223372036854775807) (hc : cmpV ka na sa kb nb sb = c) :
    Calls Tryz.prog 91 #[.agg #[.int .i64 ka, .int .i64 na, .string sa], .agg #[.int .i64 kb, .int .i64 nb, .string sb]] w fun e w' => e = .returned (.int .i64 c) ∧ Below w.heap.size w w' := by
  by_cases hk : ka = kb
  · subst hk
    by_cases hn : na = nb
    · subst hn
      rw [cv_text] at hc
      have HC := Lib.hid hc
      clear hc
      go_enter Tryz.func91, Tryz.ntmps91
      go_wp2_with fail
      refine (bytes_any sa sb c _ ha hb HC.out).mono ?_
      rintro e w1 ⟨rfl, hb1⟩
      go_wp2_with fail
      go_ret
      exact ⟨rfl, next (by go_grown) hb1 (by simp <;> omega)⟩
    · rw [cv_num hn] at hc
      have d1 : (na != nb) = true := by simpa using hn
      by_cases g : na < nb
      · rw [if_pos g] at hc
        subst hc
        go_enter Tryz.func91, Tryz.ntmps91
        go_wp2_with fail
        go_ret
        exact ⟨rfl, by go_grown⟩
      · have g2 : nb < na := by omega
        rw [if_neg g] at hc
        subst hc
        go_enter Tryz.func91, Tryz.ntmps91
        go_wp2_with fail
        go_ret
        exact ⟨rfl, by go_grown⟩
  · rw [cv_kind hk] at hc
    have d1 : (ka != kb) = true := by simpa using hk
    by_cases g : ka < kb
    · rw [if_pos g] at hc
      subst hc
      go_enter Tryz.func91, Tryz.ntmps91
      go_wp2_with fail
      go_ret
      exact ⟨rfl, by go_grown⟩
    · rw [if_neg g] at hc
      subst hc
      go_enter Tryz.func91, Tryz.ntmps91
      go_wp2_with fail
      go_ret
      exact ⟨rfl, by go_grown⟩
theorem val_eq (ka na : Int) (sa : ByteArray) (kb nb : Int) (sb : ByteArray) (r : Bool) (hr : (ka = kb ∧ na = nb ∧ sa = sb) ↔ r = true) (w : World) :
    (Op.equalIn 10000 47 (.agg #[.int .i64 ka, .int .i64 na, .string sa]) (.agg #[.int .i64 kb, .int .i64 nb, .string sb])).run Tryz.prog w = .ok r w := by
  have u3 := Tryz.underlying3
  have u9 := Tryz.underlying9
  have hS : Tryz.prog.underlying 47 = some (.struct (Tryz.prog.fieldsOf 47)) := by kernel_rfl
  have hp : Tryz.prog.stoodInHeld 47 = false := by kernel_rfl
  rw [show (10000 : Nat) = 9999 + 1 from rfl, run_equalIn_agg w 9999 47 _ _ hS hp]
  simp only [Program.fieldsOf, Tryz.underlying47]
  go_simp
  cases r
  · have e3 : sa.toList = sb.toList ↔ sa = sb := ⟨fun h => by rw [ByteArray.toList_eq, ByteArray.toList_eq] at h; exact Go.WideShapes.bytes_inj h, fun h => by rw [h]⟩
    have hn : ¬ (ka = kb ∧ na = nb ∧ sa = sb) := fun h => by have := hr.1 h; cases this
    by_cases h1 : ka = kb <;> by_cases h2 : na = nb <;> by_cases h3 : sa = sb <;> simp_all
  · obtain ⟨rfl, rfl, rfl⟩ := hr.2 rfl
    simp
theorem refRight_is (k n : Int) (s : ByteArray) (b : Bool) (w : World) (hs : s.size ≤ 9223372036854775807) (hb : rightB k n s = b) :
    Calls Tryz.prog 90 #[.agg #[.int .i64 k, .int .i64 n, .string s]] w fun e w' => e = .returned (.bool b) ∧ Below w.heap.size w w' := by
  rw [← hb]; exact refRight_any k n s w hs
theorem cmp_is {ka na : Int} {sa : ByteArray} {kb nb : Int} {sb : ByteArray} {c : Int} (hc : cmpV ka na sa kb nb sb = c) (w : World) :
    Calls Tryz.prog 76 #[.agg #[.int .i64 ka, .int .i64 na, .string sa], .agg #[.int .i64 kb, .int .i64 nb, .string sb]] w fun e w' => e = .returned (.int .i64 c) ∧ Below w.heap.size w w' := by
  rw [← hc]; exact cmp_any ka na sa kb nb sb w
end Go.Proofs.YtfmjeggomphliaaGreatDoor.Va
