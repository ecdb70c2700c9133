/- The walk of the law on quotients. -/
import Derived.Test.YtedpgeilamhipaaDoorValWalk7
set_option linter.unusedVariables false
set_option linter.unusedSimpArgs false
namespace Go.Proofs.YtedpgeilamhipaaDoor.Va
open Go.RowKit Go Ba

/-- The document's word on a quotient and a rest. -/
theorem fits_true (a b q r : Int) (w : World) (hs : q * b + r = a) (b0 : -9223372036854775808 ≤ b) (b1 : b ≤ 9223372036854775807) (hb : b ≠ 0) (a0 : -9223372036854775808 ≤ a) (a1 : a ≤ 9223372036854775807)
    (h1 : 0 ≤ a → 0 ≤ r) (h2 : a ≤ 0 → r ≤ 0) (h3 : 0 < b → r < b ∧ -b < r) (h4 : b < 0 → b < r ∧ r < -b) (hm : In64 (q * b)) :
    Calls Tryd.prog 18 #[.int .i64 a, .int .i64 b, .int .i64 q, .int .i64 r] w fun e w' => e = .returned (.bool true) ∧ Below w.heap.size w w' := by
  have hw1 : wrap64 (q * b) = q * b := wrap_in hm
  obtain ⟨p, hp⟩ : ∃ p, p = q * b := ⟨_, rfl⟩
  have hw2 : wrap64 (p + r) = a := by rw [hp, hs]; exact wrap_in ⟨a0, a1⟩
  have hw3 : wrap64 (q * b) = p := hw1.trans hp.symm
  clear hw1 hp hs hm
  rcases Int.lt_or_lt_of_ne hb with hn | hn
  · obtain ⟨k1, k2⟩ := h4 hn
    have r0 : -9223372036854775808 ≤ r := by omega
    have r1 : r ≤ 9223372036854775807 := by omega
    clear h3 h4 hb
    by_cases hm : b = -9223372036854775808
    · subst hm
      by_cases g0 : 0 < a
      · have s1 : 0 ≤ r := h1 (by omega)
        clear h1 h2
        go_enter Tryd.func18, Tryd.ntmps18
        go_wp2_with fail
        go_ret
        exact ⟨rfl, by go_grown⟩
      by_cases g1 : a < 0
      · have s1 : r ≤ 0 := h2 (by omega)
        clear h1 h2
        go_enter Tryd.func18, Tryd.ntmps18
        go_wp2_with fail
        go_ret
        exact ⟨rfl, by go_grown⟩
      have s1 : 0 ≤ a := by omega
      have s2 : a ≤ 0 := by omega
      have s3 := h1 s1
      have s4 := h2 s2
      clear h1 h2
      go_enter Tryd.func18, Tryd.ntmps18
      go_wp2_with fail
      go_ret
      exact ⟨rfl, by go_grown⟩
    · have d1 : (b == -9223372036854775808) = false := by simpa using hm
      have b2 : -9223372036854775808 < b := by omega
      clear hm
      by_cases g0 : 0 < a
      · have s1 : 0 ≤ r := h1 (by omega)
        clear h1 h2
        go_enter Tryd.func18, Tryd.ntmps18
        go_wp2_with fail
        go_ret
        exact ⟨rfl, by go_grown⟩
      by_cases g1 : a < 0
      · have s1 : r ≤ 0 := h2 (by omega)
        clear h1 h2
        go_enter Tryd.func18, Tryd.ntmps18
        go_wp2_with fail
        go_ret
        exact ⟨rfl, by go_grown⟩
      have s1 : 0 ≤ a := by omega
      have s2 : a ≤ 0 := by omega
      have s3 := h1 s1
      have s4 := h2 s2
      clear h1 h2
      go_enter Tryd.func18, Tryd.ntmps18
      go_wp2_with fail
      go_ret
      exact ⟨rfl, by go_grown⟩
  · obtain ⟨k1, k2⟩ := h3 hn
    have r0 : -9223372036854775808 ≤ r := by omega
    have r1 : r ≤ 9223372036854775807 := by omega
    clear h3 h4 hb
    by_cases g0 : 0 < a
    · have s1 : 0 ≤ r := h1 (by omega)
      clear h1 h2
      go_enter Tryd.func18, Tryd.ntmps18
      go_wp2_with fail
      go_ret
      exact ⟨rfl, by go_grown⟩
    by_cases g1 : a < 0
    · have s1 : r ≤ 0 := h2 (by omega)
      clear h1 h2
      go_enter Tryd.func18, Tryd.ntmps18
      go_wp2_with fail
      go_ret
      exact ⟨rfl, by go_grown⟩
    have s1 : 0 ≤ a := by omega
    have s2 : a ≤ 0 := by omega
    have s3 := h1 s1
    have s4 := h2 s2
    clear h1 h2
    go_enter Tryd.func18, Tryd.ntmps18
    go_wp2_with fail
    go_ret
    exact ⟨rfl, by go_grown⟩

set_option maxRecDepth 100000 in
set_option maxHeartbeats 1600000 in
theorem quo_z (a : Int) (w : World) (hE : Env w) :
    Calls Tryd.prog 5 #[.int .i64 a, .int .i64 0] w fun e w' => e = .returned (.bool true) ∧ Below w.heap.size w w' := by
  have HE := Lib.hid hE
  clear hE
  have HA : Hid (Refused 47 1 a ⟨#[]⟩ 1 0 ⟨#[]⟩ 11) := arith_div 47 1 a ⟨#[]⟩ 1 ⟨#[]⟩ (.inl rfl) (by decide) (by decide) (by decide) (by decide)
  have HS : Hid (Refused 37 1 a ⟨#[]⟩ 1 0 ⟨#[]⟩ 11) := arith_div 37 1 a ⟨#[]⟩ 1 ⟨#[]⟩ (.inr rfl) (by decide) (by decide) (by decide) (by decide)
  go_enter Tryd.func5, Tryd.ntmps5
  go_wp2_with fail
  refine (of_any a _).mono ?_
  rintro e w1 ⟨rfl, bb1⟩
  go_wp2_with fail
  refine (of_any 0 _).mono ?_
  rintro e w2 ⟨rfl, hb⟩
  have bb2 := two bb1 hb
  clear hb
  go_wp2_with fail
  refine (HA.out _).mono ?_
  rintro e w3 ⟨rfl, hb⟩
  have bb3 := two bb2 hb
  have z3 := bb3.size
  clear hb
  go_wp2_with fail
  refine (of_any a _).mono ?_
  rintro e w4 ⟨rfl, hb4⟩
  go_wp2_with fail
  refine (of_any 0 _).mono ?_
  rintro e w5 ⟨rfl, hb⟩
  have hb5 := two hb4 hb
  clear hb
  go_wp2_with fail
  refine (HS.out _).mono ?_
  rintro e w6 ⟨rfl, hb⟩
  have hb6 := two hb5 hb
  clear hb hb4 hb5
  have z6 := hb6.size
  simp only [World.size_alloc] at z6
  have zz : w3.heap.size < w6.heap.size := by omega
  have c0 : w6.cell? ⟨w3.heap.size, 0, none⟩ = some (.int .i64 0) := box hb6 (by simp) 0
  have c1 : w6.cell? ⟨w3.heap.size, 1, none⟩ = some (.int .i64 0) := box hb6 (by simp) 1
  have c2 : w6.cell? ⟨w3.heap.size, 2, none⟩ = some (.string ⟨#[]⟩) := box hb6 (by simp) 2
  have bb6 := next (w := w) (B := w.heap.size) (bb3.alloc z3 _) hb6 (Nat.le_refl _)
  have z66 := bb6.size
  have b7 : Below w.heap.size w (w6.alloc (.cells #[.int .i64 0, .int .i64 0, .string ⟨#[]⟩] 23)) := bb6.alloc z66 _
  have hd6 : Below w6.heap.size w6 (w6.alloc (.cells #[.int .i64 0, .int .i64 0, .string ⟨#[]⟩] 23)) := by go_grown
  have HM : Hid (∀ W, Below (w6.alloc (.cells #[.int .i64 0, .int .i64 0, .string ⟨#[]⟩] 23)).heap.size (w6.alloc (.cells #[.int .i64 0, .int .i64 0, .string ⟨#[]⟩] 23)) W → W.cell? ⟨w3.heap.size, 0, none⟩ = some (.int .i64 0) ∧ W.cell? ⟨w3.heap.size, 1, none⟩ = some (.int .i64 0) ∧ W.cell? ⟨w3.heap.size, 2, none⟩ = some (.string ⟨#[]⟩) ∧ W.cell? ⟨w6.heap.size, 0, none⟩ = some (.int .i64 0) ∧ W.cell? ⟨w6.heap.size, 1, none⟩ = some (.int .i64 0) ∧ W.cell? ⟨w6.heap.size, 2, none⟩ = some (.string ⟨#[]⟩) ∧ Below (w6.alloc (.cells #[.int .i64 0, .int .i64 0, .string ⟨#[]⟩] 23)).heap.size (w6.alloc (.cells #[.int .i64 0, .int .i64 0, .string ⟨#[]⟩] 23)) W) := fun W h =>
    ⟨(h.cell (by simp; omega)).trans ((hd6.cell (by exact zz)).trans c0), (h.cell (by simp; omega)).trans ((hd6.cell (by exact zz)).trans c1), (h.cell (by simp; omega)).trans ((hd6.cell (by exact zz)).trans c2), (h.cell (by simp)).trans (by simp), (h.cell (by simp)).trans (by simp), (h.cell (by simp)).trans (by simp), h⟩
  clear hb6
  go_wp2_with fail
  refine (awake_any _ (HE.out.below b7)).mono ?_
  rintro e w7 ⟨rfl, hb⟩
  go_wp2_with fail
  go_ret
  exact ⟨rfl, two b7 hb⟩

set_option maxRecDepth 100000 in
set_option maxHeartbeats 1600000 in
theorem quo_m  (w : World) (hE : Env w) :
    Calls Tryd.prog 5 #[.int .i64 (-9223372036854775808), .int .i64 (-1)] w fun e w' => e = .returned (.bool true) ∧ Below w.heap.size w w' := by
  have HE := Lib.hid hE
  clear hE
  have HA : Hid (Refused 47 1 (-9223372036854775808) ⟨#[]⟩ 1 (-1) ⟨#[]⟩ 10) := arith_no 47 1 (-9223372036854775808) ⟨#[]⟩ 1 (-1) ⟨#[]⟩ _ (by decide) (by decide) (.inr (.inr (.inr (.inl rfl)))) (by decide) (by decide) (by decide) (by decide) (fun h => by cases h) (quo_no)
  have HS : Hid (Numbers 37 1 (-9223372036854775808) ⟨#[]⟩ 1 (-1) ⟨#[]⟩ 0) := arith_ok 37 1 (-9223372036854775808) ⟨#[]⟩ 1 (-1) ⟨#[]⟩ _ (by decide) (by decide) (.inr (.inr (.inr (.inr rfl)))) (by decide) (by decide) (by decide) (by decide) (fun h => by cases h) (rem_one (-9223372036854775808))
  go_enter Tryd.func5, Tryd.ntmps5
  go_wp2_with fail
  refine (of_any (-9223372036854775808) _).mono ?_
  rintro e w1 ⟨rfl, bb1⟩
  go_wp2_with fail
  refine (of_any (-1) _).mono ?_
  rintro e w2 ⟨rfl, hb⟩
  have bb2 := two bb1 hb
  clear hb
  go_wp2_with fail
  refine (HA.out _).mono ?_
  rintro e w3 ⟨rfl, hb⟩
  have bb3 := two bb2 hb
  have z3 := bb3.size
  clear hb
  go_wp2_with fail
  refine (of_any (-9223372036854775808) _).mono ?_
  rintro e w4 ⟨rfl, hb4⟩
  go_wp2_with fail
  refine (of_any (-1) _).mono ?_
  rintro e w5 ⟨rfl, hb⟩
  have hb5 := two hb4 hb
  clear hb
  go_wp2_with fail
  refine (HS.out _).mono ?_
  rintro e w6 ⟨rfl, hb⟩
  have hb6 := two hb5 hb
  clear hb hb4 hb5
  have z6 := hb6.size
  simp only [World.size_alloc] at z6
  have zz : w3.heap.size < w6.heap.size := by omega
  have c0 : w6.cell? ⟨w3.heap.size, 0, none⟩ = some (.int .i64 0) := box hb6 (by simp) 0
  have c1 : w6.cell? ⟨w3.heap.size, 1, none⟩ = some (.int .i64 0) := box hb6 (by simp) 1
  have c2 : w6.cell? ⟨w3.heap.size, 2, none⟩ = some (.string ⟨#[]⟩) := box hb6 (by simp) 2
  have bb6 := next (w := w) (B := w.heap.size) (bb3.alloc z3 _) hb6 (Nat.le_refl _)
  have z66 := bb6.size
  have b7 : Below w.heap.size w (w6.alloc (.cells #[.int .i64 1, .int .i64 0, .string ⟨#[]⟩] 23)) := bb6.alloc z66 _
  have hd6 : Below w6.heap.size w6 (w6.alloc (.cells #[.int .i64 1, .int .i64 0, .string ⟨#[]⟩] 23)) := by go_grown
  have HM : Hid (∀ W, Below (w6.alloc (.cells #[.int .i64 1, .int .i64 0, .string ⟨#[]⟩] 23)).heap.size (w6.alloc (.cells #[.int .i64 1, .int .i64 0, .string ⟨#[]⟩] 23)) W → W.cell? ⟨w3.heap.size, 0, none⟩ = some (.int .i64 0) ∧ W.cell? ⟨w3.heap.size, 1, none⟩ = some (.int .i64 0) ∧ W.cell? ⟨w3.heap.size, 2, none⟩ = some (.string ⟨#[]⟩) ∧ W.cell? ⟨w6.heap.size, 0, none⟩ = some (.int .i64 1) ∧ W.cell? ⟨w6.heap.size, 1, none⟩ = some (.int .i64 0) ∧ W.cell? ⟨w6.heap.size, 2, none⟩ = some (.string ⟨#[]⟩) ∧ Below (w6.alloc (.cells #[.int .i64 1, .int .i64 0, .string ⟨#[]⟩] 23)).heap.size (w6.alloc (.cells #[.int .i64 1, .int .i64 0, .string ⟨#[]⟩] 23)) W) := fun W h =>
    ⟨(h.cell (by simp; omega)).trans ((hd6.cell (by exact zz)).trans c0), (h.cell (by simp; omega)).trans ((hd6.cell (by exact zz)).trans c1), (h.cell (by simp; omega)).trans ((hd6.cell (by exact zz)).trans c2), (h.cell (by simp)).trans (by simp), (h.cell (by simp)).trans (by simp), (h.cell (by simp)).trans (by simp), h⟩
  clear hb6
  go_wp2_with fail
  refine wp_region_held_drew (S := (fun w' => w'.cell? ⟨w3.heap.size, 0, none⟩ = some (.int .i64 0) ∧ w'.cell? ⟨w3.heap.size, 1, none⟩ = some (.int .i64 0) ∧ w'.cell? ⟨w3.heap.size, 2, none⟩ = some (.string ⟨#[]⟩) ∧ w'.cell? ⟨w6.heap.size, 0, none⟩ = some (.int .i64 1) ∧ w'.cell? ⟨w6.heap.size, 1, none⟩ = some (.int .i64 0) ∧ w'.cell? ⟨w6.heap.size, 2, none⟩ = some (.string ⟨#[]⟩) ∧ Below (w6.alloc (.cells #[.int .i64 1, .int .i64 0, .string ⟨#[]⟩] 23)).heap.size (w6.alloc (.cells #[.int .i64 1, .int .i64 0, .string ⟨#[]⟩] 23)) w')) (by kernel_rfl) (by exact HM.out _ (Below.drew (by go_grown))) (fun hHeld => ?_)
  first
  | (refine wpAnyH_take (i := 0) (v := ?v1x0) rfl (by kernel_rfl) (by kernel_rfl) (by kernel_rfl) (fun _ _ _ h => h) (Or.inl ⟨by rfl, ?hy1x0⟩) hHeld ?rest1x0
     case hy1x0 => (intro w hSw; (try dsimp only at hSw); go_simp <;> with_reducible rfl)
     try simp only [Array.reduceGetElem, Act.put, List.setIfInBounds_toArray, List.set_cons_zero, List.set_cons_succ])
  | (refine wpAnyH_take (i := 0) rfl (by kernel_rfl) (by kernel_rfl) (by kernel_rfl) (fun _ _ _ h => h) (Or.inr ⟨by rfl, rfl⟩) hHeld ?rest1x0
     try simp only [Array.reduceGetElem, Act.put, List.setIfInBounds_toArray, List.set_cons_zero, List.set_cons_succ])
  first
  | (refine wpAnyH_take (i := 1) (v := ?v1x1) rfl (by kernel_rfl) (by kernel_rfl) (by kernel_rfl) (fun _ _ _ h => h) (Or.inl ⟨by rfl, ?hy1x1⟩) hHeld ?rest1x1
     case hy1x1 => (intro w hSw; (try dsimp only at hSw); go_simp <;> with_reducible rfl)
     try simp only [Array.reduceGetElem, Act.put, List.setIfInBounds_toArray, List.set_cons_zero, List.set_cons_succ])
  | (refine wpAnyH_take (i := 1) rfl (by kernel_rfl) (by kernel_rfl) (by kernel_rfl) (fun _ _ _ h => h) (Or.inr ⟨by rfl, rfl⟩) hHeld ?rest1x1
     try simp only [Array.reduceGetElem, Act.put, List.setIfInBounds_toArray, List.set_cons_zero, List.set_cons_succ])
  first
  | (refine wpAnyH_take (i := 2) (v := ?v1x2) rfl (by kernel_rfl) (by kernel_rfl) (by kernel_rfl) (fun _ _ _ h => h) (Or.inl ⟨by rfl, ?hy1x2⟩) hHeld ?rest1x2
     case hy1x2 => (intro w hSw; (try dsimp only at hSw); go_simp <;> with_reducible rfl)
     try simp only [Array.reduceGetElem, Act.put, List.setIfInBounds_toArray, List.set_cons_zero, List.set_cons_succ])
  | (refine wpAnyH_take (i := 2) rfl (by kernel_rfl) (by kernel_rfl) (by kernel_rfl) (fun _ _ _ h => h) (Or.inr ⟨by rfl, rfl⟩) hHeld ?rest1x2
     try simp only [Array.reduceGetElem, Act.put, List.setIfInBounds_toArray, List.set_cons_zero, List.set_cons_succ])
  first
  | (refine wpAnyH_take (i := 3) (v := ?v1x3) rfl (by kernel_rfl) (by kernel_rfl) (by kernel_rfl) (fun _ _ _ h => h) (Or.inl ⟨by rfl, ?hy1x3⟩) hHeld ?rest1x3
     case hy1x3 => (intro w hSw; (try dsimp only at hSw); go_simp <;> with_reducible rfl)
     try simp only [Array.reduceGetElem, Act.put, List.setIfInBounds_toArray, List.set_cons_zero, List.set_cons_succ])
  | (refine wpAnyH_take (i := 3) rfl (by kernel_rfl) (by kernel_rfl) (by kernel_rfl) (fun _ _ _ h => h) (Or.inr ⟨by rfl, rfl⟩) hHeld ?rest1x3
     try simp only [Array.reduceGetElem, Act.put, List.setIfInBounds_toArray, List.set_cons_zero, List.set_cons_succ])
  first
  | (refine wpAnyH_take (i := 4) (v := ?v1x4) rfl (by kernel_rfl) (by kernel_rfl) (by kernel_rfl) (fun _ _ _ h => h) (Or.inl ⟨by rfl, ?hy1x4⟩) hHeld ?rest1x4
     case hy1x4 => (intro w hSw; (try dsimp only at hSw); go_simp <;> with_reducible rfl)
     try simp only [Array.reduceGetElem, Act.put, List.setIfInBounds_toArray, List.set_cons_zero, List.set_cons_succ])
  | (refine wpAnyH_take (i := 4) rfl (by kernel_rfl) (by kernel_rfl) (by kernel_rfl) (fun _ _ _ h => h) (Or.inr ⟨by rfl, rfl⟩) hHeld ?rest1x4
     try simp only [Array.reduceGetElem, Act.put, List.setIfInBounds_toArray, List.set_cons_zero, List.set_cons_succ])
  first
  | (refine wpAnyH_take (i := 5) (v := ?v1x5) rfl (by kernel_rfl) (by kernel_rfl) (by kernel_rfl) (fun _ _ _ h => h) (Or.inl ⟨by rfl, ?hy1x5⟩) hHeld ?rest1x5
     case hy1x5 => (intro w hSw; (try dsimp only at hSw); go_simp <;> with_reducible rfl)
     try simp only [Array.reduceGetElem, Act.put, List.setIfInBounds_toArray, List.set_cons_zero, List.set_cons_succ])
  | (refine wpAnyH_take (i := 5) rfl (by kernel_rfl) (by kernel_rfl) (by kernel_rfl) (fun _ _ _ h => h) (Or.inr ⟨by rfl, rfl⟩) hHeld ?rest1x5
     try simp only [Array.reduceGetElem, Act.put, List.setIfInBounds_toArray, List.set_cons_zero, List.set_cons_succ])
  first
  | (refine wpAnyH_take (i := 6) (v := ?v1x6) rfl (by kernel_rfl) (by kernel_rfl) (by kernel_rfl) (fun _ _ _ h => h) (Or.inl ⟨by rfl, ?hy1x6⟩) hHeld ?rest1x6
     case hy1x6 => (intro w hSw; (try dsimp only at hSw); go_simp <;> with_reducible rfl)
     try simp only [Array.reduceGetElem, Act.put, List.setIfInBounds_toArray, List.set_cons_zero, List.set_cons_succ])
  | (refine wpAnyH_take (i := 6) rfl (by kernel_rfl) (by kernel_rfl) (by kernel_rfl) (fun _ _ _ h => h) (Or.inr ⟨by rfl, rfl⟩) hHeld ?rest1x6
     try simp only [Array.reduceGetElem, Act.put, List.setIfInBounds_toArray, List.set_cons_zero, List.set_cons_succ])
  first
  | (refine wpAnyH_take (i := 7) (v := ?v1x7) rfl (by kernel_rfl) (by kernel_rfl) (by kernel_rfl) (fun _ _ _ h => h) (Or.inl ⟨by rfl, ?hy1x7⟩) hHeld ?rest1x7
     case hy1x7 => (intro w hSw; (try dsimp only at hSw); go_simp <;> with_reducible rfl)
     try simp only [Array.reduceGetElem, Act.put, List.setIfInBounds_toArray, List.set_cons_zero, List.set_cons_succ])
  | (refine wpAnyH_take (i := 7) rfl (by kernel_rfl) (by kernel_rfl) (by kernel_rfl) (fun _ _ _ h => h) (Or.inr ⟨by rfl, rfl⟩) hHeld ?rest1x7
     try simp only [Array.reduceGetElem, Act.put, List.setIfInBounds_toArray, List.set_cons_zero, List.set_cons_succ])
  first
  | (refine wpAnyH_take (i := 8) (v := ?v1x8) rfl (by kernel_rfl) (by kernel_rfl) (by kernel_rfl) (fun _ _ _ h => h) (Or.inl ⟨by rfl, ?hy1x8⟩) hHeld ?rest1x8
     case hy1x8 => (intro w hSw; (try dsimp only at hSw); go_simp <;> with_reducible rfl)
     try simp only [Array.reduceGetElem, Act.put, List.setIfInBounds_toArray, List.set_cons_zero, List.set_cons_succ])
  | (refine wpAnyH_take (i := 8) rfl (by kernel_rfl) (by kernel_rfl) (by kernel_rfl) (fun _ _ _ h => h) (Or.inr ⟨by rfl, rfl⟩) hHeld ?rest1x8
     try simp only [Array.reduceGetElem, Act.put, List.setIfInBounds_toArray, List.set_cons_zero, List.set_cons_succ])
  first
  | (refine wpAnyH_take (i := 9) (v := ?v1x9) rfl (by kernel_rfl) (by kernel_rfl) (by kernel_rfl) (fun _ _ _ h => h) (Or.inl ⟨by rfl, ?hy1x9⟩) hHeld ?rest1x9
     case hy1x9 => (intro w hSw; (try dsimp only at hSw); go_simp <;> with_reducible rfl)
     try simp only [Array.reduceGetElem, Act.put, List.setIfInBounds_toArray, List.set_cons_zero, List.set_cons_succ])
  | (refine wpAnyH_take (i := 9) rfl (by kernel_rfl) (by kernel_rfl) (by kernel_rfl) (fun _ _ _ h => h) (Or.inr ⟨by rfl, rfl⟩) hHeld ?rest1x9
     try simp only [Array.reduceGetElem, Act.put, List.setIfInBounds_toArray, List.set_cons_zero, List.set_cons_succ])
  first
  | (refine wpAnyH_take (i := 10) (v := ?v1x10) rfl (by kernel_rfl) (by kernel_rfl) (by kernel_rfl) (fun _ _ _ h => h) (Or.inl ⟨by rfl, ?hy1x10⟩) hHeld ?rest1x10
     case hy1x10 => (intro w hSw; (try dsimp only at hSw); go_simp <;> with_reducible rfl)
     try simp only [Array.reduceGetElem, Act.put, List.setIfInBounds_toArray, List.set_cons_zero, List.set_cons_succ])
  | (refine wpAnyH_take (i := 10) rfl (by kernel_rfl) (by kernel_rfl) (by kernel_rfl) (fun _ _ _ h => h) (Or.inr ⟨by rfl, rfl⟩) hHeld ?rest1x10
     try simp only [Array.reduceGetElem, Act.put, List.setIfInBounds_toArray, List.set_cons_zero, List.set_cons_succ])
  first
  | (refine wpAnyH_take (i := 11) (v := ?v1x11) rfl (by kernel_rfl) (by kernel_rfl) (by kernel_rfl) (fun _ _ _ h => h) (Or.inl ⟨by rfl, ?hy1x11⟩) hHeld ?rest1x11
     case hy1x11 => (intro w hSw; (try dsimp only at hSw); go_simp <;> with_reducible rfl)
     try simp only [Array.reduceGetElem, Act.put, List.setIfInBounds_toArray, List.set_cons_zero, List.set_cons_succ])
  | (refine wpAnyH_take (i := 11) rfl (by kernel_rfl) (by kernel_rfl) (by kernel_rfl) (fun _ _ _ h => h) (Or.inr ⟨by rfl, rfl⟩) hHeld ?rest1x11
     try simp only [Array.reduceGetElem, Act.put, List.setIfInBounds_toArray, List.set_cons_zero, List.set_cons_succ])
  first
  | (refine wpAnyH_take (i := 12) (v := ?v1x12) rfl (by kernel_rfl) (by kernel_rfl) (by kernel_rfl) (fun _ _ _ h => h) (Or.inl ⟨by rfl, ?hy1x12⟩) hHeld ?rest1x12
     case hy1x12 => (intro w hSw; (try dsimp only at hSw); go_simp <;> with_reducible rfl)
     try simp only [Array.reduceGetElem, Act.put, List.setIfInBounds_toArray, List.set_cons_zero, List.set_cons_succ])
  | (refine wpAnyH_take (i := 12) rfl (by kernel_rfl) (by kernel_rfl) (by kernel_rfl) (fun _ _ _ h => h) (Or.inr ⟨by rfl, rfl⟩) hHeld ?rest1x12
     try simp only [Array.reduceGetElem, Act.put, List.setIfInBounds_toArray, List.set_cons_zero, List.set_cons_succ])
  refine wpAnyH_ready (rs := [13]) (by kernel_rfl) (by simp) ?_
  refine AllReadyH.cons rfl (fun K hK => ?_) AllReadyH.nil
  go_simp
  go_at_call 13; refine (of_any _ _).mono ?_; rintro e w' ⟨rfl, hb⟩; go_wp2_with fail
  refine hK.out _ _ ?_ (fun hHeld2 => ?_)
  · exact HM.out _ (two hHeld.2.2.2.2.2.2 hb)
  clear hK K hHeld
  have hHeld := hHeld2
  clear hHeld2
  try simp only [Array.reduceGetElem, Act.put, List.setIfInBounds_toArray, List.set_cons_zero, List.set_cons_succ]
  first
  | (refine wpAnyH_take (i := 14) (v := ?v1x14) rfl (by kernel_rfl) (by kernel_rfl) (by kernel_rfl) (fun _ _ _ h => h) (Or.inl ⟨by rfl, ?hy1x14⟩) hHeld ?rest1x14
     case hy1x14 => (intro w hSw; (try dsimp only at hSw); go_simp <;> with_reducible rfl)
     try simp only [Array.reduceGetElem, Act.put, List.setIfInBounds_toArray, List.set_cons_zero, List.set_cons_succ])
  | (refine wpAnyH_take (i := 14) rfl (by kernel_rfl) (by kernel_rfl) (by kernel_rfl) (fun _ _ _ h => h) (Or.inr ⟨by rfl, rfl⟩) hHeld ?rest1x14
     try simp only [Array.reduceGetElem, Act.put, List.setIfInBounds_toArray, List.set_cons_zero, List.set_cons_succ])
  first
  | (refine wpAnyH_take (i := 15) (v := ?v1x15) rfl (by kernel_rfl) (by kernel_rfl) (by kernel_rfl) (fun _ _ _ h => h) (Or.inl ⟨by rfl, ?hy1x15⟩) hHeld ?rest1x15
     case hy1x15 => (intro w hSw; (try dsimp only at hSw); go_simp <;> with_reducible rfl)
     try simp only [Array.reduceGetElem, Act.put, List.setIfInBounds_toArray, List.set_cons_zero, List.set_cons_succ])
  | (refine wpAnyH_take (i := 15) rfl (by kernel_rfl) (by kernel_rfl) (by kernel_rfl) (fun _ _ _ h => h) (Or.inr ⟨by rfl, rfl⟩) hHeld ?rest1x15
     try simp only [Array.reduceGetElem, Act.put, List.setIfInBounds_toArray, List.set_cons_zero, List.set_cons_succ])
  first
  | (refine wpAnyH_take (i := 16) (v := ?v1x16) rfl (by kernel_rfl) (by kernel_rfl) (by kernel_rfl) (fun _ _ _ h => h) (Or.inl ⟨by rfl, ?hy1x16⟩) hHeld ?rest1x16
     case hy1x16 => (intro w hSw; (try dsimp only at hSw); go_simp <;> with_reducible rfl)
     try simp only [Array.reduceGetElem, Act.put, List.setIfInBounds_toArray, List.set_cons_zero, List.set_cons_succ])
  | (refine wpAnyH_take (i := 16) rfl (by kernel_rfl) (by kernel_rfl) (by kernel_rfl) (fun _ _ _ h => h) (Or.inr ⟨by rfl, rfl⟩) hHeld ?rest1x16
     try simp only [Array.reduceGetElem, Act.put, List.setIfInBounds_toArray, List.set_cons_zero, List.set_cons_succ])
  refine wpAnyH_ready (rs := [17]) (by kernel_rfl) (by simp) ?_
  refine AllReadyH.cons rfl (fun K hK => ?_) AllReadyH.nil
  go_simp
  go_at_call 16; refine (awake_any _ (HE.out.below (two b7 hHeld.2.2.2.2.2.2))).mono ?_; rintro e w' ⟨rfl, hb⟩; go_wp2_with fail
  refine hK.out _ _ ?_ (fun hHeld2 => ?_)
  · exact HM.out _ (two hHeld.2.2.2.2.2.2 hb)
  clear hK K hHeld
  have hHeld := hHeld2
  clear hHeld2
  try simp only [Array.reduceGetElem, Act.put, List.setIfInBounds_toArray, List.set_cons_zero, List.set_cons_succ]
  first
  | (refine wpAnyH_take (i := 18) (v := ?v1x18) rfl (by kernel_rfl) (by kernel_rfl) (by kernel_rfl) (fun _ _ _ h => h) (Or.inl ⟨by rfl, ?hy1x18⟩) hHeld ?rest1x18
     case hy1x18 => (intro w hSw; (try dsimp only at hSw); go_simp <;> with_reducible rfl)
     try simp only [Array.reduceGetElem, Act.put, List.setIfInBounds_toArray, List.set_cons_zero, List.set_cons_succ])
  | (refine wpAnyH_take (i := 18) rfl (by kernel_rfl) (by kernel_rfl) (by kernel_rfl) (fun _ _ _ h => h) (Or.inr ⟨by rfl, rfl⟩) hHeld ?rest1x18
     try simp only [Array.reduceGetElem, Act.put, List.setIfInBounds_toArray, List.set_cons_zero, List.set_cons_succ])
  first
  | (refine wpAnyH_take (i := 19) (v := ?v1x19) rfl (by kernel_rfl) (by kernel_rfl) (by kernel_rfl) (fun _ _ _ h => h) (Or.inl ⟨by rfl, ?hy1x19⟩) hHeld ?rest1x19
     case hy1x19 => (intro w hSw; (try dsimp only at hSw); go_simp <;> with_reducible rfl)
     try simp only [Array.reduceGetElem, Act.put, List.setIfInBounds_toArray, List.set_cons_zero, List.set_cons_succ])
  | (refine wpAnyH_take (i := 19) rfl (by kernel_rfl) (by kernel_rfl) (by kernel_rfl) (fun _ _ _ h => h) (Or.inr ⟨by rfl, rfl⟩) hHeld ?rest1x19
     try simp only [Array.reduceGetElem, Act.put, List.setIfInBounds_toArray, List.set_cons_zero, List.set_cons_succ])
  refine wpAnyH_done (by kernel_rfl) ?_ _
  go_wp2_with fail
  go_ret
  exact ⟨rfl, two b7 hHeld.2.2.2.2.2.2⟩

set_option maxRecDepth 100000 in
set_option maxHeartbeats 1600000 in
theorem quo_n (a : Int) (a0 : -9223372036854775808 ≤ a) (a1 : a ≤ 9223372036854775807) (hne : a ≠ -9223372036854775808) (w : World) (hE : Env w) :
    Calls Tryd.prog 5 #[.int .i64 a, .int .i64 (-1)] w fun e w' => e = .returned (.bool true) ∧ Below w.heap.size w w' := by
  have HE := Lib.hid hE
  clear hE
  have HA : Hid (Numbers 47 1 a ⟨#[]⟩ 1 (-1) ⟨#[]⟩ (-a)) := arith_ok 47 1 a ⟨#[]⟩ 1 (-1) ⟨#[]⟩ _ (by decide) (by decide) (.inr (.inr (.inr (.inl rfl)))) (by decide) (by decide) (by decide) (by decide) (fun h => by cases h) (by have := quo_ok (a := a) (b := -1) ⟨a0, a1⟩ ⟨by decide, by decide⟩ (by decide) (fun h => hne h.1); rwa [Int.tdiv_neg, Int.tdiv_one] at this)
  have HS : Hid (Numbers 37 1 a ⟨#[]⟩ 1 (-1) ⟨#[]⟩ 0) := arith_ok 37 1 a ⟨#[]⟩ 1 (-1) ⟨#[]⟩ _ (by decide) (by decide) (.inr (.inr (.inr (.inr rfl)))) (by decide) (by decide) (by decide) (by decide) (fun h => by cases h) (rem_one a)
  have d1 : (a == -9223372036854775808) = false := by simpa using hne
  have hwn : IntKind.i64.wrap (-a) = -a := IntWalk.i64_in _ (by omega)
  go_enter Tryd.func5, Tryd.ntmps5
  go_wp2_with fail
  refine (of_any a _).mono ?_
  rintro e w1 ⟨rfl, bb1⟩
  go_wp2_with fail
  refine (of_any (-1) _).mono ?_
  rintro e w2 ⟨rfl, hb⟩
  have bb2 := two bb1 hb
  clear hb
  go_wp2_with fail
  refine (HA.out _).mono ?_
  rintro e w3 ⟨rfl, hb⟩
  have bb3 := two bb2 hb
  have z3 := bb3.size
  clear hb
  go_wp2_with fail
  refine (of_any a _).mono ?_
  rintro e w4 ⟨rfl, hb4⟩
  go_wp2_with fail
  refine (of_any (-1) _).mono ?_
  rintro e w5 ⟨rfl, hb⟩
  have hb5 := two hb4 hb
  clear hb
  go_wp2_with fail
  refine (HS.out _).mono ?_
  rintro e w6 ⟨rfl, hb⟩
  have hb6 := two hb5 hb
  clear hb hb4 hb5
  have z6 := hb6.size
  simp only [World.size_alloc] at z6
  have zz : w3.heap.size < w6.heap.size := by omega
  have c0 : w6.cell? ⟨w3.heap.size, 0, none⟩ = some (.int .i64 1) := box hb6 (by simp) 0
  have c1 : w6.cell? ⟨w3.heap.size, 1, none⟩ = some (.int .i64 (-a)) := box hb6 (by simp) 1
  have c2 : w6.cell? ⟨w3.heap.size, 2, none⟩ = some (.string ⟨#[]⟩) := box hb6 (by simp) 2
  have bb6 := next (w := w) (B := w.heap.size) (bb3.alloc z3 _) hb6 (Nat.le_refl _)
  have z66 := bb6.size
  have b7 : Below w.heap.size w (w6.alloc (.cells #[.int .i64 1, .int .i64 0, .string ⟨#[]⟩] 23)) := bb6.alloc z66 _
  have hd6 : Below w6.heap.size w6 (w6.alloc (.cells #[.int .i64 1, .int .i64 0, .string ⟨#[]⟩] 23)) := by go_grown
  have HM : Hid (∀ W, Below (w6.alloc (.cells #[.int .i64 1, .int .i64 0, .string ⟨#[]⟩] 23)).heap.size (w6.alloc (.cells #[.int .i64 1, .int .i64 0, .string ⟨#[]⟩] 23)) W → W.cell? ⟨w3.heap.size, 0, none⟩ = some (.int .i64 1) ∧ W.cell? ⟨w3.heap.size, 1, none⟩ = some (.int .i64 (-a)) ∧ W.cell? ⟨w3.heap.size, 2, none⟩ = some (.string ⟨#[]⟩) ∧ W.cell? ⟨w6.heap.size, 0, none⟩ = some (.int .i64 1) ∧ W.cell? ⟨w6.heap.size, 1, none⟩ = some (.int .i64 0) ∧ W.cell? ⟨w6.heap.size, 2, none⟩ = some (.string ⟨#[]⟩) ∧ Below (w6.alloc (.cells #[.int .i64 1, .int .i64 0, .string ⟨#[]⟩] 23)).heap.size (w6.alloc (.cells #[.int .i64 1, .int .i64 0, .string ⟨#[]⟩] 23)) W) := fun W h =>
    ⟨(h.cell (by simp; omega)).trans ((hd6.cell (by exact zz)).trans c0), (h.cell (by simp; omega)).trans ((hd6.cell (by exact zz)).trans c1), (h.cell (by simp; omega)).trans ((hd6.cell (by exact zz)).trans c2), (h.cell (by simp)).trans (by simp), (h.cell (by simp)).trans (by simp), (h.cell (by simp)).trans (by simp), h⟩
  clear hb6
  go_wp2_with fail
  refine wp_region_held_drew (S := (fun w' => w'.cell? ⟨w3.heap.size, 0, none⟩ = some (.int .i64 1) ∧ w'.cell? ⟨w3.heap.size, 1, none⟩ = some (.int .i64 (-a)) ∧ w'.cell? ⟨w3.heap.size, 2, none⟩ = some (.string ⟨#[]⟩) ∧ w'.cell? ⟨w6.heap.size, 0, none⟩ = some (.int .i64 1) ∧ w'.cell? ⟨w6.heap.size, 1, none⟩ = some (.int .i64 0) ∧ w'.cell? ⟨w6.heap.size, 2, none⟩ = some (.string ⟨#[]⟩) ∧ Below (w6.alloc (.cells #[.int .i64 1, .int .i64 0, .string ⟨#[]⟩] 23)).heap.size (w6.alloc (.cells #[.int .i64 1, .int .i64 0, .string ⟨#[]⟩] 23)) w')) (by kernel_rfl) (by exact HM.out _ (Below.drew (by go_grown))) (fun hHeld => ?_)
  first
  | (refine wpAnyH_take (i := 0) (v := ?v2x0) rfl (by kernel_rfl) (by kernel_rfl) (by kernel_rfl) (fun _ _ _ h => h) (Or.inl ⟨by rfl, ?hy2x0⟩) hHeld ?rest2x0
     case hy2x0 => (intro w hSw; (try dsimp only at hSw); go_simp <;> with_reducible rfl)
     try simp only [Array.reduceGetElem, Act.put, List.setIfInBounds_toArray, List.set_cons_zero, List.set_cons_succ])
  | (refine wpAnyH_take (i := 0) rfl (by kernel_rfl) (by kernel_rfl) (by kernel_rfl) (fun _ _ _ h => h) (Or.inr ⟨by rfl, rfl⟩) hHeld ?rest2x0
     try simp only [Array.reduceGetElem, Act.put, List.setIfInBounds_toArray, List.set_cons_zero, List.set_cons_succ])
  first
  | (refine wpAnyH_take (i := 1) (v := ?v2x1) rfl (by kernel_rfl) (by kernel_rfl) (by kernel_rfl) (fun _ _ _ h => h) (Or.inl ⟨by rfl, ?hy2x1⟩) hHeld ?rest2x1
     case hy2x1 => (intro w hSw; (try dsimp only at hSw); go_simp <;> with_reducible rfl)
     try simp only [Array.reduceGetElem, Act.put, List.setIfInBounds_toArray, List.set_cons_zero, List.set_cons_succ])
  | (refine wpAnyH_take (i := 1) rfl (by kernel_rfl) (by kernel_rfl) (by kernel_rfl) (fun _ _ _ h => h) (Or.inr ⟨by rfl, rfl⟩) hHeld ?rest2x1
     try simp only [Array.reduceGetElem, Act.put, List.setIfInBounds_toArray, List.set_cons_zero, List.set_cons_succ])
  first
  | (refine wpAnyH_take (i := 2) (v := ?v2x2) rfl (by kernel_rfl) (by kernel_rfl) (by kernel_rfl) (fun _ _ _ h => h) (Or.inl ⟨by rfl, ?hy2x2⟩) hHeld ?rest2x2
     case hy2x2 => (intro w hSw; (try dsimp only at hSw); go_simp <;> with_reducible rfl)
     try simp only [Array.reduceGetElem, Act.put, List.setIfInBounds_toArray, List.set_cons_zero, List.set_cons_succ])
  | (refine wpAnyH_take (i := 2) rfl (by kernel_rfl) (by kernel_rfl) (by kernel_rfl) (fun _ _ _ h => h) (Or.inr ⟨by rfl, rfl⟩) hHeld ?rest2x2
     try simp only [Array.reduceGetElem, Act.put, List.setIfInBounds_toArray, List.set_cons_zero, List.set_cons_succ])
  first
  | (refine wpAnyH_take (i := 3) (v := ?v2x3) rfl (by kernel_rfl) (by kernel_rfl) (by kernel_rfl) (fun _ _ _ h => h) (Or.inl ⟨by rfl, ?hy2x3⟩) hHeld ?rest2x3
     case hy2x3 => (intro w hSw; (try dsimp only at hSw); go_simp <;> with_reducible rfl)
     try simp only [Array.reduceGetElem, Act.put, List.setIfInBounds_toArray, List.set_cons_zero, List.set_cons_succ])
  | (refine wpAnyH_take (i := 3) rfl (by kernel_rfl) (by kernel_rfl) (by kernel_rfl) (fun _ _ _ h => h) (Or.inr ⟨by rfl, rfl⟩) hHeld ?rest2x3
     try simp only [Array.reduceGetElem, Act.put, List.setIfInBounds_toArray, List.set_cons_zero, List.set_cons_succ])
  first
  | (refine wpAnyH_take (i := 4) (v := ?v2x4) rfl (by kernel_rfl) (by kernel_rfl) (by kernel_rfl) (fun _ _ _ h => h) (Or.inl ⟨by rfl, ?hy2x4⟩) hHeld ?rest2x4
     case hy2x4 => (intro w hSw; (try dsimp only at hSw); go_simp <;> with_reducible rfl)
     try simp only [Array.reduceGetElem, Act.put, List.setIfInBounds_toArray, List.set_cons_zero, List.set_cons_succ])
  | (refine wpAnyH_take (i := 4) rfl (by kernel_rfl) (by kernel_rfl) (by kernel_rfl) (fun _ _ _ h => h) (Or.inr ⟨by rfl, rfl⟩) hHeld ?rest2x4
     try simp only [Array.reduceGetElem, Act.put, List.setIfInBounds_toArray, List.set_cons_zero, List.set_cons_succ])
  first
  | (refine wpAnyH_take (i := 5) (v := ?v2x5) rfl (by kernel_rfl) (by kernel_rfl) (by kernel_rfl) (fun _ _ _ h => h) (Or.inl ⟨by rfl, ?hy2x5⟩) hHeld ?rest2x5
     case hy2x5 => (intro w hSw; (try dsimp only at hSw); go_simp <;> with_reducible rfl)
     try simp only [Array.reduceGetElem, Act.put, List.setIfInBounds_toArray, List.set_cons_zero, List.set_cons_succ])
  | (refine wpAnyH_take (i := 5) rfl (by kernel_rfl) (by kernel_rfl) (by kernel_rfl) (fun _ _ _ h => h) (Or.inr ⟨by rfl, rfl⟩) hHeld ?rest2x5
     try simp only [Array.reduceGetElem, Act.put, List.setIfInBounds_toArray, List.set_cons_zero, List.set_cons_succ])
  first
  | (refine wpAnyH_take (i := 6) (v := ?v2x6) rfl (by kernel_rfl) (by kernel_rfl) (by kernel_rfl) (fun _ _ _ h => h) (Or.inl ⟨by rfl, ?hy2x6⟩) hHeld ?rest2x6
     case hy2x6 => (intro w hSw; (try dsimp only at hSw); go_simp <;> with_reducible rfl)
     try simp only [Array.reduceGetElem, Act.put, List.setIfInBounds_toArray, List.set_cons_zero, List.set_cons_succ])
  | (refine wpAnyH_take (i := 6) rfl (by kernel_rfl) (by kernel_rfl) (by kernel_rfl) (fun _ _ _ h => h) (Or.inr ⟨by rfl, rfl⟩) hHeld ?rest2x6
     try simp only [Array.reduceGetElem, Act.put, List.setIfInBounds_toArray, List.set_cons_zero, List.set_cons_succ])
  first
  | (refine wpAnyH_take (i := 7) (v := ?v2x7) rfl (by kernel_rfl) (by kernel_rfl) (by kernel_rfl) (fun _ _ _ h => h) (Or.inl ⟨by rfl, ?hy2x7⟩) hHeld ?rest2x7
     case hy2x7 => (intro w hSw; (try dsimp only at hSw); go_simp <;> with_reducible rfl)
     try simp only [Array.reduceGetElem, Act.put, List.setIfInBounds_toArray, List.set_cons_zero, List.set_cons_succ])
  | (refine wpAnyH_take (i := 7) rfl (by kernel_rfl) (by kernel_rfl) (by kernel_rfl) (fun _ _ _ h => h) (Or.inr ⟨by rfl, rfl⟩) hHeld ?rest2x7
     try simp only [Array.reduceGetElem, Act.put, List.setIfInBounds_toArray, List.set_cons_zero, List.set_cons_succ])
  first
  | (refine wpAnyH_take (i := 8) (v := ?v2x8) rfl (by kernel_rfl) (by kernel_rfl) (by kernel_rfl) (fun _ _ _ h => h) (Or.inl ⟨by rfl, ?hy2x8⟩) hHeld ?rest2x8
     case hy2x8 => (intro w hSw; (try dsimp only at hSw); go_simp <;> with_reducible rfl)
     try simp only [Array.reduceGetElem, Act.put, List.setIfInBounds_toArray, List.set_cons_zero, List.set_cons_succ])
  | (refine wpAnyH_take (i := 8) rfl (by kernel_rfl) (by kernel_rfl) (by kernel_rfl) (fun _ _ _ h => h) (Or.inr ⟨by rfl, rfl⟩) hHeld ?rest2x8
     try simp only [Array.reduceGetElem, Act.put, List.setIfInBounds_toArray, List.set_cons_zero, List.set_cons_succ])
  first
  | (refine wpAnyH_take (i := 9) (v := ?v2x9) rfl (by kernel_rfl) (by kernel_rfl) (by kernel_rfl) (fun _ _ _ h => h) (Or.inl ⟨by rfl, ?hy2x9⟩) hHeld ?rest2x9
     case hy2x9 => (intro w hSw; (try dsimp only at hSw); go_simp <;> with_reducible rfl)
     try simp only [Array.reduceGetElem, Act.put, List.setIfInBounds_toArray, List.set_cons_zero, List.set_cons_succ])
  | (refine wpAnyH_take (i := 9) rfl (by kernel_rfl) (by kernel_rfl) (by kernel_rfl) (fun _ _ _ h => h) (Or.inr ⟨by rfl, rfl⟩) hHeld ?rest2x9
     try simp only [Array.reduceGetElem, Act.put, List.setIfInBounds_toArray, List.set_cons_zero, List.set_cons_succ])
  refine wpAnyH_ready (rs := [10]) (by kernel_rfl) (by simp) ?_
  refine AllReadyH.cons rfl (fun K hK => ?_) AllReadyH.nil
  go_simp
  go_at_call 13; refine (of_any _ _).mono ?_; rintro e w' ⟨rfl, hb⟩; go_wp2_with fail
  refine hK.out _ _ ?_ (fun hHeld2 => ?_)
  · exact HM.out _ (two hHeld.2.2.2.2.2.2 hb)
  clear hK K hHeld
  have hHeld := hHeld2
  clear hHeld2
  try simp only [Array.reduceGetElem, Act.put, List.setIfInBounds_toArray, List.set_cons_zero, List.set_cons_succ]
  first
  | (refine wpAnyH_take (i := 11) (v := ?v2x11) rfl (by kernel_rfl) (by kernel_rfl) (by kernel_rfl) (fun _ _ _ h => h) (Or.inl ⟨by rfl, ?hy2x11⟩) hHeld ?rest2x11
     case hy2x11 => (intro w hSw; (try dsimp only at hSw); go_simp <;> with_reducible rfl)
     try simp only [Array.reduceGetElem, Act.put, List.setIfInBounds_toArray, List.set_cons_zero, List.set_cons_succ])
  | (refine wpAnyH_take (i := 11) rfl (by kernel_rfl) (by kernel_rfl) (by kernel_rfl) (fun _ _ _ h => h) (Or.inr ⟨by rfl, rfl⟩) hHeld ?rest2x11
     try simp only [Array.reduceGetElem, Act.put, List.setIfInBounds_toArray, List.set_cons_zero, List.set_cons_succ])
  first
  | (refine wpAnyH_take (i := 12) (v := ?v2x12) rfl (by kernel_rfl) (by kernel_rfl) (by kernel_rfl) (fun _ _ _ h => h) (Or.inl ⟨by rfl, ?hy2x12⟩) hHeld ?rest2x12
     case hy2x12 => (intro w hSw; (try dsimp only at hSw); go_simp <;> with_reducible rfl)
     try simp only [Array.reduceGetElem, Act.put, List.setIfInBounds_toArray, List.set_cons_zero, List.set_cons_succ])
  | (refine wpAnyH_take (i := 12) rfl (by kernel_rfl) (by kernel_rfl) (by kernel_rfl) (fun _ _ _ h => h) (Or.inr ⟨by rfl, rfl⟩) hHeld ?rest2x12
     try simp only [Array.reduceGetElem, Act.put, List.setIfInBounds_toArray, List.set_cons_zero, List.set_cons_succ])
  first
  | (refine wpAnyH_take (i := 13) (v := ?v2x13) rfl (by kernel_rfl) (by kernel_rfl) (by kernel_rfl) (fun _ _ _ h => h) (Or.inl ⟨by rfl, ?hy2x13⟩) hHeld ?rest2x13
     case hy2x13 => (intro w hSw; (try dsimp only at hSw); go_simp <;> with_reducible rfl)
     try simp only [Array.reduceGetElem, Act.put, List.setIfInBounds_toArray, List.set_cons_zero, List.set_cons_succ])
  | (refine wpAnyH_take (i := 13) rfl (by kernel_rfl) (by kernel_rfl) (by kernel_rfl) (fun _ _ _ h => h) (Or.inr ⟨by rfl, rfl⟩) hHeld ?rest2x13
     try simp only [Array.reduceGetElem, Act.put, List.setIfInBounds_toArray, List.set_cons_zero, List.set_cons_succ])
  first
  | (refine wpAnyH_take (i := 14) (v := ?v2x14) rfl (by kernel_rfl) (by kernel_rfl) (by kernel_rfl) (fun _ _ _ h => h) (Or.inl ⟨by rfl, ?hy2x14⟩) hHeld ?rest2x14
     case hy2x14 => (intro w hSw; (try dsimp only at hSw); go_simp <;> with_reducible rfl)
     try simp only [Array.reduceGetElem, Act.put, List.setIfInBounds_toArray, List.set_cons_zero, List.set_cons_succ])
  | (refine wpAnyH_take (i := 14) rfl (by kernel_rfl) (by kernel_rfl) (by kernel_rfl) (fun _ _ _ h => h) (Or.inr ⟨by rfl, rfl⟩) hHeld ?rest2x14
     try simp only [Array.reduceGetElem, Act.put, List.setIfInBounds_toArray, List.set_cons_zero, List.set_cons_succ])
  refine wpAnyH_ready (rs := [15]) (by kernel_rfl) (by simp) ?_
  refine AllReadyH.cons rfl (fun K hK => ?_) AllReadyH.nil
  go_simp
  go_at_call 13; refine (of_any _ _).mono ?_; rintro e w' ⟨rfl, hb⟩; go_wp2_with fail
  refine hK.out _ _ ?_ (fun hHeld2 => ?_)
  · exact HM.out _ (two hHeld.2.2.2.2.2.2 hb)
  clear hK K hHeld
  have hHeld := hHeld2
  clear hHeld2
  try simp only [Array.reduceGetElem, Act.put, List.setIfInBounds_toArray, List.set_cons_zero, List.set_cons_succ]
  first
  | (refine wpAnyH_take (i := 16) (v := ?v2x16) rfl (by kernel_rfl) (by kernel_rfl) (by kernel_rfl) (fun _ _ _ h => h) (Or.inl ⟨by rfl, ?hy2x16⟩) hHeld ?rest2x16
     case hy2x16 => (intro w hSw; (try dsimp only at hSw); go_simp <;> with_reducible rfl)
     try simp only [Array.reduceGetElem, Act.put, List.setIfInBounds_toArray, List.set_cons_zero, List.set_cons_succ])
  | (refine wpAnyH_take (i := 16) rfl (by kernel_rfl) (by kernel_rfl) (by kernel_rfl) (fun _ _ _ h => h) (Or.inr ⟨by rfl, rfl⟩) hHeld ?rest2x16
     try simp only [Array.reduceGetElem, Act.put, List.setIfInBounds_toArray, List.set_cons_zero, List.set_cons_succ])
  first
  | (refine wpAnyH_take (i := 17) (v := ?v2x17) rfl (by kernel_rfl) (by kernel_rfl) (by kernel_rfl) (fun _ _ _ h => h) (Or.inl ⟨by rfl, ?hy2x17⟩) hHeld ?rest2x17
     case hy2x17 => (intro w hSw; (try dsimp only at hSw); go_simp <;> with_reducible rfl)
     try simp only [Array.reduceGetElem, Act.put, List.setIfInBounds_toArray, List.set_cons_zero, List.set_cons_succ])
  | (refine wpAnyH_take (i := 17) rfl (by kernel_rfl) (by kernel_rfl) (by kernel_rfl) (fun _ _ _ h => h) (Or.inr ⟨by rfl, rfl⟩) hHeld ?rest2x17
     try simp only [Array.reduceGetElem, Act.put, List.setIfInBounds_toArray, List.set_cons_zero, List.set_cons_succ])
  first
  | (refine wpAnyH_take (i := 18) (v := ?v2x18) rfl (by kernel_rfl) (by kernel_rfl) (by kernel_rfl) (fun _ _ _ h => h) (Or.inl ⟨by rfl, ?hy2x18⟩) hHeld ?rest2x18
     case hy2x18 => (intro w hSw; (try dsimp only at hSw); go_simp <;> with_reducible rfl)
     try simp only [Array.reduceGetElem, Act.put, List.setIfInBounds_toArray, List.set_cons_zero, List.set_cons_succ])
  | (refine wpAnyH_take (i := 18) rfl (by kernel_rfl) (by kernel_rfl) (by kernel_rfl) (fun _ _ _ h => h) (Or.inr ⟨by rfl, rfl⟩) hHeld ?rest2x18
     try simp only [Array.reduceGetElem, Act.put, List.setIfInBounds_toArray, List.set_cons_zero, List.set_cons_succ])
  refine wpAnyH_ready (rs := [19]) (by kernel_rfl) (by simp) ?_
  refine AllReadyH.cons rfl (fun K hK => ?_) AllReadyH.nil
  go_simp
  go_at_call 16; refine (awake_any _ (HE.out.below (two b7 hHeld.2.2.2.2.2.2))).mono ?_; rintro e w' ⟨rfl, hb⟩; go_wp2_with fail
  refine hK.out _ _ ?_ (fun hHeld2 => ?_)
  · exact HM.out _ (two hHeld.2.2.2.2.2.2 hb)
  clear hK K hHeld
  have hHeld := hHeld2
  clear hHeld2
  try simp only [Array.reduceGetElem, Act.put, List.setIfInBounds_toArray, List.set_cons_zero, List.set_cons_succ]
  first
  | (refine wpAnyH_take (i := 20) (v := ?v2x20) rfl (by kernel_rfl) (by kernel_rfl) (by kernel_rfl) (fun _ _ _ h => h) (Or.inl ⟨by rfl, ?hy2x20⟩) hHeld ?rest2x20
     case hy2x20 => (intro w hSw; (try dsimp only at hSw); go_simp <;> with_reducible rfl)
     try simp only [Array.reduceGetElem, Act.put, List.setIfInBounds_toArray, List.set_cons_zero, List.set_cons_succ])
  | (refine wpAnyH_take (i := 20) rfl (by kernel_rfl) (by kernel_rfl) (by kernel_rfl) (fun _ _ _ h => h) (Or.inr ⟨by rfl, rfl⟩) hHeld ?rest2x20
     try simp only [Array.reduceGetElem, Act.put, List.setIfInBounds_toArray, List.set_cons_zero, List.set_cons_succ])
  first
  | (refine wpAnyH_take (i := 21) (v := ?v2x21) rfl (by kernel_rfl) (by kernel_rfl) (by kernel_rfl) (fun _ _ _ h => h) (Or.inl ⟨by rfl, ?hy2x21⟩) hHeld ?rest2x21
     case hy2x21 => (intro w hSw; (try dsimp only at hSw); go_simp <;> with_reducible rfl)
     try simp only [Array.reduceGetElem, Act.put, List.setIfInBounds_toArray, List.set_cons_zero, List.set_cons_succ])
  | (refine wpAnyH_take (i := 21) rfl (by kernel_rfl) (by kernel_rfl) (by kernel_rfl) (fun _ _ _ h => h) (Or.inr ⟨by rfl, rfl⟩) hHeld ?rest2x21
     try simp only [Array.reduceGetElem, Act.put, List.setIfInBounds_toArray, List.set_cons_zero, List.set_cons_succ])
  refine wpAnyH_done (by kernel_rfl) ?_ _
  go_wp2_with fail
  go_ret
  exact ⟨rfl, two b7 hHeld.2.2.2.2.2.2⟩

set_option maxRecDepth 100000 in
set_option maxHeartbeats 1600000 in
theorem quo_o (a : Int) (a0 : -9223372036854775808 ≤ a) (a1 : a ≤ 9223372036854775807) (b : Int) (b0 : -9223372036854775808 ≤ b) (b1 : b ≤ 9223372036854775807) (hz : b ≠ 0) (hn : b ≠ -1) (q r : Int) (hq : a.tdiv b = q) (hr : a.tmod b = r) (hf : ∀ w, Calls Tryd.prog 18 #[.int .i64 a, .int .i64 b, .int .i64 q, .int .i64 r] w fun e w' => e = .returned (.bool true) ∧ Below w.heap.size w w') (w : World) (hE : Env w) :
    Calls Tryd.prog 5 #[.int .i64 a, .int .i64 b] w fun e w' => e = .returned (.bool true) ∧ Below w.heap.size w w' := by
  have HE := Lib.hid hE
  clear hE
  have HA : Hid (Numbers 47 1 a ⟨#[]⟩ 1 b ⟨#[]⟩ q) := arith_ok 47 1 a ⟨#[]⟩ 1 b ⟨#[]⟩ _ (by decide) (by decide) (.inr (.inr (.inr (.inl rfl)))) (by decide) (by decide) (by decide) (by decide) (fun h => absurd h hz) (by have := quo_ok (a := a) (b := b) ⟨a0, a1⟩ ⟨b0, b1⟩ hz (fun h => hn h.2); rwa [hq] at this)
  have HS : Hid (Numbers 37 1 a ⟨#[]⟩ 1 b ⟨#[]⟩ r) := arith_ok 37 1 a ⟨#[]⟩ 1 b ⟨#[]⟩ _ (by decide) (by decide) (.inr (.inr (.inr (.inr rfl)))) (by decide) (by decide) (by decide) (by decide) (fun h => absurd h hz) (by have := rem_ok (a := a) (b := b) hz hn; rwa [hr] at this)
  have d1 : (b == 0) = false := by simpa using hz
  have d2 : (b == -1) = false := by simpa using hn
  have HF := Lib.hid hf
  have HQ := Lib.hid hq
  have HR := Lib.hid hr
  clear hz hn hf hq hr
  go_enter Tryd.func5, Tryd.ntmps5
  go_wp2_with fail
  refine (of_any a _).mono ?_
  rintro e w1 ⟨rfl, bb1⟩
  go_wp2_with fail
  refine (of_any b _).mono ?_
  rintro e w2 ⟨rfl, hb⟩
  have bb2 := two bb1 hb
  clear hb
  go_wp2_with fail
  refine (HA.out _).mono ?_
  rintro e w3 ⟨rfl, hb⟩
  have bb3 := two bb2 hb
  have z3 := bb3.size
  clear hb
  go_wp2_with fail
  refine (of_any a _).mono ?_
  rintro e w4 ⟨rfl, hb4⟩
  go_wp2_with fail
  refine (of_any b _).mono ?_
  rintro e w5 ⟨rfl, hb⟩
  have hb5 := two hb4 hb
  clear hb
  go_wp2_with fail
  refine (HS.out _).mono ?_
  rintro e w6 ⟨rfl, hb⟩
  have hb6 := two hb5 hb
  clear hb hb4 hb5
  have z6 := hb6.size
  simp only [World.size_alloc] at z6
  have zz : w3.heap.size < w6.heap.size := by omega
  have c0 : w6.cell? ⟨w3.heap.size, 0, none⟩ = some (.int .i64 1) := box hb6 (by simp) 0
  have c1 : w6.cell? ⟨w3.heap.size, 1, none⟩ = some (.int .i64 q) := box hb6 (by simp) 1
  have c2 : w6.cell? ⟨w3.heap.size, 2, none⟩ = some (.string ⟨#[]⟩) := box hb6 (by simp) 2
  have bb6 := next (w := w) (B := w.heap.size) (bb3.alloc z3 _) hb6 (Nat.le_refl _)
  have z66 := bb6.size
  have b7 : Below w.heap.size w (w6.alloc (.cells #[.int .i64 1, .int .i64 r, .string ⟨#[]⟩] 23)) := bb6.alloc z66 _
  have hd6 : Below w6.heap.size w6 (w6.alloc (.cells #[.int .i64 1, .int .i64 r, .string ⟨#[]⟩] 23)) := by go_grown
  have HM : Hid (∀ W, Below (w6.alloc (.cells #[.int .i64 1, .int .i64 r, .string ⟨#[]⟩] 23)).heap.size (w6.alloc (.cells #[.int .i64 1, .int .i64 r, .string ⟨#[]⟩] 23)) W → W.cell? ⟨w3.heap.size, 0, none⟩ = some (.int .i64 1) ∧ W.cell? ⟨w3.heap.size, 1, none⟩ = some (.int .i64 q) ∧ W.cell? ⟨w3.heap.size, 2, none⟩ = some (.string ⟨#[]⟩) ∧ W.cell? ⟨w6.heap.size, 0, none⟩ = some (.int .i64 1) ∧ W.cell? ⟨w6.heap.size, 1, none⟩ = some (.int .i64 r) ∧ W.cell? ⟨w6.heap.size, 2, none⟩ = some (.string ⟨#[]⟩) ∧ Below (w6.alloc (.cells #[.int .i64 1, .int .i64 r, .string ⟨#[]⟩] 23)).heap.size (w6.alloc (.cells #[.int .i64 1, .int .i64 r, .string ⟨#[]⟩] 23)) W) := fun W h =>
    ⟨(h.cell (by simp; omega)).trans ((hd6.cell (by exact zz)).trans c0), (h.cell (by simp; omega)).trans ((hd6.cell (by exact zz)).trans c1), (h.cell (by simp; omega)).trans ((hd6.cell (by exact zz)).trans c2), (h.cell (by simp)).trans (by simp), (h.cell (by simp)).trans (by simp), (h.cell (by simp)).trans (by simp), h⟩
  clear hb6
  go_wp2_with fail
  refine (HF.out _).mono ?_
  rintro e w7 ⟨rfl, hb⟩
  go_wp2_with fail
  refine (awake_any _ (HE.out.below (two b7 hb))).mono ?_
  rintro e w8 ⟨rfl, hb2⟩
  go_wp2_with fail
  go_ret
  exact ⟨rfl, two (two b7 hb) hb2⟩

theorem tmod_signs (a b : Int) (hb : b ≠ 0) : (0 ≤ a → 0 ≤ a.tmod b) ∧ (a ≤ 0 → a.tmod b ≤ 0) ∧ (0 < b → a.tmod b < b ∧ -b < a.tmod b) ∧ (b < 0 → b < a.tmod b ∧ a.tmod b < -b) := by
  have e : (a.tmod b).natAbs = a.natAbs % b.natAbs := Int.natAbs_tmod a b
  have l : a.natAbs % b.natAbs < b.natAbs := Nat.mod_lt _ (by omega)
  have p1 : 0 ≤ a → 0 ≤ a.tmod b := Int.tmod_nonneg b
  have p2 : a ≤ 0 → a.tmod b ≤ 0 := by
    intro h
    have := Int.tmod_nonneg b (show 0 ≤ -a by omega)
    rw [Int.neg_tmod] at this; omega
  exact ⟨p1, p2, fun h => by omega, fun h => by omega⟩
theorem quo_law (a b : Int) (w : World) (a0 : -9223372036854775808 ≤ a) (a1 : a ≤ 9223372036854775807) (b0 : -9223372036854775808 ≤ b) (b1 : b ≤ 9223372036854775807) (hE : Env w) :
    Calls Tryd.prog 5 #[.int .i64 a, .int .i64 b] w fun e w' => e = .returned (.bool true) ∧ Below w.heap.size w w' := by
  by_cases hz : b = 0
  · subst hz; exact quo_z a w hE
  by_cases hn : b = -1
  · subst hn
    by_cases hm : a = -9223372036854775808
    · subst hm; exact quo_m w hE
    · exact quo_n a a0 a1 hm w hE
  obtain ⟨p1, p2, p3, p4⟩ := tmod_signs a b hz
  have hs : a.tdiv b * b + a.tmod b = a := by have := Int.tmod_add_mul_tdiv a b; rw [Int.mul_comm b] at this; omega
  refine quo_o a a0 a1 b b0 b1 hz hn _ _ rfl rfl (fun w => fits_true a b _ _ w hs b0 b1 hz a0 a1 p1 p2 p3 p4 ?_) w hE
  by_cases h : 0 ≤ a
  · have := p1 h
    have hl : a.tmod b ≤ a := by
      have e : (a.tmod b).natAbs = a.natAbs % b.natAbs := Int.natAbs_tmod a b
      have l : a.natAbs % b.natAbs ≤ a.natAbs := Nat.mod_le _ _
      omega
    unfold In64; omega
  · have := p2 (by omega)
    have hl : a ≤ a.tmod b := by
      have e : (a.tmod b).natAbs = a.natAbs % b.natAbs := Int.natAbs_tmod a b
      have l : a.natAbs % b.natAbs ≤ a.natAbs := Nat.mod_le _ _
      omega
    unfold In64; omega
end Go.Proofs.YtedpgeilamhipaaDoor.Va
