/- The walk of the law on products. -/
import Derived.Test.YtedpgeilamhipaaDoorValWalk7
set_option linter.unusedVariables false
set_option linter.unusedSimpArgs false
namespace Go.Proofs.YtedpgeilamhipaaDoor.Va
open Go.RowKit Go Ba

theorem u_neg {a : Int} (h0 : -9223372036854775808 ≤ a) (h1 : a < 0) : ∃ p, IntKind.u64.wrap a = p ∧ 0 < p ∧ p ≤ 18446744073709551615 ∧ IntKind.u64.wrap (-p) = -a :=
  ⟨a + 18446744073709551616, by rw [IntKind.wrap_u64]; omega, by omega, by omega, by rw [IntKind.wrap_u64]; omega⟩
theorem big_nn (a b x y : Int) (w : World) (a0 : -9223372036854775808 ≤ a) (a1 : a < 0) (b0 : -9223372036854775808 ≤ b) (b1 : b < 0) (hx : x = -a) (hy : y = -b) :
    Calls Tryd.prog 19 #[.int .i64 a, .int .i64 b] w fun e w' => e = .returned (.bool (decide (9223372036854775807 / y < x))) ∧ w' = w := by
  obtain ⟨p, f1, p0, p1, f2⟩ := u_neg a0 a1
  have x0 : 0 < x := by omega
  have x1 : x ≤ 9223372036854775808 := by omega
  rw [← hx] at f2
  have HX := Lib.hid hx
  clear hx
  obtain ⟨q, f3, q0, q1, f4⟩ := u_neg b0 b1
  have y0 : 0 < y := by omega
  have y1 : y ≤ 9223372036854775808 := by omega
  rw [← hy] at f4
  have HY := Lib.hid hy
  clear hy
  have d1 : (y == 0) = false := by simp; omega
  go_enter Tryd.func19, Tryd.ntmps19
  go_wp2_with fail
  go_ret
  exact ⟨rfl, rfl⟩
theorem big_np (a b x y : Int) (w : World) (a0 : -9223372036854775808 ≤ a) (a1 : a < 0) (b0 : 0 < b) (b1 : b ≤ 9223372036854775807) (hx : x = -a) (hy : y = b) :
    Calls Tryd.prog 19 #[.int .i64 a, .int .i64 b] w fun e w' => e = .returned (.bool (decide (9223372036854775808 / y < x))) ∧ w' = w := by
  obtain ⟨p, f1, p0, p1, f2⟩ := u_neg a0 a1
  have x0 : 0 < x := by omega
  have x1 : x ≤ 9223372036854775808 := by omega
  rw [← hx] at f2
  have HX := Lib.hid hx
  clear hx
  subst hy
  have e2 : decide (y < 0) = false := by simp; omega
  have d1 : (y == 0) = false := by simp; omega
  go_enter Tryd.func19, Tryd.ntmps19
  go_wp2_with fail
  go_ret
  exact ⟨rfl, rfl⟩
theorem big_pn (a b x y : Int) (w : World) (a0 : 0 < a) (a1 : a ≤ 9223372036854775807) (b0 : -9223372036854775808 ≤ b) (b1 : b < 0) (hx : x = a) (hy : y = -b) :
    Calls Tryd.prog 19 #[.int .i64 a, .int .i64 b] w fun e w' => e = .returned (.bool (decide (9223372036854775808 / y < x))) ∧ w' = w := by
  subst hx
  have e1 : decide (x < 0) = false := by simp; omega
  obtain ⟨q, f3, q0, q1, f4⟩ := u_neg b0 b1
  have y0 : 0 < y := by omega
  have y1 : y ≤ 9223372036854775808 := by omega
  rw [← hy] at f4
  have HY := Lib.hid hy
  clear hy
  have d1 : (y == 0) = false := by simp; omega
  go_enter Tryd.func19, Tryd.ntmps19
  go_wp2_with fail
  go_ret
  exact ⟨rfl, rfl⟩
theorem big_pp (a b x y : Int) (w : World) (a0 : 0 < a) (a1 : a ≤ 9223372036854775807) (b0 : 0 < b) (b1 : b ≤ 9223372036854775807) (hx : x = a) (hy : y = b) :
    Calls Tryd.prog 19 #[.int .i64 a, .int .i64 b] w fun e w' => e = .returned (.bool (decide (9223372036854775807 / y < x))) ∧ w' = w := by
  subst hx
  have e1 : decide (x < 0) = false := by simp; omega
  subst hy
  have e2 : decide (y < 0) = false := by simp; omega
  have d1 : (y == 0) = false := by simp; omega
  go_enter Tryd.func19, Tryd.ntmps19
  go_wp2_with fail
  go_ret
  exact ⟨rfl, rfl⟩
theorem big_iff {m x y : Int} (hy : 0 < y) : m / y < x ↔ m < x * y := by
  rw [Int.ediv_lt_iff_lt_mul hy]
/-- Is a product too great? -/
theorem big_any (a b : Int) (w : World) (a0 : -9223372036854775808 ≤ a) (a1 : a ≤ 9223372036854775807) (b0 : -9223372036854775808 ≤ b) (b1 : b ≤ 9223372036854775807) (ha : a ≠ 0) (hb : b ≠ 0) (ok : Bool) (hok : In64 (a * b) ↔ ok = true) :
    Calls Tryd.prog 19 #[.int .i64 a, .int .i64 b] w fun e w' => e = .returned (.bool (!ok)) ∧ w' = w := by
  have K : ∀ c : Prop, [Decidable c] → (c ↔ ¬ In64 (a * b)) → decide c = !ok := by
    intro c _ hc
    cases ok
    · have : c := hc.2 (fun h => by have := hok.1 h; cases this)
      simp [this]
    · have : ¬ c := fun h => hc.1 h (hok.2 rfl)
      simp [this]
  by_cases an : a < 0
  · by_cases bn : b < 0
    · have hp : 0 < (-a) * (-b) := Int.mul_pos (by omega) (by omega)
      have e : (-a) * (-b) = a * b := Int.neg_mul_neg a b
      have := big_nn a b _ _ w a0 an b0 bn rfl rfl
      rw [K _ (by rw [big_iff (by omega), e]; rw [e] at hp; unfold In64; omega)] at this
      exact this
    · have hp : 0 < (-a) * b := Int.mul_pos (by omega) (by omega)
      have e : (-a) * b = - (a * b) := Int.neg_mul a b
      have := big_np a b _ _ w a0 an (by omega) b1 rfl rfl
      rw [K _ (by rw [big_iff (by omega), e]; rw [e] at hp; unfold In64; omega)] at this
      exact this
  · by_cases bn : b < 0
    · have hp : 0 < a * (-b) := Int.mul_pos (by omega) (by omega)
      have e : a * (-b) = - (a * b) := Int.mul_neg a b
      have := big_pn a b _ _ w (by omega) a1 b0 bn rfl rfl
      rw [K _ (by rw [big_iff (by omega), e]; rw [e] at hp; unfold In64; omega)] at this
      exact this
    · have hp : 0 < a * b := Int.mul_pos (by omega) (by omega)
      have := big_pp a b _ _ w (by omega) a1 (by omega) b1 rfl rfl
      rw [K _ (by rw [big_iff (by omega)]; unfold In64; omega)] at this
      exact this

set_option maxRecDepth 100000 in
set_option maxHeartbeats 1600000 in
theorem prod_za (b : Int) (w : World) (hE : Env w) :
    Calls Tryd.prog 6 #[.int .i64 0, .int .i64 b] w fun e w' => e = .returned (.bool true) ∧ Below w.heap.size w w' := by
  have HE := Lib.hid hE
  clear hE
  have HA : Hid (Numbers 42 1 0 ⟨#[]⟩ 1 b ⟨#[]⟩ 0) := arith_ok 42 1 0 ⟨#[]⟩ 1 b ⟨#[]⟩ _ (by decide) (by decide) (.inr (.inr (.inl rfl))) (by decide) (by decide) (by decide) (by decide) (fun _ => ⟨by decide, by decide⟩) (mul_of (mult_zero (.inl rfl)))
  have HS : Hid (Numbers 42 1 b ⟨#[]⟩ 1 0 ⟨#[]⟩ 0) := arith_ok 42 1 b ⟨#[]⟩ 1 0 ⟨#[]⟩ _ (by decide) (by decide) (.inr (.inr (.inl rfl))) (by decide) (by decide) (by decide) (by decide) (fun _ => ⟨by decide, by decide⟩) (mul_of (mult_zero (.inr rfl)))
  go_enter Tryd.func6, Tryd.ntmps6
  go_wp2_with fail
  refine (of_any 0 _).mono ?_
  rintro e w1 ⟨rfl, bb1⟩
  go_wp2_with fail
  refine (of_any b _).mono ?_
  rintro e w2 ⟨rfl, hb⟩
  have bb2 := two bb1 hb
  clear hb
  go_wp2_with fail
  refine (HA.out _).mono ?_
  rintro e w3 ⟨rfl, hb⟩
  have bb3 := two bb2 hb
  have z3 := bb3.size
  clear hb
  go_wp2_with fail
  refine (of_any b _).mono ?_
  rintro e w4 ⟨rfl, hb4⟩
  go_wp2_with fail
  refine (of_any 0 _).mono ?_
  rintro e w5 ⟨rfl, hb⟩
  have hb5 := two hb4 hb
  clear hb
  go_wp2_with fail
  refine (HS.out _).mono ?_
  rintro e w6 ⟨rfl, hb⟩
  have hb6 := two hb5 hb
  clear hb hb4 hb5
  have z6 := hb6.size
  simp only [World.size_alloc] at z6
  have zz : w3.heap.size < w6.heap.size := by omega
  have c0 : w6.cell? ⟨w3.heap.size, 0, none⟩ = some (.int .i64 1) := box hb6 (by simp) 0
  have c1 : w6.cell? ⟨w3.heap.size, 1, none⟩ = some (.int .i64 0) := box hb6 (by simp) 1
  have c2 : w6.cell? ⟨w3.heap.size, 2, none⟩ = some (.string ⟨#[]⟩) := box hb6 (by simp) 2
  have bb6 := next (w := w) (B := w.heap.size) (bb3.alloc z3 _) hb6 (Nat.le_refl _)
  have z66 := bb6.size
  have b7 : Below w.heap.size w (w6.alloc (.cells #[.int .i64 1, .int .i64 0, .string ⟨#[]⟩] 23)) := bb6.alloc z66 _
  have hd6 : Below w6.heap.size w6 (w6.alloc (.cells #[.int .i64 1, .int .i64 0, .string ⟨#[]⟩] 23)) := by go_grown
  have HM : Hid (∀ W, Below (w6.alloc (.cells #[.int .i64 1, .int .i64 0, .string ⟨#[]⟩] 23)).heap.size (w6.alloc (.cells #[.int .i64 1, .int .i64 0, .string ⟨#[]⟩] 23)) W → W.cell? ⟨w3.heap.size, 0, none⟩ = some (.int .i64 1) ∧ W.cell? ⟨w3.heap.size, 1, none⟩ = some (.int .i64 0) ∧ W.cell? ⟨w3.heap.size, 2, none⟩ = some (.string ⟨#[]⟩) ∧ W.cell? ⟨w6.heap.size, 0, none⟩ = some (.int .i64 1) ∧ W.cell? ⟨w6.heap.size, 1, none⟩ = some (.int .i64 0) ∧ W.cell? ⟨w6.heap.size, 2, none⟩ = some (.string ⟨#[]⟩) ∧ Below (w6.alloc (.cells #[.int .i64 1, .int .i64 0, .string ⟨#[]⟩] 23)).heap.size (w6.alloc (.cells #[.int .i64 1, .int .i64 0, .string ⟨#[]⟩] 23)) W) := fun W h =>
    ⟨(h.cell (by simp; omega)).trans ((hd6.cell (by exact zz)).trans c0), (h.cell (by simp; omega)).trans ((hd6.cell (by exact zz)).trans c1), (h.cell (by simp; omega)).trans ((hd6.cell (by exact zz)).trans c2), (h.cell (by simp)).trans (by simp), (h.cell (by simp)).trans (by simp), (h.cell (by simp)).trans (by simp), h⟩
  clear hb6
  go_wp2_with fail
  refine wp_region_held_drew (S := (fun w' => w'.cell? ⟨w3.heap.size, 0, none⟩ = some (.int .i64 1) ∧ w'.cell? ⟨w3.heap.size, 1, none⟩ = some (.int .i64 0) ∧ w'.cell? ⟨w3.heap.size, 2, none⟩ = some (.string ⟨#[]⟩) ∧ w'.cell? ⟨w6.heap.size, 0, none⟩ = some (.int .i64 1) ∧ w'.cell? ⟨w6.heap.size, 1, none⟩ = some (.int .i64 0) ∧ w'.cell? ⟨w6.heap.size, 2, none⟩ = some (.string ⟨#[]⟩) ∧ Below (w6.alloc (.cells #[.int .i64 1, .int .i64 0, .string ⟨#[]⟩] 23)).heap.size (w6.alloc (.cells #[.int .i64 1, .int .i64 0, .string ⟨#[]⟩] 23)) w')) (by kernel_rfl) (by exact HM.out _ (Below.drew (by go_grown))) (fun hHeld => ?_)
  first
  | (refine wpAnyH_take (i := 0) (v := ?v3x0) rfl (by kernel_rfl) (by kernel_rfl) (by kernel_rfl) (fun _ _ _ h => h) (Or.inl ⟨by rfl, ?hy3x0⟩) hHeld ?rest3x0
     case hy3x0 => (intro w hSw; (try dsimp only at hSw); go_simp <;> with_reducible rfl)
     try simp only [Array.reduceGetElem, Act.put, List.setIfInBounds_toArray, List.set_cons_zero, List.set_cons_succ])
  | (refine wpAnyH_take (i := 0) rfl (by kernel_rfl) (by kernel_rfl) (by kernel_rfl) (fun _ _ _ h => h) (Or.inr ⟨by rfl, rfl⟩) hHeld ?rest3x0
     try simp only [Array.reduceGetElem, Act.put, List.setIfInBounds_toArray, List.set_cons_zero, List.set_cons_succ])
  first
  | (refine wpAnyH_take (i := 1) (v := ?v3x1) rfl (by kernel_rfl) (by kernel_rfl) (by kernel_rfl) (fun _ _ _ h => h) (Or.inl ⟨by rfl, ?hy3x1⟩) hHeld ?rest3x1
     case hy3x1 => (intro w hSw; (try dsimp only at hSw); go_simp <;> with_reducible rfl)
     try simp only [Array.reduceGetElem, Act.put, List.setIfInBounds_toArray, List.set_cons_zero, List.set_cons_succ])
  | (refine wpAnyH_take (i := 1) rfl (by kernel_rfl) (by kernel_rfl) (by kernel_rfl) (fun _ _ _ h => h) (Or.inr ⟨by rfl, rfl⟩) hHeld ?rest3x1
     try simp only [Array.reduceGetElem, Act.put, List.setIfInBounds_toArray, List.set_cons_zero, List.set_cons_succ])
  first
  | (refine wpAnyH_take (i := 2) (v := ?v3x2) rfl (by kernel_rfl) (by kernel_rfl) (by kernel_rfl) (fun _ _ _ h => h) (Or.inl ⟨by rfl, ?hy3x2⟩) hHeld ?rest3x2
     case hy3x2 => (intro w hSw; (try dsimp only at hSw); go_simp <;> with_reducible rfl)
     try simp only [Array.reduceGetElem, Act.put, List.setIfInBounds_toArray, List.set_cons_zero, List.set_cons_succ])
  | (refine wpAnyH_take (i := 2) rfl (by kernel_rfl) (by kernel_rfl) (by kernel_rfl) (fun _ _ _ h => h) (Or.inr ⟨by rfl, rfl⟩) hHeld ?rest3x2
     try simp only [Array.reduceGetElem, Act.put, List.setIfInBounds_toArray, List.set_cons_zero, List.set_cons_succ])
  first
  | (refine wpAnyH_take (i := 3) (v := ?v3x3) rfl (by kernel_rfl) (by kernel_rfl) (by kernel_rfl) (fun _ _ _ h => h) (Or.inl ⟨by rfl, ?hy3x3⟩) hHeld ?rest3x3
     case hy3x3 => (intro w hSw; (try dsimp only at hSw); go_simp <;> with_reducible rfl)
     try simp only [Array.reduceGetElem, Act.put, List.setIfInBounds_toArray, List.set_cons_zero, List.set_cons_succ])
  | (refine wpAnyH_take (i := 3) rfl (by kernel_rfl) (by kernel_rfl) (by kernel_rfl) (fun _ _ _ h => h) (Or.inr ⟨by rfl, rfl⟩) hHeld ?rest3x3
     try simp only [Array.reduceGetElem, Act.put, List.setIfInBounds_toArray, List.set_cons_zero, List.set_cons_succ])
  refine wpAnyH_ready (rs := [4]) (by kernel_rfl) (by simp) ?_
  refine AllReadyH.cons rfl (fun K hK => ?_) AllReadyH.nil
  go_simp
  go_at_call 13; refine (of_any _ _).mono ?_; rintro e w' ⟨rfl, hb⟩; go_wp2_with fail
  refine hK.out _ _ ?_ (fun hHeld2 => ?_)
  · exact HM.out _ (two hHeld.2.2.2.2.2.2 hb)
  clear hK K hHeld
  have hHeld := hHeld2
  clear hHeld2
  try simp only [Array.reduceGetElem, Act.put, List.setIfInBounds_toArray, List.set_cons_zero, List.set_cons_succ]
  first
  | (refine wpAnyH_take (i := 5) (v := ?v3x5) rfl (by kernel_rfl) (by kernel_rfl) (by kernel_rfl) (fun _ _ _ h => h) (Or.inl ⟨by rfl, ?hy3x5⟩) hHeld ?rest3x5
     case hy3x5 => (intro w hSw; (try dsimp only at hSw); go_simp <;> with_reducible rfl)
     try simp only [Array.reduceGetElem, Act.put, List.setIfInBounds_toArray, List.set_cons_zero, List.set_cons_succ])
  | (refine wpAnyH_take (i := 5) rfl (by kernel_rfl) (by kernel_rfl) (by kernel_rfl) (fun _ _ _ h => h) (Or.inr ⟨by rfl, rfl⟩) hHeld ?rest3x5
     try simp only [Array.reduceGetElem, Act.put, List.setIfInBounds_toArray, List.set_cons_zero, List.set_cons_succ])
  first
  | (refine wpAnyH_take (i := 6) (v := ?v3x6) rfl (by kernel_rfl) (by kernel_rfl) (by kernel_rfl) (fun _ _ _ h => h) (Or.inl ⟨by rfl, ?hy3x6⟩) hHeld ?rest3x6
     case hy3x6 => (intro w hSw; (try dsimp only at hSw); go_simp <;> with_reducible rfl)
     try simp only [Array.reduceGetElem, Act.put, List.setIfInBounds_toArray, List.set_cons_zero, List.set_cons_succ])
  | (refine wpAnyH_take (i := 6) rfl (by kernel_rfl) (by kernel_rfl) (by kernel_rfl) (fun _ _ _ h => h) (Or.inr ⟨by rfl, rfl⟩) hHeld ?rest3x6
     try simp only [Array.reduceGetElem, Act.put, List.setIfInBounds_toArray, List.set_cons_zero, List.set_cons_succ])
  first
  | (refine wpAnyH_take (i := 7) (v := ?v3x7) rfl (by kernel_rfl) (by kernel_rfl) (by kernel_rfl) (fun _ _ _ h => h) (Or.inl ⟨by rfl, ?hy3x7⟩) hHeld ?rest3x7
     case hy3x7 => (intro w hSw; (try dsimp only at hSw); go_simp <;> with_reducible rfl)
     try simp only [Array.reduceGetElem, Act.put, List.setIfInBounds_toArray, List.set_cons_zero, List.set_cons_succ])
  | (refine wpAnyH_take (i := 7) rfl (by kernel_rfl) (by kernel_rfl) (by kernel_rfl) (fun _ _ _ h => h) (Or.inr ⟨by rfl, rfl⟩) hHeld ?rest3x7
     try simp only [Array.reduceGetElem, Act.put, List.setIfInBounds_toArray, List.set_cons_zero, List.set_cons_succ])
  refine wpAnyH_ready (rs := [8]) (by kernel_rfl) (by simp) ?_
  refine AllReadyH.cons rfl (fun K hK => ?_) AllReadyH.nil
  go_simp
  go_at_call 16; refine (awake_any _ (HE.out.below (two b7 hHeld.2.2.2.2.2.2))).mono ?_; rintro e w' ⟨rfl, hb⟩; go_wp2_with fail
  refine hK.out _ _ ?_ (fun hHeld2 => ?_)
  · exact HM.out _ (two hHeld.2.2.2.2.2.2 hb)
  clear hK K hHeld
  have hHeld := hHeld2
  clear hHeld2
  try simp only [Array.reduceGetElem, Act.put, List.setIfInBounds_toArray, List.set_cons_zero, List.set_cons_succ]
  first
  | (refine wpAnyH_take (i := 9) (v := ?v3x9) rfl (by kernel_rfl) (by kernel_rfl) (by kernel_rfl) (fun _ _ _ h => h) (Or.inl ⟨by rfl, ?hy3x9⟩) hHeld ?rest3x9
     case hy3x9 => (intro w hSw; (try dsimp only at hSw); go_simp <;> with_reducible rfl)
     try simp only [Array.reduceGetElem, Act.put, List.setIfInBounds_toArray, List.set_cons_zero, List.set_cons_succ])
  | (refine wpAnyH_take (i := 9) rfl (by kernel_rfl) (by kernel_rfl) (by kernel_rfl) (fun _ _ _ h => h) (Or.inr ⟨by rfl, rfl⟩) hHeld ?rest3x9
     try simp only [Array.reduceGetElem, Act.put, List.setIfInBounds_toArray, List.set_cons_zero, List.set_cons_succ])
  first
  | (refine wpAnyH_take (i := 10) (v := ?v3x10) rfl (by kernel_rfl) (by kernel_rfl) (by kernel_rfl) (fun _ _ _ h => h) (Or.inl ⟨by rfl, ?hy3x10⟩) hHeld ?rest3x10
     case hy3x10 => (intro w hSw; (try dsimp only at hSw); go_simp <;> with_reducible rfl)
     try simp only [Array.reduceGetElem, Act.put, List.setIfInBounds_toArray, List.set_cons_zero, List.set_cons_succ])
  | (refine wpAnyH_take (i := 10) rfl (by kernel_rfl) (by kernel_rfl) (by kernel_rfl) (fun _ _ _ h => h) (Or.inr ⟨by rfl, rfl⟩) hHeld ?rest3x10
     try simp only [Array.reduceGetElem, Act.put, List.setIfInBounds_toArray, List.set_cons_zero, List.set_cons_succ])
  refine wpAnyH_done (by kernel_rfl) ?_ _
  go_wp2_with fail
  go_ret
  exact ⟨rfl, two b7 hHeld.2.2.2.2.2.2⟩

set_option maxRecDepth 100000 in
set_option maxHeartbeats 1600000 in
theorem prod_zb (a : Int) (ha : (a == 0) = false) (w : World) (hE : Env w) :
    Calls Tryd.prog 6 #[.int .i64 a, .int .i64 0] w fun e w' => e = .returned (.bool true) ∧ Below w.heap.size w w' := by
  have HE := Lib.hid hE
  clear hE
  have HA : Hid (Numbers 42 1 a ⟨#[]⟩ 1 0 ⟨#[]⟩ 0) := arith_ok 42 1 a ⟨#[]⟩ 1 0 ⟨#[]⟩ _ (by decide) (by decide) (.inr (.inr (.inl rfl))) (by decide) (by decide) (by decide) (by decide) (fun _ => ⟨by decide, by decide⟩) (mul_of (mult_zero (.inr rfl)))
  have HS : Hid (Numbers 42 1 0 ⟨#[]⟩ 1 a ⟨#[]⟩ 0) := arith_ok 42 1 0 ⟨#[]⟩ 1 a ⟨#[]⟩ _ (by decide) (by decide) (.inr (.inr (.inl rfl))) (by decide) (by decide) (by decide) (by decide) (fun _ => ⟨by decide, by decide⟩) (mul_of (mult_zero (.inl rfl)))
  go_enter Tryd.func6, Tryd.ntmps6
  go_wp2_with fail
  refine (of_any a _).mono ?_
  rintro e w1 ⟨rfl, bb1⟩
  go_wp2_with fail
  refine (of_any 0 _).mono ?_
  rintro e w2 ⟨rfl, hb⟩
  have bb2 := two bb1 hb
  clear hb
  go_wp2_with fail
  refine (HA.out _).mono ?_
  rintro e w3 ⟨rfl, hb⟩
  have bb3 := two bb2 hb
  have z3 := bb3.size
  clear hb
  go_wp2_with fail
  refine (of_any 0 _).mono ?_
  rintro e w4 ⟨rfl, hb4⟩
  go_wp2_with fail
  refine (of_any a _).mono ?_
  rintro e w5 ⟨rfl, hb⟩
  have hb5 := two hb4 hb
  clear hb
  go_wp2_with fail
  refine (HS.out _).mono ?_
  rintro e w6 ⟨rfl, hb⟩
  have hb6 := two hb5 hb
  clear hb hb4 hb5
  have z6 := hb6.size
  simp only [World.size_alloc] at z6
  have zz : w3.heap.size < w6.heap.size := by omega
  have c0 : w6.cell? ⟨w3.heap.size, 0, none⟩ = some (.int .i64 1) := box hb6 (by simp) 0
  have c1 : w6.cell? ⟨w3.heap.size, 1, none⟩ = some (.int .i64 0) := box hb6 (by simp) 1
  have c2 : w6.cell? ⟨w3.heap.size, 2, none⟩ = some (.string ⟨#[]⟩) := box hb6 (by simp) 2
  have bb6 := next (w := w) (B := w.heap.size) (bb3.alloc z3 _) hb6 (Nat.le_refl _)
  have z66 := bb6.size
  have b7 : Below w.heap.size w (w6.alloc (.cells #[.int .i64 1, .int .i64 0, .string ⟨#[]⟩] 23)) := bb6.alloc z66 _
  have hd6 : Below w6.heap.size w6 (w6.alloc (.cells #[.int .i64 1, .int .i64 0, .string ⟨#[]⟩] 23)) := by go_grown
  have HM : Hid (∀ W, Below (w6.alloc (.cells #[.int .i64 1, .int .i64 0, .string ⟨#[]⟩] 23)).heap.size (w6.alloc (.cells #[.int .i64 1, .int .i64 0, .string ⟨#[]⟩] 23)) W → W.cell? ⟨w3.heap.size, 0, none⟩ = some (.int .i64 1) ∧ W.cell? ⟨w3.heap.size, 1, none⟩ = some (.int .i64 0) ∧ W.cell? ⟨w3.heap.size, 2, none⟩ = some (.string ⟨#[]⟩) ∧ W.cell? ⟨w6.heap.size, 0, none⟩ = some (.int .i64 1) ∧ W.cell? ⟨w6.heap.size, 1, none⟩ = some (.int .i64 0) ∧ W.cell? ⟨w6.heap.size, 2, none⟩ = some (.string ⟨#[]⟩) ∧ Below (w6.alloc (.cells #[.int .i64 1, .int .i64 0, .string ⟨#[]⟩] 23)).heap.size (w6.alloc (.cells #[.int .i64 1, .int .i64 0, .string ⟨#[]⟩] 23)) W) := fun W h =>
    ⟨(h.cell (by simp; omega)).trans ((hd6.cell (by exact zz)).trans c0), (h.cell (by simp; omega)).trans ((hd6.cell (by exact zz)).trans c1), (h.cell (by simp; omega)).trans ((hd6.cell (by exact zz)).trans c2), (h.cell (by simp)).trans (by simp), (h.cell (by simp)).trans (by simp), (h.cell (by simp)).trans (by simp), h⟩
  clear hb6
  go_wp2_with fail
  refine wp_region_held_drew (S := (fun w' => w'.cell? ⟨w3.heap.size, 0, none⟩ = some (.int .i64 1) ∧ w'.cell? ⟨w3.heap.size, 1, none⟩ = some (.int .i64 0) ∧ w'.cell? ⟨w3.heap.size, 2, none⟩ = some (.string ⟨#[]⟩) ∧ w'.cell? ⟨w6.heap.size, 0, none⟩ = some (.int .i64 1) ∧ w'.cell? ⟨w6.heap.size, 1, none⟩ = some (.int .i64 0) ∧ w'.cell? ⟨w6.heap.size, 2, none⟩ = some (.string ⟨#[]⟩) ∧ Below (w6.alloc (.cells #[.int .i64 1, .int .i64 0, .string ⟨#[]⟩] 23)).heap.size (w6.alloc (.cells #[.int .i64 1, .int .i64 0, .string ⟨#[]⟩] 23)) w')) (by kernel_rfl) (by exact HM.out _ (Below.drew (by go_grown))) (fun hHeld => ?_)
  first
  | (refine wpAnyH_take (i := 0) (v := ?v4x0) rfl (by kernel_rfl) (by kernel_rfl) (by kernel_rfl) (fun _ _ _ h => h) (Or.inl ⟨by rfl, ?hy4x0⟩) hHeld ?rest4x0
     case hy4x0 => (intro w hSw; (try dsimp only at hSw); go_simp <;> with_reducible rfl)
     try simp only [Array.reduceGetElem, Act.put, List.setIfInBounds_toArray, List.set_cons_zero, List.set_cons_succ])
  | (refine wpAnyH_take (i := 0) rfl (by kernel_rfl) (by kernel_rfl) (by kernel_rfl) (fun _ _ _ h => h) (Or.inr ⟨by rfl, rfl⟩) hHeld ?rest4x0
     try simp only [Array.reduceGetElem, Act.put, List.setIfInBounds_toArray, List.set_cons_zero, List.set_cons_succ])
  first
  | (refine wpAnyH_take (i := 1) (v := ?v4x1) rfl (by kernel_rfl) (by kernel_rfl) (by kernel_rfl) (fun _ _ _ h => h) (Or.inl ⟨by rfl, ?hy4x1⟩) hHeld ?rest4x1
     case hy4x1 => (intro w hSw; (try dsimp only at hSw); go_simp <;> with_reducible rfl)
     try simp only [Array.reduceGetElem, Act.put, List.setIfInBounds_toArray, List.set_cons_zero, List.set_cons_succ])
  | (refine wpAnyH_take (i := 1) rfl (by kernel_rfl) (by kernel_rfl) (by kernel_rfl) (fun _ _ _ h => h) (Or.inr ⟨by rfl, rfl⟩) hHeld ?rest4x1
     try simp only [Array.reduceGetElem, Act.put, List.setIfInBounds_toArray, List.set_cons_zero, List.set_cons_succ])
  first
  | (refine wpAnyH_take (i := 2) (v := ?v4x2) rfl (by kernel_rfl) (by kernel_rfl) (by kernel_rfl) (fun _ _ _ h => h) (Or.inl ⟨by rfl, ?hy4x2⟩) hHeld ?rest4x2
     case hy4x2 => (intro w hSw; (try dsimp only at hSw); go_simp <;> with_reducible rfl)
     try simp only [Array.reduceGetElem, Act.put, List.setIfInBounds_toArray, List.set_cons_zero, List.set_cons_succ])
  | (refine wpAnyH_take (i := 2) rfl (by kernel_rfl) (by kernel_rfl) (by kernel_rfl) (fun _ _ _ h => h) (Or.inr ⟨by rfl, rfl⟩) hHeld ?rest4x2
     try simp only [Array.reduceGetElem, Act.put, List.setIfInBounds_toArray, List.set_cons_zero, List.set_cons_succ])
  first
  | (refine wpAnyH_take (i := 3) (v := ?v4x3) rfl (by kernel_rfl) (by kernel_rfl) (by kernel_rfl) (fun _ _ _ h => h) (Or.inl ⟨by rfl, ?hy4x3⟩) hHeld ?rest4x3
     case hy4x3 => (intro w hSw; (try dsimp only at hSw); go_simp <;> with_reducible rfl)
     try simp only [Array.reduceGetElem, Act.put, List.setIfInBounds_toArray, List.set_cons_zero, List.set_cons_succ])
  | (refine wpAnyH_take (i := 3) rfl (by kernel_rfl) (by kernel_rfl) (by kernel_rfl) (fun _ _ _ h => h) (Or.inr ⟨by rfl, rfl⟩) hHeld ?rest4x3
     try simp only [Array.reduceGetElem, Act.put, List.setIfInBounds_toArray, List.set_cons_zero, List.set_cons_succ])
  refine wpAnyH_ready (rs := [4]) (by kernel_rfl) (by simp) ?_
  refine AllReadyH.cons rfl (fun K hK => ?_) AllReadyH.nil
  go_simp
  go_at_call 13; refine (of_any _ _).mono ?_; rintro e w' ⟨rfl, hb⟩; go_wp2_with fail
  refine hK.out _ _ ?_ (fun hHeld2 => ?_)
  · exact HM.out _ (two hHeld.2.2.2.2.2.2 hb)
  clear hK K hHeld
  have hHeld := hHeld2
  clear hHeld2
  try simp only [Array.reduceGetElem, Act.put, List.setIfInBounds_toArray, List.set_cons_zero, List.set_cons_succ]
  first
  | (refine wpAnyH_take (i := 5) (v := ?v4x5) rfl (by kernel_rfl) (by kernel_rfl) (by kernel_rfl) (fun _ _ _ h => h) (Or.inl ⟨by rfl, ?hy4x5⟩) hHeld ?rest4x5
     case hy4x5 => (intro w hSw; (try dsimp only at hSw); go_simp <;> with_reducible rfl)
     try simp only [Array.reduceGetElem, Act.put, List.setIfInBounds_toArray, List.set_cons_zero, List.set_cons_succ])
  | (refine wpAnyH_take (i := 5) rfl (by kernel_rfl) (by kernel_rfl) (by kernel_rfl) (fun _ _ _ h => h) (Or.inr ⟨by rfl, rfl⟩) hHeld ?rest4x5
     try simp only [Array.reduceGetElem, Act.put, List.setIfInBounds_toArray, List.set_cons_zero, List.set_cons_succ])
  first
  | (refine wpAnyH_take (i := 6) (v := ?v4x6) rfl (by kernel_rfl) (by kernel_rfl) (by kernel_rfl) (fun _ _ _ h => h) (Or.inl ⟨by rfl, ?hy4x6⟩) hHeld ?rest4x6
     case hy4x6 => (intro w hSw; (try dsimp only at hSw); go_simp <;> with_reducible rfl)
     try simp only [Array.reduceGetElem, Act.put, List.setIfInBounds_toArray, List.set_cons_zero, List.set_cons_succ])
  | (refine wpAnyH_take (i := 6) rfl (by kernel_rfl) (by kernel_rfl) (by kernel_rfl) (fun _ _ _ h => h) (Or.inr ⟨by rfl, rfl⟩) hHeld ?rest4x6
     try simp only [Array.reduceGetElem, Act.put, List.setIfInBounds_toArray, List.set_cons_zero, List.set_cons_succ])
  first
  | (refine wpAnyH_take (i := 7) (v := ?v4x7) rfl (by kernel_rfl) (by kernel_rfl) (by kernel_rfl) (fun _ _ _ h => h) (Or.inl ⟨by rfl, ?hy4x7⟩) hHeld ?rest4x7
     case hy4x7 => (intro w hSw; (try dsimp only at hSw); go_simp <;> with_reducible rfl)
     try simp only [Array.reduceGetElem, Act.put, List.setIfInBounds_toArray, List.set_cons_zero, List.set_cons_succ])
  | (refine wpAnyH_take (i := 7) rfl (by kernel_rfl) (by kernel_rfl) (by kernel_rfl) (fun _ _ _ h => h) (Or.inr ⟨by rfl, rfl⟩) hHeld ?rest4x7
     try simp only [Array.reduceGetElem, Act.put, List.setIfInBounds_toArray, List.set_cons_zero, List.set_cons_succ])
  refine wpAnyH_ready (rs := [8]) (by kernel_rfl) (by simp) ?_
  refine AllReadyH.cons rfl (fun K hK => ?_) AllReadyH.nil
  go_simp
  go_at_call 16; refine (awake_any _ (HE.out.below (two b7 hHeld.2.2.2.2.2.2))).mono ?_; rintro e w' ⟨rfl, hb⟩; go_wp2_with fail
  refine hK.out _ _ ?_ (fun hHeld2 => ?_)
  · exact HM.out _ (two hHeld.2.2.2.2.2.2 hb)
  clear hK K hHeld
  have hHeld := hHeld2
  clear hHeld2
  try simp only [Array.reduceGetElem, Act.put, List.setIfInBounds_toArray, List.set_cons_zero, List.set_cons_succ]
  first
  | (refine wpAnyH_take (i := 9) (v := ?v4x9) rfl (by kernel_rfl) (by kernel_rfl) (by kernel_rfl) (fun _ _ _ h => h) (Or.inl ⟨by rfl, ?hy4x9⟩) hHeld ?rest4x9
     case hy4x9 => (intro w hSw; (try dsimp only at hSw); go_simp <;> with_reducible rfl)
     try simp only [Array.reduceGetElem, Act.put, List.setIfInBounds_toArray, List.set_cons_zero, List.set_cons_succ])
  | (refine wpAnyH_take (i := 9) rfl (by kernel_rfl) (by kernel_rfl) (by kernel_rfl) (fun _ _ _ h => h) (Or.inr ⟨by rfl, rfl⟩) hHeld ?rest4x9
     try simp only [Array.reduceGetElem, Act.put, List.setIfInBounds_toArray, List.set_cons_zero, List.set_cons_succ])
  first
  | (refine wpAnyH_take (i := 10) (v := ?v4x10) rfl (by kernel_rfl) (by kernel_rfl) (by kernel_rfl) (fun _ _ _ h => h) (Or.inl ⟨by rfl, ?hy4x10⟩) hHeld ?rest4x10
     case hy4x10 => (intro w hSw; (try dsimp only at hSw); go_simp <;> with_reducible rfl)
     try simp only [Array.reduceGetElem, Act.put, List.setIfInBounds_toArray, List.set_cons_zero, List.set_cons_succ])
  | (refine wpAnyH_take (i := 10) rfl (by kernel_rfl) (by kernel_rfl) (by kernel_rfl) (fun _ _ _ h => h) (Or.inr ⟨by rfl, rfl⟩) hHeld ?rest4x10
     try simp only [Array.reduceGetElem, Act.put, List.setIfInBounds_toArray, List.set_cons_zero, List.set_cons_succ])
  refine wpAnyH_done (by kernel_rfl) ?_ _
  go_wp2_with fail
  go_ret
  exact ⟨rfl, two b7 hHeld.2.2.2.2.2.2⟩

set_option maxRecDepth 100000 in
set_option maxHeartbeats 1600000 in
theorem prod_no (a b : Int) (hm : ∃ r, Mults a b r false) (hm2 : ∃ r, Mults b a r false) (hB : ∀ w, Calls Tryd.prog 19 #[.int .i64 a, .int .i64 b] w fun e w' => e = .returned (.bool true) ∧ w' = w) (d1 : (a == 0) = false) (d2 : (b == 0) = false) (w : World) (hE : Env w) :
    Calls Tryd.prog 6 #[.int .i64 a, .int .i64 b] w fun e w' => e = .returned (.bool true) ∧ Below w.heap.size w w' := by
  have HE := Lib.hid hE
  clear hE
  have HA : Hid (Refused 42 1 a ⟨#[]⟩ 1 b ⟨#[]⟩ 10) := arith_no 42 1 a ⟨#[]⟩ 1 b ⟨#[]⟩ _ (by decide) (by decide) (.inr (.inr (.inl rfl))) (by decide) (by decide) (by decide) (by decide) (fun _ => ⟨by decide, by decide⟩) (mul_of hm.choose_spec)
  have HS : Hid (Refused 42 1 b ⟨#[]⟩ 1 a ⟨#[]⟩ 10) := arith_no 42 1 b ⟨#[]⟩ 1 a ⟨#[]⟩ _ (by decide) (by decide) (.inr (.inr (.inl rfl))) (by decide) (by decide) (by decide) (by decide) (fun _ => ⟨by decide, by decide⟩) (mul_of hm2.choose_spec)
  have HB := Lib.hid hB
  clear hB hm hm2
  go_enter Tryd.func6, Tryd.ntmps6
  go_wp2_with fail
  refine (of_any a _).mono ?_
  rintro e w1 ⟨rfl, bb1⟩
  go_wp2_with fail
  refine (of_any b _).mono ?_
  rintro e w2 ⟨rfl, hb⟩
  have bb2 := two bb1 hb
  clear hb
  go_wp2_with fail
  refine (HA.out _).mono ?_
  rintro e w3 ⟨rfl, hb⟩
  have bb3 := two bb2 hb
  have z3 := bb3.size
  clear hb
  go_wp2_with fail
  refine (of_any b _).mono ?_
  rintro e w4 ⟨rfl, hb4⟩
  go_wp2_with fail
  refine (of_any a _).mono ?_
  rintro e w5 ⟨rfl, hb⟩
  have hb5 := two hb4 hb
  clear hb
  go_wp2_with fail
  refine (HS.out _).mono ?_
  rintro e w6 ⟨rfl, hb⟩
  have hb6 := two hb5 hb
  clear hb hb4 hb5
  have z6 := hb6.size
  simp only [World.size_alloc] at z6
  have zz : w3.heap.size < w6.heap.size := by omega
  have c0 : w6.cell? ⟨w3.heap.size, 0, none⟩ = some (.int .i64 0) := box hb6 (by simp) 0
  have c1 : w6.cell? ⟨w3.heap.size, 1, none⟩ = some (.int .i64 0) := box hb6 (by simp) 1
  have c2 : w6.cell? ⟨w3.heap.size, 2, none⟩ = some (.string ⟨#[]⟩) := box hb6 (by simp) 2
  have bb6 := next (w := w) (B := w.heap.size) (bb3.alloc z3 _) hb6 (Nat.le_refl _)
  have z66 := bb6.size
  have b7 : Below w.heap.size w (w6.alloc (.cells #[.int .i64 0, .int .i64 0, .string ⟨#[]⟩] 23)) := bb6.alloc z66 _
  have hd6 : Below w6.heap.size w6 (w6.alloc (.cells #[.int .i64 0, .int .i64 0, .string ⟨#[]⟩] 23)) := by go_grown
  have HM : Hid (∀ W, Below (w6.alloc (.cells #[.int .i64 0, .int .i64 0, .string ⟨#[]⟩] 23)).heap.size (w6.alloc (.cells #[.int .i64 0, .int .i64 0, .string ⟨#[]⟩] 23)) W → W.cell? ⟨w3.heap.size, 0, none⟩ = some (.int .i64 0) ∧ W.cell? ⟨w3.heap.size, 1, none⟩ = some (.int .i64 0) ∧ W.cell? ⟨w3.heap.size, 2, none⟩ = some (.string ⟨#[]⟩) ∧ W.cell? ⟨w6.heap.size, 0, none⟩ = some (.int .i64 0) ∧ W.cell? ⟨w6.heap.size, 1, none⟩ = some (.int .i64 0) ∧ W.cell? ⟨w6.heap.size, 2, none⟩ = some (.string ⟨#[]⟩) ∧ Below (w6.alloc (.cells #[.int .i64 0, .int .i64 0, .string ⟨#[]⟩] 23)).heap.size (w6.alloc (.cells #[.int .i64 0, .int .i64 0, .string ⟨#[]⟩] 23)) W) := fun W h =>
    ⟨(h.cell (by simp; omega)).trans ((hd6.cell (by exact zz)).trans c0), (h.cell (by simp; omega)).trans ((hd6.cell (by exact zz)).trans c1), (h.cell (by simp; omega)).trans ((hd6.cell (by exact zz)).trans c2), (h.cell (by simp)).trans (by simp), (h.cell (by simp)).trans (by simp), (h.cell (by simp)).trans (by simp), h⟩
  clear hb6
  go_wp2_with fail
  refine (HB.out _).mono ?_
  rintro e w7 ⟨rfl, rfl⟩
  go_wp2_with fail
  refine (awake_any _ (HE.out.below b7)).mono ?_
  rintro e w7 ⟨rfl, hb⟩
  go_wp2_with fail
  go_ret
  exact ⟨rfl, two b7 hb⟩

set_option maxRecDepth 100000 in
set_option maxHeartbeats 1600000 in
theorem prod_ok (a b : Int) (a0 : -9223372036854775808 ≤ a) (a1 : a ≤ 9223372036854775807) (b0 : -9223372036854775808 ≤ b) (b1 : b ≤ 9223372036854775807) (hm : Mults a b (a * b) true) (hm2 : Mults b a (a * b) true) (hi : In64 (a * b)) (hB : ∀ w, Calls Tryd.prog 19 #[.int .i64 a, .int .i64 b] w fun e w' => e = .returned (.bool false) ∧ w' = w) (d1 : (a == 0) = false) (d2 : (b == 0) = false) (w : World) (hE : Env w) :
    Calls Tryd.prog 6 #[.int .i64 a, .int .i64 b] w fun e w' => e = .returned (.bool true) ∧ Below w.heap.size w w' := by
  have HE := Lib.hid hE
  clear hE
  have HA : Hid (Numbers 42 1 a ⟨#[]⟩ 1 b ⟨#[]⟩ (a * b)) := arith_ok 42 1 a ⟨#[]⟩ 1 b ⟨#[]⟩ _ (by decide) (by decide) (.inr (.inr (.inl rfl))) (by decide) (by decide) (by decide) (by decide) (fun _ => ⟨by decide, by decide⟩) (mul_of hm)
  have HS : Hid (Numbers 42 1 b ⟨#[]⟩ 1 a ⟨#[]⟩ (a * b)) := arith_ok 42 1 b ⟨#[]⟩ 1 a ⟨#[]⟩ _ (by decide) (by decide) (.inr (.inr (.inl rfl))) (by decide) (by decide) (by decide) (by decide) (fun _ => ⟨by decide, by decide⟩) (mul_of hm2)
  have HB := Lib.hid hB
  have hw2 : IntKind.i64.wrap (a * b) = a * b := (IntWalk.i64_left _).trans (wrap_in hi)
  clear hB hm hm2 hi
  go_enter Tryd.func6, Tryd.ntmps6
  go_wp2_with fail
  refine (of_any a _).mono ?_
  rintro e w1 ⟨rfl, bb1⟩
  go_wp2_with fail
  refine (of_any b _).mono ?_
  rintro e w2 ⟨rfl, hb⟩
  have bb2 := two bb1 hb
  clear hb
  go_wp2_with fail
  refine (HA.out _).mono ?_
  rintro e w3 ⟨rfl, hb⟩
  have bb3 := two bb2 hb
  have z3 := bb3.size
  clear hb
  go_wp2_with fail
  refine (of_any b _).mono ?_
  rintro e w4 ⟨rfl, hb4⟩
  go_wp2_with fail
  refine (of_any a _).mono ?_
  rintro e w5 ⟨rfl, hb⟩
  have hb5 := two hb4 hb
  clear hb
  go_wp2_with fail
  refine (HS.out _).mono ?_
  rintro e w6 ⟨rfl, hb⟩
  have hb6 := two hb5 hb
  clear hb hb4 hb5
  have z6 := hb6.size
  simp only [World.size_alloc] at z6
  have zz : w3.heap.size < w6.heap.size := by omega
  have c0 : w6.cell? ⟨w3.heap.size, 0, none⟩ = some (.int .i64 1) := box hb6 (by simp) 0
  have c1 : w6.cell? ⟨w3.heap.size, 1, none⟩ = some (.int .i64 (a * b)) := box hb6 (by simp) 1
  have c2 : w6.cell? ⟨w3.heap.size, 2, none⟩ = some (.string ⟨#[]⟩) := box hb6 (by simp) 2
  have bb6 := next (w := w) (B := w.heap.size) (bb3.alloc z3 _) hb6 (Nat.le_refl _)
  have z66 := bb6.size
  have b7 : Below w.heap.size w (w6.alloc (.cells #[.int .i64 1, .int .i64 (a * b), .string ⟨#[]⟩] 23)) := bb6.alloc z66 _
  have hd6 : Below w6.heap.size w6 (w6.alloc (.cells #[.int .i64 1, .int .i64 (a * b), .string ⟨#[]⟩] 23)) := by go_grown
  have HM : Hid (∀ W, Below (w6.alloc (.cells #[.int .i64 1, .int .i64 (a * b), .string ⟨#[]⟩] 23)).heap.size (w6.alloc (.cells #[.int .i64 1, .int .i64 (a * b), .string ⟨#[]⟩] 23)) W → W.cell? ⟨w3.heap.size, 0, none⟩ = some (.int .i64 1) ∧ W.cell? ⟨w3.heap.size, 1, none⟩ = some (.int .i64 (a * b)) ∧ W.cell? ⟨w3.heap.size, 2, none⟩ = some (.string ⟨#[]⟩) ∧ W.cell? ⟨w6.heap.size, 0, none⟩ = some (.int .i64 1) ∧ W.cell? ⟨w6.heap.size, 1, none⟩ = some (.int .i64 (a * b)) ∧ W.cell? ⟨w6.heap.size, 2, none⟩ = some (.string ⟨#[]⟩) ∧ Below (w6.alloc (.cells #[.int .i64 1, .int .i64 (a * b), .string ⟨#[]⟩] 23)).heap.size (w6.alloc (.cells #[.int .i64 1, .int .i64 (a * b), .string ⟨#[]⟩] 23)) W) := fun W h =>
    ⟨(h.cell (by simp; omega)).trans ((hd6.cell (by exact zz)).trans c0), (h.cell (by simp; omega)).trans ((hd6.cell (by exact zz)).trans c1), (h.cell (by simp; omega)).trans ((hd6.cell (by exact zz)).trans c2), (h.cell (by simp)).trans (by simp), (h.cell (by simp)).trans (by simp), (h.cell (by simp)).trans (by simp), h⟩
  clear hb6
  go_wp2_with fail
  refine wp_region_held_drew (S := (fun w' => w'.cell? ⟨w3.heap.size, 0, none⟩ = some (.int .i64 1) ∧ w'.cell? ⟨w3.heap.size, 1, none⟩ = some (.int .i64 (a * b)) ∧ w'.cell? ⟨w3.heap.size, 2, none⟩ = some (.string ⟨#[]⟩) ∧ w'.cell? ⟨w6.heap.size, 0, none⟩ = some (.int .i64 1) ∧ w'.cell? ⟨w6.heap.size, 1, none⟩ = some (.int .i64 (a * b)) ∧ w'.cell? ⟨w6.heap.size, 2, none⟩ = some (.string ⟨#[]⟩) ∧ Below (w6.alloc (.cells #[.int .i64 1, .int .i64 (a * b), .string ⟨#[]⟩] 23)).heap.size (w6.alloc (.cells #[.int .i64 1, .int .i64 (a * b), .string ⟨#[]⟩] 23)) w')) (by kernel_rfl) (by exact HM.out _ (Below.drew (by go_grown))) (fun hHeld => ?_)
  first
  | (refine wpAnyH_take (i := 0) (v := ?v5x0) rfl (by kernel_rfl) (by kernel_rfl) (by kernel_rfl) (fun _ _ _ h => h) (Or.inl ⟨by rfl, ?hy5x0⟩) hHeld ?rest5x0
     case hy5x0 => (intro w hSw; (try dsimp only at hSw); go_simp <;> with_reducible rfl)
     try simp only [Array.reduceGetElem, Act.put, List.setIfInBounds_toArray, List.set_cons_zero, List.set_cons_succ])
  | (refine wpAnyH_take (i := 0) rfl (by kernel_rfl) (by kernel_rfl) (by kernel_rfl) (fun _ _ _ h => h) (Or.inr ⟨by rfl, rfl⟩) hHeld ?rest5x0
     try simp only [Array.reduceGetElem, Act.put, List.setIfInBounds_toArray, List.set_cons_zero, List.set_cons_succ])
  first
  | (refine wpAnyH_take (i := 1) (v := ?v5x1) rfl (by kernel_rfl) (by kernel_rfl) (by kernel_rfl) (fun _ _ _ h => h) (Or.inl ⟨by rfl, ?hy5x1⟩) hHeld ?rest5x1
     case hy5x1 => (intro w hSw; (try dsimp only at hSw); go_simp <;> with_reducible rfl)
     try simp only [Array.reduceGetElem, Act.put, List.setIfInBounds_toArray, List.set_cons_zero, List.set_cons_succ])
  | (refine wpAnyH_take (i := 1) rfl (by kernel_rfl) (by kernel_rfl) (by kernel_rfl) (fun _ _ _ h => h) (Or.inr ⟨by rfl, rfl⟩) hHeld ?rest5x1
     try simp only [Array.reduceGetElem, Act.put, List.setIfInBounds_toArray, List.set_cons_zero, List.set_cons_succ])
  refine wpAnyH_ready (rs := [2]) (by kernel_rfl) (by simp) ?_
  refine AllReadyH.cons rfl (fun K hK => ?_) AllReadyH.nil
  go_simp
  go_at_call 19; refine (HB.out _).mono ?_; rintro e w' ⟨rfl, rfl⟩; go_wp2_with fail
  refine hK.out _ _ ?_ (fun hHeld2 => ?_)
  · exact hHeld
  clear hK K hHeld
  have hHeld := hHeld2
  clear hHeld2
  try simp only [Array.reduceGetElem, Act.put, List.setIfInBounds_toArray, List.set_cons_zero, List.set_cons_succ]
  first
  | (refine wpAnyH_take (i := 3) (v := ?v5x3) rfl (by kernel_rfl) (by kernel_rfl) (by kernel_rfl) (fun _ _ _ h => h) (Or.inl ⟨by rfl, ?hy5x3⟩) hHeld ?rest5x3
     case hy5x3 => (intro w hSw; (try dsimp only at hSw); go_simp <;> with_reducible rfl)
     try simp only [Array.reduceGetElem, Act.put, List.setIfInBounds_toArray, List.set_cons_zero, List.set_cons_succ])
  | (refine wpAnyH_take (i := 3) rfl (by kernel_rfl) (by kernel_rfl) (by kernel_rfl) (fun _ _ _ h => h) (Or.inr ⟨by rfl, rfl⟩) hHeld ?rest5x3
     try simp only [Array.reduceGetElem, Act.put, List.setIfInBounds_toArray, List.set_cons_zero, List.set_cons_succ])
  first
  | (refine wpAnyH_take (i := 4) (v := ?v5x4) rfl (by kernel_rfl) (by kernel_rfl) (by kernel_rfl) (fun _ _ _ h => h) (Or.inl ⟨by rfl, ?hy5x4⟩) hHeld ?rest5x4
     case hy5x4 => (intro w hSw; (try dsimp only at hSw); go_simp <;> with_reducible rfl)
     try simp only [Array.reduceGetElem, Act.put, List.setIfInBounds_toArray, List.set_cons_zero, List.set_cons_succ])
  | (refine wpAnyH_take (i := 4) rfl (by kernel_rfl) (by kernel_rfl) (by kernel_rfl) (fun _ _ _ h => h) (Or.inr ⟨by rfl, rfl⟩) hHeld ?rest5x4
     try simp only [Array.reduceGetElem, Act.put, List.setIfInBounds_toArray, List.set_cons_zero, List.set_cons_succ])
  first
  | (refine wpAnyH_take (i := 5) (v := ?v5x5) rfl (by kernel_rfl) (by kernel_rfl) (by kernel_rfl) (fun _ _ _ h => h) (Or.inl ⟨by rfl, ?hy5x5⟩) hHeld ?rest5x5
     case hy5x5 => (intro w hSw; (try dsimp only at hSw); go_simp <;> with_reducible rfl)
     try simp only [Array.reduceGetElem, Act.put, List.setIfInBounds_toArray, List.set_cons_zero, List.set_cons_succ])
  | (refine wpAnyH_take (i := 5) rfl (by kernel_rfl) (by kernel_rfl) (by kernel_rfl) (fun _ _ _ h => h) (Or.inr ⟨by rfl, rfl⟩) hHeld ?rest5x5
     try simp only [Array.reduceGetElem, Act.put, List.setIfInBounds_toArray, List.set_cons_zero, List.set_cons_succ])
  first
  | (refine wpAnyH_take (i := 6) (v := ?v5x6) rfl (by kernel_rfl) (by kernel_rfl) (by kernel_rfl) (fun _ _ _ h => h) (Or.inl ⟨by rfl, ?hy5x6⟩) hHeld ?rest5x6
     case hy5x6 => (intro w hSw; (try dsimp only at hSw); go_simp <;> with_reducible rfl)
     try simp only [Array.reduceGetElem, Act.put, List.setIfInBounds_toArray, List.set_cons_zero, List.set_cons_succ])
  | (refine wpAnyH_take (i := 6) rfl (by kernel_rfl) (by kernel_rfl) (by kernel_rfl) (fun _ _ _ h => h) (Or.inr ⟨by rfl, rfl⟩) hHeld ?rest5x6
     try simp only [Array.reduceGetElem, Act.put, List.setIfInBounds_toArray, List.set_cons_zero, List.set_cons_succ])
  first
  | (refine wpAnyH_take (i := 7) (v := ?v5x7) rfl (by kernel_rfl) (by kernel_rfl) (by kernel_rfl) (fun _ _ _ h => h) (Or.inl ⟨by rfl, ?hy5x7⟩) hHeld ?rest5x7
     case hy5x7 => (intro w hSw; (try dsimp only at hSw); go_simp <;> with_reducible rfl)
     try simp only [Array.reduceGetElem, Act.put, List.setIfInBounds_toArray, List.set_cons_zero, List.set_cons_succ])
  | (refine wpAnyH_take (i := 7) rfl (by kernel_rfl) (by kernel_rfl) (by kernel_rfl) (fun _ _ _ h => h) (Or.inr ⟨by rfl, rfl⟩) hHeld ?rest5x7
     try simp only [Array.reduceGetElem, Act.put, List.setIfInBounds_toArray, List.set_cons_zero, List.set_cons_succ])
  first
  | (refine wpAnyH_take (i := 8) (v := ?v5x8) rfl (by kernel_rfl) (by kernel_rfl) (by kernel_rfl) (fun _ _ _ h => h) (Or.inl ⟨by rfl, ?hy5x8⟩) hHeld ?rest5x8
     case hy5x8 => (intro w hSw; (try dsimp only at hSw); go_simp <;> with_reducible rfl)
     try simp only [Array.reduceGetElem, Act.put, List.setIfInBounds_toArray, List.set_cons_zero, List.set_cons_succ])
  | (refine wpAnyH_take (i := 8) rfl (by kernel_rfl) (by kernel_rfl) (by kernel_rfl) (fun _ _ _ h => h) (Or.inr ⟨by rfl, rfl⟩) hHeld ?rest5x8
     try simp only [Array.reduceGetElem, Act.put, List.setIfInBounds_toArray, List.set_cons_zero, List.set_cons_succ])
  refine wpAnyH_ready (rs := [9]) (by kernel_rfl) (by simp) ?_
  refine AllReadyH.cons rfl (fun K hK => ?_) AllReadyH.nil
  go_simp
  go_at_call 13; refine (of_any _ _).mono ?_; rintro e w' ⟨rfl, hb⟩; go_wp2_with fail
  refine hK.out _ _ ?_ (fun hHeld2 => ?_)
  · exact HM.out _ (two hHeld.2.2.2.2.2.2 hb)
  clear hK K hHeld
  have hHeld := hHeld2
  clear hHeld2
  try simp only [Array.reduceGetElem, Act.put, List.setIfInBounds_toArray, List.set_cons_zero, List.set_cons_succ]
  first
  | (refine wpAnyH_take (i := 10) (v := ?v5x10) rfl (by kernel_rfl) (by kernel_rfl) (by kernel_rfl) (fun _ _ _ h => h) (Or.inl ⟨by rfl, ?hy5x10⟩) hHeld ?rest5x10
     case hy5x10 => (intro w hSw; (try dsimp only at hSw); go_simp <;> with_reducible rfl)
     try simp only [Array.reduceGetElem, Act.put, List.setIfInBounds_toArray, List.set_cons_zero, List.set_cons_succ])
  | (refine wpAnyH_take (i := 10) rfl (by kernel_rfl) (by kernel_rfl) (by kernel_rfl) (fun _ _ _ h => h) (Or.inr ⟨by rfl, rfl⟩) hHeld ?rest5x10
     try simp only [Array.reduceGetElem, Act.put, List.setIfInBounds_toArray, List.set_cons_zero, List.set_cons_succ])
  first
  | (refine wpAnyH_take (i := 11) (v := ?v5x11) rfl (by kernel_rfl) (by kernel_rfl) (by kernel_rfl) (fun _ _ _ h => h) (Or.inl ⟨by rfl, ?hy5x11⟩) hHeld ?rest5x11
     case hy5x11 => (intro w hSw; (try dsimp only at hSw); go_simp <;> with_reducible rfl)
     try simp only [Array.reduceGetElem, Act.put, List.setIfInBounds_toArray, List.set_cons_zero, List.set_cons_succ])
  | (refine wpAnyH_take (i := 11) rfl (by kernel_rfl) (by kernel_rfl) (by kernel_rfl) (fun _ _ _ h => h) (Or.inr ⟨by rfl, rfl⟩) hHeld ?rest5x11
     try simp only [Array.reduceGetElem, Act.put, List.setIfInBounds_toArray, List.set_cons_zero, List.set_cons_succ])
  first
  | (refine wpAnyH_take (i := 12) (v := ?v5x12) rfl (by kernel_rfl) (by kernel_rfl) (by kernel_rfl) (fun _ _ _ h => h) (Or.inl ⟨by rfl, ?hy5x12⟩) hHeld ?rest5x12
     case hy5x12 => (intro w hSw; (try dsimp only at hSw); go_simp <;> with_reducible rfl)
     try simp only [Array.reduceGetElem, Act.put, List.setIfInBounds_toArray, List.set_cons_zero, List.set_cons_succ])
  | (refine wpAnyH_take (i := 12) rfl (by kernel_rfl) (by kernel_rfl) (by kernel_rfl) (fun _ _ _ h => h) (Or.inr ⟨by rfl, rfl⟩) hHeld ?rest5x12
     try simp only [Array.reduceGetElem, Act.put, List.setIfInBounds_toArray, List.set_cons_zero, List.set_cons_succ])
  refine wpAnyH_ready (rs := [13]) (by kernel_rfl) (by simp) ?_
  refine AllReadyH.cons rfl (fun K hK => ?_) AllReadyH.nil
  go_simp
  go_at_call 16; refine (awake_any _ (HE.out.below (two b7 hHeld.2.2.2.2.2.2))).mono ?_; rintro e w' ⟨rfl, hb⟩; go_wp2_with fail
  refine hK.out _ _ ?_ (fun hHeld2 => ?_)
  · exact HM.out _ (two hHeld.2.2.2.2.2.2 hb)
  clear hK K hHeld
  have hHeld := hHeld2
  clear hHeld2
  try simp only [Array.reduceGetElem, Act.put, List.setIfInBounds_toArray, List.set_cons_zero, List.set_cons_succ]
  first
  | (refine wpAnyH_take (i := 14) (v := ?v5x14) rfl (by kernel_rfl) (by kernel_rfl) (by kernel_rfl) (fun _ _ _ h => h) (Or.inl ⟨by rfl, ?hy5x14⟩) hHeld ?rest5x14
     case hy5x14 => (intro w hSw; (try dsimp only at hSw); go_simp <;> with_reducible rfl)
     try simp only [Array.reduceGetElem, Act.put, List.setIfInBounds_toArray, List.set_cons_zero, List.set_cons_succ])
  | (refine wpAnyH_take (i := 14) rfl (by kernel_rfl) (by kernel_rfl) (by kernel_rfl) (fun _ _ _ h => h) (Or.inr ⟨by rfl, rfl⟩) hHeld ?rest5x14
     try simp only [Array.reduceGetElem, Act.put, List.setIfInBounds_toArray, List.set_cons_zero, List.set_cons_succ])
  first
  | (refine wpAnyH_take (i := 15) (v := ?v5x15) rfl (by kernel_rfl) (by kernel_rfl) (by kernel_rfl) (fun _ _ _ h => h) (Or.inl ⟨by rfl, ?hy5x15⟩) hHeld ?rest5x15
     case hy5x15 => (intro w hSw; (try dsimp only at hSw); go_simp <;> with_reducible rfl)
     try simp only [Array.reduceGetElem, Act.put, List.setIfInBounds_toArray, List.set_cons_zero, List.set_cons_succ])
  | (refine wpAnyH_take (i := 15) rfl (by kernel_rfl) (by kernel_rfl) (by kernel_rfl) (fun _ _ _ h => h) (Or.inr ⟨by rfl, rfl⟩) hHeld ?rest5x15
     try simp only [Array.reduceGetElem, Act.put, List.setIfInBounds_toArray, List.set_cons_zero, List.set_cons_succ])
  refine wpAnyH_done (by kernel_rfl) ?_ _
  go_wp2_with fail
  go_ret
  exact ⟨rfl, two b7 hHeld.2.2.2.2.2.2⟩

theorem prod_law (a b : Int) (w : World) (a0 : -9223372036854775808 ≤ a) (a1 : a ≤ 9223372036854775807) (b0 : -9223372036854775808 ≤ b) (b1 : b ≤ 9223372036854775807) (hE : Env w) :
    Calls Tryd.prog 6 #[.int .i64 a, .int .i64 b] w fun e w' => e = .returned (.bool true) ∧ Below w.heap.size w w' := by
  by_cases ha : a = 0
  · subst ha; exact prod_za b w hE
  have d1 : (a == 0) = false := by simpa using ha
  by_cases hb : b = 0
  · subst hb; exact prod_zb a d1 w hE
  have d2 : (b == 0) = false := by simpa using hb
  by_cases h : In64 (a * b)
  · have h' : In64 (b * a) := by rw [Int.mul_comm]; exact h
    have n1 : ¬ (a = -1 ∧ b = -9223372036854775808) := fun ⟨x, y⟩ => by subst x; subst y; exact absurd h (by unfold In64; decide)
    have n2 : ¬ (b = -1 ∧ a = -9223372036854775808) := fun ⟨x, y⟩ => by subst x; subst y; exact absurd h (by unfold In64; decide)
    have m1 := mult_any ⟨a0, a1⟩ ⟨b0, b1⟩ ha hb n1 n2 true (by simp [h])
    have m2 := mult_any ⟨b0, b1⟩ ⟨a0, a1⟩ hb ha n2 n1 true (by simp [h'])
    rw [wrap_in h] at m1
    rw [wrap_in h', Int.mul_comm b a] at m2
    exact prod_ok a b a0 a1 b0 b1 m1 m2 h (fun w => big_any a b w a0 a1 b0 b1 ha hb true (by simp [h])) d1 d2 w hE
  · have h' : ¬ In64 (b * a) := by rw [Int.mul_comm]; exact h
    have hB := fun w => big_any a b w a0 a1 b0 b1 ha hb false (by simp [h])
    by_cases n1 : a = -1 ∧ b = -9223372036854775808
    · obtain ⟨rfl, rfl⟩ := n1
      exact prod_no _ _ ⟨_, mult_left⟩ ⟨_, mult_right⟩ hB d1 d2 w hE
    by_cases n2 : b = -1 ∧ a = -9223372036854775808
    · obtain ⟨rfl, rfl⟩ := n2
      exact prod_no _ _ ⟨_, mult_right⟩ ⟨_, mult_left⟩ hB d1 d2 w hE
    exact prod_no a b ⟨_, mult_any ⟨a0, a1⟩ ⟨b0, b1⟩ ha hb n1 n2 false (by simp [h])⟩ ⟨_, mult_any ⟨b0, b1⟩ ⟨a0, a1⟩ hb ha n2 n1 false (by simp [h'])⟩ hB d1 d2 w hE
end Go.Proofs.YtedpgeilamhipaaDoor.Va
