/- The walk of the law on sums and differences. -/
import Derived.Test.YtedpgeilamhipaaDoorValWalk7
set_option linter.unusedVariables false
set_option linter.unusedSimpArgs false
namespace Go.Proofs.YtedpgeilamhipaaDoor.Va
open Go.RowKit Go Ba

set_option maxRecDepth 100000 in
set_option maxHeartbeats 1600000 in
theorem sums_po (a b : Int) (w : World) (a0 : -9223372036854775808 ≤ a) (a1 : a ≤ 9223372036854775807) (b0 : -9223372036854775808 ≤ b) (b1 : b ≤ 9223372036854775807) (hb : 0 < b) (ho : 9223372036854775807 < a + b) (hu : -9223372036854775808 ≤ a - b) (hE : Env w) :
    Calls Tryd.prog 4 #[.int .i64 a, .int .i64 b] w fun e w' => e = .returned (.bool true) ∧ Below w.heap.size w w' := by
  have HE := Lib.hid hE
  clear hE
  have HA : Hid (Refused 43 1 a ⟨#[]⟩ 1 b ⟨#[]⟩ 10) := arith_no 43 1 a ⟨#[]⟩ 1 b ⟨#[]⟩ _ (by decide) (by decide) (.inl rfl) (by decide) (by decide) (by decide) (by decide) (fun _ => ⟨by decide, by decide⟩) (add_no ⟨a0, a1⟩ ⟨b0, b1⟩ (by unfold In64; omega))
  have HS : Hid (Numbers 45 1 a ⟨#[]⟩ 1 b ⟨#[]⟩ (a - b)) := arith_ok 45 1 a ⟨#[]⟩ 1 b ⟨#[]⟩ _ (by decide) (by decide) (.inr (.inl rfl)) (by decide) (by decide) (by decide) (by decide) (fun _ => ⟨by decide, by decide⟩) (sub_ok ⟨a0, a1⟩ ⟨b0, b1⟩ (by unfold In64; omega))
  go_enter Tryd.func4, Tryd.ntmps4
  go_wp2_with fail
  refine (of_any a _).mono ?_
  rintro e w1 ⟨rfl, bb1⟩
  go_wp2_with fail
  refine (of_any b _).mono ?_
  rintro e w2 ⟨rfl, hb⟩
  have bb2 := two bb1 hb
  clear hb
  go_wp2_with fail
  refine (HA.out _).mono ?_
  rintro e w3 ⟨rfl, hb⟩
  have bb3 := two bb2 hb
  have z3 := bb3.size
  clear hb
  go_wp2_with fail
  refine (of_any a _).mono ?_
  rintro e w4 ⟨rfl, hb4⟩
  go_wp2_with fail
  refine (of_any b _).mono ?_
  rintro e w5 ⟨rfl, hb⟩
  have hb5 := two hb4 hb
  clear hb
  go_wp2_with fail
  refine (HS.out _).mono ?_
  rintro e w6 ⟨rfl, hb⟩
  have hb6 := two hb5 hb
  clear hb hb4 hb5
  have z6 := hb6.size
  simp only [World.size_alloc] at z6
  have zz : w3.heap.size < w6.heap.size := by omega
  have c0 : w6.cell? ⟨w3.heap.size, 0, none⟩ = some (.int .i64 0) := box hb6 (by simp) 0
  have c1 : w6.cell? ⟨w3.heap.size, 1, none⟩ = some (.int .i64 0) := box hb6 (by simp) 1
  have c2 : w6.cell? ⟨w3.heap.size, 2, none⟩ = some (.string ⟨#[]⟩) := box hb6 (by simp) 2
  have bb6 := next (w := w) (B := w.heap.size) (bb3.alloc z3 _) hb6 (Nat.le_refl _)
  have z66 := bb6.size
  have b7 : Below w.heap.size w (w6.alloc (.cells #[.int .i64 1, .int .i64 (a - b), .string ⟨#[]⟩] 23)) := bb6.alloc z66 _
  have hd6 : Below w6.heap.size w6 (w6.alloc (.cells #[.int .i64 1, .int .i64 (a - b), .string ⟨#[]⟩] 23)) := by go_grown
  have HM : Hid (∀ W, Below (w6.alloc (.cells #[.int .i64 1, .int .i64 (a - b), .string ⟨#[]⟩] 23)).heap.size (w6.alloc (.cells #[.int .i64 1, .int .i64 (a - b), .string ⟨#[]⟩] 23)) W → W.cell? ⟨w3.heap.size, 0, none⟩ = some (.int .i64 0) ∧ W.cell? ⟨w3.heap.size, 1, none⟩ = some (.int .i64 0) ∧ W.cell? ⟨w3.heap.size, 2, none⟩ = some (.string ⟨#[]⟩) ∧ W.cell? ⟨w6.heap.size, 0, none⟩ = some (.int .i64 1) ∧ W.cell? ⟨w6.heap.size, 1, none⟩ = some (.int .i64 (a - b)) ∧ W.cell? ⟨w6.heap.size, 2, none⟩ = some (.string ⟨#[]⟩) ∧ Below (w6.alloc (.cells #[.int .i64 1, .int .i64 (a - b), .string ⟨#[]⟩] 23)).heap.size (w6.alloc (.cells #[.int .i64 1, .int .i64 (a - b), .string ⟨#[]⟩] 23)) W) := fun W h =>
    ⟨(h.cell (by simp; omega)).trans ((hd6.cell (by exact zz)).trans c0), (h.cell (by simp; omega)).trans ((hd6.cell (by exact zz)).trans c1), (h.cell (by simp; omega)).trans ((hd6.cell (by exact zz)).trans c2), (h.cell (by simp)).trans (by simp), (h.cell (by simp)).trans (by simp), (h.cell (by simp)).trans (by simp), h⟩
  have hwa : IntKind.i64.wrap (a + b) = wrap64 (a + b) := IntWalk.i64_left _
  have hws : IntKind.i64.wrap (a - b) = a - b := IntWalk.i64_in _ (by omega)
  clear hb6
  go_wp2_with fail
  refine wp_region_held_drew (S := (fun w' => w'.cell? ⟨w3.heap.size, 0, none⟩ = some (.int .i64 0) ∧ w'.cell? ⟨w3.heap.size, 1, none⟩ = some (.int .i64 0) ∧ w'.cell? ⟨w3.heap.size, 2, none⟩ = some (.string ⟨#[]⟩) ∧ w'.cell? ⟨w6.heap.size, 0, none⟩ = some (.int .i64 1) ∧ w'.cell? ⟨w6.heap.size, 1, none⟩ = some (.int .i64 (a - b)) ∧ w'.cell? ⟨w6.heap.size, 2, none⟩ = some (.string ⟨#[]⟩) ∧ Below (w6.alloc (.cells #[.int .i64 1, .int .i64 (a - b), .string ⟨#[]⟩] 23)).heap.size (w6.alloc (.cells #[.int .i64 1, .int .i64 (a - b), .string ⟨#[]⟩] 23)) w')) (by kernel_rfl) (by exact HM.out _ (Below.drew (by go_grown))) (fun hHeld => ?_)
  first
  | (refine wpAnyH_take (i := 0) (v := ?v1x0) rfl (by kernel_rfl) (by kernel_rfl) (by kernel_rfl) (fun _ _ _ h => h) (Or.inl ⟨by rfl, ?hy1x0⟩) hHeld ?rest1x0
     case hy1x0 => (intro w hSw; (try dsimp only at hSw); go_simp <;> with_reducible rfl)
     try simp only [Array.reduceGetElem, Act.put, List.setIfInBounds_toArray, List.set_cons_zero, List.set_cons_succ])
  | (refine wpAnyH_take (i := 0) rfl (by kernel_rfl) (by kernel_rfl) (by kernel_rfl) (fun _ _ _ h => h) (Or.inr ⟨by rfl, rfl⟩) hHeld ?rest1x0
     try simp only [Array.reduceGetElem, Act.put, List.setIfInBounds_toArray, List.set_cons_zero, List.set_cons_succ])
  first
  | (refine wpAnyH_take (i := 1) (v := ?v1x1) rfl (by kernel_rfl) (by kernel_rfl) (by kernel_rfl) (fun _ _ _ h => h) (Or.inl ⟨by rfl, ?hy1x1⟩) hHeld ?rest1x1
     case hy1x1 => (intro w hSw; (try dsimp only at hSw); go_simp <;> with_reducible rfl)
     try simp only [Array.reduceGetElem, Act.put, List.setIfInBounds_toArray, List.set_cons_zero, List.set_cons_succ])
  | (refine wpAnyH_take (i := 1) rfl (by kernel_rfl) (by kernel_rfl) (by kernel_rfl) (fun _ _ _ h => h) (Or.inr ⟨by rfl, rfl⟩) hHeld ?rest1x1
     try simp only [Array.reduceGetElem, Act.put, List.setIfInBounds_toArray, List.set_cons_zero, List.set_cons_succ])
  first
  | (refine wpAnyH_take (i := 2) (v := ?v1x2) rfl (by kernel_rfl) (by kernel_rfl) (by kernel_rfl) (fun _ _ _ h => h) (Or.inl ⟨by rfl, ?hy1x2⟩) hHeld ?rest1x2
     case hy1x2 => (intro w hSw; (try dsimp only at hSw); go_simp <;> with_reducible rfl)
     try simp only [Array.reduceGetElem, Act.put, List.setIfInBounds_toArray, List.set_cons_zero, List.set_cons_succ])
  | (refine wpAnyH_take (i := 2) rfl (by kernel_rfl) (by kernel_rfl) (by kernel_rfl) (fun _ _ _ h => h) (Or.inr ⟨by rfl, rfl⟩) hHeld ?rest1x2
     try simp only [Array.reduceGetElem, Act.put, List.setIfInBounds_toArray, List.set_cons_zero, List.set_cons_succ])
  first
  | (refine wpAnyH_take (i := 3) (v := ?v1x3) rfl (by kernel_rfl) (by kernel_rfl) (by kernel_rfl) (fun _ _ _ h => h) (Or.inl ⟨by rfl, ?hy1x3⟩) hHeld ?rest1x3
     case hy1x3 => (intro w hSw; (try dsimp only at hSw); go_simp <;> with_reducible rfl)
     try simp only [Array.reduceGetElem, Act.put, List.setIfInBounds_toArray, List.set_cons_zero, List.set_cons_succ])
  | (refine wpAnyH_take (i := 3) rfl (by kernel_rfl) (by kernel_rfl) (by kernel_rfl) (fun _ _ _ h => h) (Or.inr ⟨by rfl, rfl⟩) hHeld ?rest1x3
     try simp only [Array.reduceGetElem, Act.put, List.setIfInBounds_toArray, List.set_cons_zero, List.set_cons_succ])
  first
  | (refine wpAnyH_take (i := 4) (v := ?v1x4) rfl (by kernel_rfl) (by kernel_rfl) (by kernel_rfl) (fun _ _ _ h => h) (Or.inl ⟨by rfl, ?hy1x4⟩) hHeld ?rest1x4
     case hy1x4 => (intro w hSw; (try dsimp only at hSw); go_simp <;> with_reducible rfl)
     try simp only [Array.reduceGetElem, Act.put, List.setIfInBounds_toArray, List.set_cons_zero, List.set_cons_succ])
  | (refine wpAnyH_take (i := 4) rfl (by kernel_rfl) (by kernel_rfl) (by kernel_rfl) (fun _ _ _ h => h) (Or.inr ⟨by rfl, rfl⟩) hHeld ?rest1x4
     try simp only [Array.reduceGetElem, Act.put, List.setIfInBounds_toArray, List.set_cons_zero, List.set_cons_succ])
  first
  | (refine wpAnyH_take (i := 5) (v := ?v1x5) rfl (by kernel_rfl) (by kernel_rfl) (by kernel_rfl) (fun _ _ _ h => h) (Or.inl ⟨by rfl, ?hy1x5⟩) hHeld ?rest1x5
     case hy1x5 => (intro w hSw; (try dsimp only at hSw); go_simp <;> with_reducible rfl)
     try simp only [Array.reduceGetElem, Act.put, List.setIfInBounds_toArray, List.set_cons_zero, List.set_cons_succ])
  | (refine wpAnyH_take (i := 5) rfl (by kernel_rfl) (by kernel_rfl) (by kernel_rfl) (fun _ _ _ h => h) (Or.inr ⟨by rfl, rfl⟩) hHeld ?rest1x5
     try simp only [Array.reduceGetElem, Act.put, List.setIfInBounds_toArray, List.set_cons_zero, List.set_cons_succ])
  first
  | (refine wpAnyH_take (i := 6) (v := ?v1x6) rfl (by kernel_rfl) (by kernel_rfl) (by kernel_rfl) (fun _ _ _ h => h) (Or.inl ⟨by rfl, ?hy1x6⟩) hHeld ?rest1x6
     case hy1x6 => (intro w hSw; (try dsimp only at hSw); go_simp <;> with_reducible rfl)
     try simp only [Array.reduceGetElem, Act.put, List.setIfInBounds_toArray, List.set_cons_zero, List.set_cons_succ])
  | (refine wpAnyH_take (i := 6) rfl (by kernel_rfl) (by kernel_rfl) (by kernel_rfl) (fun _ _ _ h => h) (Or.inr ⟨by rfl, rfl⟩) hHeld ?rest1x6
     try simp only [Array.reduceGetElem, Act.put, List.setIfInBounds_toArray, List.set_cons_zero, List.set_cons_succ])
  first
  | (refine wpAnyH_take (i := 7) (v := ?v1x7) rfl (by kernel_rfl) (by kernel_rfl) (by kernel_rfl) (fun _ _ _ h => h) (Or.inl ⟨by rfl, ?hy1x7⟩) hHeld ?rest1x7
     case hy1x7 => (intro w hSw; (try dsimp only at hSw); go_simp <;> with_reducible rfl)
     try simp only [Array.reduceGetElem, Act.put, List.setIfInBounds_toArray, List.set_cons_zero, List.set_cons_succ])
  | (refine wpAnyH_take (i := 7) rfl (by kernel_rfl) (by kernel_rfl) (by kernel_rfl) (fun _ _ _ h => h) (Or.inr ⟨by rfl, rfl⟩) hHeld ?rest1x7
     try simp only [Array.reduceGetElem, Act.put, List.setIfInBounds_toArray, List.set_cons_zero, List.set_cons_succ])
  first
  | (refine wpAnyH_take (i := 8) (v := ?v1x8) rfl (by kernel_rfl) (by kernel_rfl) (by kernel_rfl) (fun _ _ _ h => h) (Or.inl ⟨by rfl, ?hy1x8⟩) hHeld ?rest1x8
     case hy1x8 => (intro w hSw; (try dsimp only at hSw); go_simp <;> with_reducible rfl)
     try simp only [Array.reduceGetElem, Act.put, List.setIfInBounds_toArray, List.set_cons_zero, List.set_cons_succ])
  | (refine wpAnyH_take (i := 8) rfl (by kernel_rfl) (by kernel_rfl) (by kernel_rfl) (fun _ _ _ h => h) (Or.inr ⟨by rfl, rfl⟩) hHeld ?rest1x8
     try simp only [Array.reduceGetElem, Act.put, List.setIfInBounds_toArray, List.set_cons_zero, List.set_cons_succ])
  first
  | (refine wpAnyH_take (i := 9) (v := ?v1x9) rfl (by kernel_rfl) (by kernel_rfl) (by kernel_rfl) (fun _ _ _ h => h) (Or.inl ⟨by rfl, ?hy1x9⟩) hHeld ?rest1x9
     case hy1x9 => (intro w hSw; (try dsimp only at hSw); go_simp <;> with_reducible rfl)
     try simp only [Array.reduceGetElem, Act.put, List.setIfInBounds_toArray, List.set_cons_zero, List.set_cons_succ])
  | (refine wpAnyH_take (i := 9) rfl (by kernel_rfl) (by kernel_rfl) (by kernel_rfl) (fun _ _ _ h => h) (Or.inr ⟨by rfl, rfl⟩) hHeld ?rest1x9
     try simp only [Array.reduceGetElem, Act.put, List.setIfInBounds_toArray, List.set_cons_zero, List.set_cons_succ])
  first
  | (refine wpAnyH_take (i := 10) (v := ?v1x10) rfl (by kernel_rfl) (by kernel_rfl) (by kernel_rfl) (fun _ _ _ h => h) (Or.inl ⟨by rfl, ?hy1x10⟩) hHeld ?rest1x10
     case hy1x10 => (intro w hSw; (try dsimp only at hSw); go_simp <;> with_reducible rfl)
     try simp only [Array.reduceGetElem, Act.put, List.setIfInBounds_toArray, List.set_cons_zero, List.set_cons_succ])
  | (refine wpAnyH_take (i := 10) rfl (by kernel_rfl) (by kernel_rfl) (by kernel_rfl) (fun _ _ _ h => h) (Or.inr ⟨by rfl, rfl⟩) hHeld ?rest1x10
     try simp only [Array.reduceGetElem, Act.put, List.setIfInBounds_toArray, List.set_cons_zero, List.set_cons_succ])
  first
  | (refine wpAnyH_take (i := 11) (v := ?v1x11) rfl (by kernel_rfl) (by kernel_rfl) (by kernel_rfl) (fun _ _ _ h => h) (Or.inl ⟨by rfl, ?hy1x11⟩) hHeld ?rest1x11
     case hy1x11 => (intro w hSw; (try dsimp only at hSw); go_simp <;> with_reducible rfl)
     try simp only [Array.reduceGetElem, Act.put, List.setIfInBounds_toArray, List.set_cons_zero, List.set_cons_succ])
  | (refine wpAnyH_take (i := 11) rfl (by kernel_rfl) (by kernel_rfl) (by kernel_rfl) (fun _ _ _ h => h) (Or.inr ⟨by rfl, rfl⟩) hHeld ?rest1x11
     try simp only [Array.reduceGetElem, Act.put, List.setIfInBounds_toArray, List.set_cons_zero, List.set_cons_succ])
  first
  | (refine wpAnyH_take (i := 12) (v := ?v1x12) rfl (by kernel_rfl) (by kernel_rfl) (by kernel_rfl) (fun _ _ _ h => h) (Or.inl ⟨by rfl, ?hy1x12⟩) hHeld ?rest1x12
     case hy1x12 => (intro w hSw; (try dsimp only at hSw); go_simp <;> with_reducible rfl)
     try simp only [Array.reduceGetElem, Act.put, List.setIfInBounds_toArray, List.set_cons_zero, List.set_cons_succ])
  | (refine wpAnyH_take (i := 12) rfl (by kernel_rfl) (by kernel_rfl) (by kernel_rfl) (fun _ _ _ h => h) (Or.inr ⟨by rfl, rfl⟩) hHeld ?rest1x12
     try simp only [Array.reduceGetElem, Act.put, List.setIfInBounds_toArray, List.set_cons_zero, List.set_cons_succ])
  first
  | (refine wpAnyH_take (i := 13) (v := ?v1x13) rfl (by kernel_rfl) (by kernel_rfl) (by kernel_rfl) (fun _ _ _ h => h) (Or.inl ⟨by rfl, ?hy1x13⟩) hHeld ?rest1x13
     case hy1x13 => (intro w hSw; (try dsimp only at hSw); go_simp <;> with_reducible rfl)
     try simp only [Array.reduceGetElem, Act.put, List.setIfInBounds_toArray, List.set_cons_zero, List.set_cons_succ])
  | (refine wpAnyH_take (i := 13) rfl (by kernel_rfl) (by kernel_rfl) (by kernel_rfl) (fun _ _ _ h => h) (Or.inr ⟨by rfl, rfl⟩) hHeld ?rest1x13
     try simp only [Array.reduceGetElem, Act.put, List.setIfInBounds_toArray, List.set_cons_zero, List.set_cons_succ])
  first
  | (refine wpAnyH_take (i := 14) (v := ?v1x14) rfl (by kernel_rfl) (by kernel_rfl) (by kernel_rfl) (fun _ _ _ h => h) (Or.inl ⟨by rfl, ?hy1x14⟩) hHeld ?rest1x14
     case hy1x14 => (intro w hSw; (try dsimp only at hSw); go_simp <;> with_reducible rfl)
     try simp only [Array.reduceGetElem, Act.put, List.setIfInBounds_toArray, List.set_cons_zero, List.set_cons_succ])
  | (refine wpAnyH_take (i := 14) rfl (by kernel_rfl) (by kernel_rfl) (by kernel_rfl) (fun _ _ _ h => h) (Or.inr ⟨by rfl, rfl⟩) hHeld ?rest1x14
     try simp only [Array.reduceGetElem, Act.put, List.setIfInBounds_toArray, List.set_cons_zero, List.set_cons_succ])
  first
  | (refine wpAnyH_take (i := 15) (v := ?v1x15) rfl (by kernel_rfl) (by kernel_rfl) (by kernel_rfl) (fun _ _ _ h => h) (Or.inl ⟨by rfl, ?hy1x15⟩) hHeld ?rest1x15
     case hy1x15 => (intro w hSw; (try dsimp only at hSw); go_simp <;> with_reducible rfl)
     try simp only [Array.reduceGetElem, Act.put, List.setIfInBounds_toArray, List.set_cons_zero, List.set_cons_succ])
  | (refine wpAnyH_take (i := 15) rfl (by kernel_rfl) (by kernel_rfl) (by kernel_rfl) (fun _ _ _ h => h) (Or.inr ⟨by rfl, rfl⟩) hHeld ?rest1x15
     try simp only [Array.reduceGetElem, Act.put, List.setIfInBounds_toArray, List.set_cons_zero, List.set_cons_succ])
  first
  | (refine wpAnyH_take (i := 16) (v := ?v1x16) rfl (by kernel_rfl) (by kernel_rfl) (by kernel_rfl) (fun _ _ _ h => h) (Or.inl ⟨by rfl, ?hy1x16⟩) hHeld ?rest1x16
     case hy1x16 => (intro w hSw; (try dsimp only at hSw); go_simp <;> with_reducible rfl)
     try simp only [Array.reduceGetElem, Act.put, List.setIfInBounds_toArray, List.set_cons_zero, List.set_cons_succ])
  | (refine wpAnyH_take (i := 16) rfl (by kernel_rfl) (by kernel_rfl) (by kernel_rfl) (fun _ _ _ h => h) (Or.inr ⟨by rfl, rfl⟩) hHeld ?rest1x16
     try simp only [Array.reduceGetElem, Act.put, List.setIfInBounds_toArray, List.set_cons_zero, List.set_cons_succ])
  first
  | (refine wpAnyH_take (i := 17) (v := ?v1x17) rfl (by kernel_rfl) (by kernel_rfl) (by kernel_rfl) (fun _ _ _ h => h) (Or.inl ⟨by rfl, ?hy1x17⟩) hHeld ?rest1x17
     case hy1x17 => (intro w hSw; (try dsimp only at hSw); go_simp <;> with_reducible rfl)
     try simp only [Array.reduceGetElem, Act.put, List.setIfInBounds_toArray, List.set_cons_zero, List.set_cons_succ])
  | (refine wpAnyH_take (i := 17) rfl (by kernel_rfl) (by kernel_rfl) (by kernel_rfl) (fun _ _ _ h => h) (Or.inr ⟨by rfl, rfl⟩) hHeld ?rest1x17
     try simp only [Array.reduceGetElem, Act.put, List.setIfInBounds_toArray, List.set_cons_zero, List.set_cons_succ])
  first
  | (refine wpAnyH_take (i := 18) (v := ?v1x18) rfl (by kernel_rfl) (by kernel_rfl) (by kernel_rfl) (fun _ _ _ h => h) (Or.inl ⟨by rfl, ?hy1x18⟩) hHeld ?rest1x18
     case hy1x18 => (intro w hSw; (try dsimp only at hSw); go_simp <;> with_reducible rfl)
     try simp only [Array.reduceGetElem, Act.put, List.setIfInBounds_toArray, List.set_cons_zero, List.set_cons_succ])
  | (refine wpAnyH_take (i := 18) rfl (by kernel_rfl) (by kernel_rfl) (by kernel_rfl) (fun _ _ _ h => h) (Or.inr ⟨by rfl, rfl⟩) hHeld ?rest1x18
     try simp only [Array.reduceGetElem, Act.put, List.setIfInBounds_toArray, List.set_cons_zero, List.set_cons_succ])
  first
  | (refine wpAnyH_take (i := 19) (v := ?v1x19) rfl (by kernel_rfl) (by kernel_rfl) (by kernel_rfl) (fun _ _ _ h => h) (Or.inl ⟨by rfl, ?hy1x19⟩) hHeld ?rest1x19
     case hy1x19 => (intro w hSw; (try dsimp only at hSw); go_simp <;> with_reducible rfl)
     try simp only [Array.reduceGetElem, Act.put, List.setIfInBounds_toArray, List.set_cons_zero, List.set_cons_succ])
  | (refine wpAnyH_take (i := 19) rfl (by kernel_rfl) (by kernel_rfl) (by kernel_rfl) (fun _ _ _ h => h) (Or.inr ⟨by rfl, rfl⟩) hHeld ?rest1x19
     try simp only [Array.reduceGetElem, Act.put, List.setIfInBounds_toArray, List.set_cons_zero, List.set_cons_succ])
  first
  | (refine wpAnyH_take (i := 20) (v := ?v1x20) rfl (by kernel_rfl) (by kernel_rfl) (by kernel_rfl) (fun _ _ _ h => h) (Or.inl ⟨by rfl, ?hy1x20⟩) hHeld ?rest1x20
     case hy1x20 => (intro w hSw; (try dsimp only at hSw); go_simp <;> with_reducible rfl)
     try simp only [Array.reduceGetElem, Act.put, List.setIfInBounds_toArray, List.set_cons_zero, List.set_cons_succ])
  | (refine wpAnyH_take (i := 20) rfl (by kernel_rfl) (by kernel_rfl) (by kernel_rfl) (fun _ _ _ h => h) (Or.inr ⟨by rfl, rfl⟩) hHeld ?rest1x20
     try simp only [Array.reduceGetElem, Act.put, List.setIfInBounds_toArray, List.set_cons_zero, List.set_cons_succ])
  first
  | (refine wpAnyH_take (i := 21) (v := ?v1x21) rfl (by kernel_rfl) (by kernel_rfl) (by kernel_rfl) (fun _ _ _ h => h) (Or.inl ⟨by rfl, ?hy1x21⟩) hHeld ?rest1x21
     case hy1x21 => (intro w hSw; (try dsimp only at hSw); go_simp <;> with_reducible rfl)
     try simp only [Array.reduceGetElem, Act.put, List.setIfInBounds_toArray, List.set_cons_zero, List.set_cons_succ])
  | (refine wpAnyH_take (i := 21) rfl (by kernel_rfl) (by kernel_rfl) (by kernel_rfl) (fun _ _ _ h => h) (Or.inr ⟨by rfl, rfl⟩) hHeld ?rest1x21
     try simp only [Array.reduceGetElem, Act.put, List.setIfInBounds_toArray, List.set_cons_zero, List.set_cons_succ])
  first
  | (refine wpAnyH_take (i := 22) (v := ?v1x22) rfl (by kernel_rfl) (by kernel_rfl) (by kernel_rfl) (fun _ _ _ h => h) (Or.inl ⟨by rfl, ?hy1x22⟩) hHeld ?rest1x22
     case hy1x22 => (intro w hSw; (try dsimp only at hSw); go_simp <;> with_reducible rfl)
     try simp only [Array.reduceGetElem, Act.put, List.setIfInBounds_toArray, List.set_cons_zero, List.set_cons_succ])
  | (refine wpAnyH_take (i := 22) rfl (by kernel_rfl) (by kernel_rfl) (by kernel_rfl) (fun _ _ _ h => h) (Or.inr ⟨by rfl, rfl⟩) hHeld ?rest1x22
     try simp only [Array.reduceGetElem, Act.put, List.setIfInBounds_toArray, List.set_cons_zero, List.set_cons_succ])
  first
  | (refine wpAnyH_take (i := 23) (v := ?v1x23) rfl (by kernel_rfl) (by kernel_rfl) (by kernel_rfl) (fun _ _ _ h => h) (Or.inl ⟨by rfl, ?hy1x23⟩) hHeld ?rest1x23
     case hy1x23 => (intro w hSw; (try dsimp only at hSw); go_simp <;> with_reducible rfl)
     try simp only [Array.reduceGetElem, Act.put, List.setIfInBounds_toArray, List.set_cons_zero, List.set_cons_succ])
  | (refine wpAnyH_take (i := 23) rfl (by kernel_rfl) (by kernel_rfl) (by kernel_rfl) (fun _ _ _ h => h) (Or.inr ⟨by rfl, rfl⟩) hHeld ?rest1x23
     try simp only [Array.reduceGetElem, Act.put, List.setIfInBounds_toArray, List.set_cons_zero, List.set_cons_succ])
  first
  | (refine wpAnyH_take (i := 24) (v := ?v1x24) rfl (by kernel_rfl) (by kernel_rfl) (by kernel_rfl) (fun _ _ _ h => h) (Or.inl ⟨by rfl, ?hy1x24⟩) hHeld ?rest1x24
     case hy1x24 => (intro w hSw; (try dsimp only at hSw); go_simp <;> with_reducible rfl)
     try simp only [Array.reduceGetElem, Act.put, List.setIfInBounds_toArray, List.set_cons_zero, List.set_cons_succ])
  | (refine wpAnyH_take (i := 24) rfl (by kernel_rfl) (by kernel_rfl) (by kernel_rfl) (fun _ _ _ h => h) (Or.inr ⟨by rfl, rfl⟩) hHeld ?rest1x24
     try simp only [Array.reduceGetElem, Act.put, List.setIfInBounds_toArray, List.set_cons_zero, List.set_cons_succ])
  refine wpAnyH_ready (rs := [25]) (by kernel_rfl) (by simp) ?_
  refine AllReadyH.cons rfl (fun K hK => ?_) AllReadyH.nil
  go_simp
  go_at_call 13; refine (of_any _ _).mono ?_; rintro e w8 ⟨rfl, hb⟩; go_wp2_with fail
  refine hK.out _ _ ?_ (fun hHeld2 => ?_)
  · exact HM.out _ (two hHeld.2.2.2.2.2.2 hb)
  clear hK K hHeld
  have hHeld := hHeld2
  clear hHeld2
  try simp only [Array.reduceGetElem, Act.put, List.setIfInBounds_toArray, List.set_cons_zero, List.set_cons_succ]
  first
  | (refine wpAnyH_take (i := 26) (v := ?v1x26) rfl (by kernel_rfl) (by kernel_rfl) (by kernel_rfl) (fun _ _ _ h => h) (Or.inl ⟨by rfl, ?hy1x26⟩) hHeld ?rest1x26
     case hy1x26 => (intro w hSw; (try dsimp only at hSw); go_simp <;> with_reducible rfl)
     try simp only [Array.reduceGetElem, Act.put, List.setIfInBounds_toArray, List.set_cons_zero, List.set_cons_succ])
  | (refine wpAnyH_take (i := 26) rfl (by kernel_rfl) (by kernel_rfl) (by kernel_rfl) (fun _ _ _ h => h) (Or.inr ⟨by rfl, rfl⟩) hHeld ?rest1x26
     try simp only [Array.reduceGetElem, Act.put, List.setIfInBounds_toArray, List.set_cons_zero, List.set_cons_succ])
  first
  | (refine wpAnyH_take (i := 27) (v := ?v1x27) rfl (by kernel_rfl) (by kernel_rfl) (by kernel_rfl) (fun _ _ _ h => h) (Or.inl ⟨by rfl, ?hy1x27⟩) hHeld ?rest1x27
     case hy1x27 => (intro w hSw; (try dsimp only at hSw); go_simp <;> with_reducible rfl)
     try simp only [Array.reduceGetElem, Act.put, List.setIfInBounds_toArray, List.set_cons_zero, List.set_cons_succ])
  | (refine wpAnyH_take (i := 27) rfl (by kernel_rfl) (by kernel_rfl) (by kernel_rfl) (fun _ _ _ h => h) (Or.inr ⟨by rfl, rfl⟩) hHeld ?rest1x27
     try simp only [Array.reduceGetElem, Act.put, List.setIfInBounds_toArray, List.set_cons_zero, List.set_cons_succ])
  first
  | (refine wpAnyH_take (i := 28) (v := ?v1x28) rfl (by kernel_rfl) (by kernel_rfl) (by kernel_rfl) (fun _ _ _ h => h) (Or.inl ⟨by rfl, ?hy1x28⟩) hHeld ?rest1x28
     case hy1x28 => (intro w hSw; (try dsimp only at hSw); go_simp <;> with_reducible rfl)
     try simp only [Array.reduceGetElem, Act.put, List.setIfInBounds_toArray, List.set_cons_zero, List.set_cons_succ])
  | (refine wpAnyH_take (i := 28) rfl (by kernel_rfl) (by kernel_rfl) (by kernel_rfl) (fun _ _ _ h => h) (Or.inr ⟨by rfl, rfl⟩) hHeld ?rest1x28
     try simp only [Array.reduceGetElem, Act.put, List.setIfInBounds_toArray, List.set_cons_zero, List.set_cons_succ])
  first
  | (refine wpAnyH_take (i := 29) (v := ?v1x29) rfl (by kernel_rfl) (by kernel_rfl) (by kernel_rfl) (fun _ _ _ h => h) (Or.inl ⟨by rfl, ?hy1x29⟩) hHeld ?rest1x29
     case hy1x29 => (intro w hSw; (try dsimp only at hSw); go_simp <;> with_reducible rfl)
     try simp only [Array.reduceGetElem, Act.put, List.setIfInBounds_toArray, List.set_cons_zero, List.set_cons_succ])
  | (refine wpAnyH_take (i := 29) rfl (by kernel_rfl) (by kernel_rfl) (by kernel_rfl) (fun _ _ _ h => h) (Or.inr ⟨by rfl, rfl⟩) hHeld ?rest1x29
     try simp only [Array.reduceGetElem, Act.put, List.setIfInBounds_toArray, List.set_cons_zero, List.set_cons_succ])
  refine wpAnyH_done (by kernel_rfl) ?_ _
  clear hwa hws
  go_wp2_with fail
  have hk := two b7 hHeld.2.2.2.2.2.2
  refine (awake_any _ (HE.out.below hk)).mono ?_
  rintro e w7 ⟨rfl, hb⟩
  go_wp2_with fail
  go_ret
  exact ⟨rfl, two hk hb⟩

set_option maxRecDepth 100000 in
set_option maxHeartbeats 1600000 in
theorem sums_no (a b : Int) (w : World) (a0 : -9223372036854775808 ≤ a) (a1 : a ≤ 9223372036854775807) (b0 : -9223372036854775808 ≤ b) (b1 : b ≤ 9223372036854775807) (hb : b < 0) (ho : a + b < -9223372036854775808) (hu : a - b ≤ 9223372036854775807) (hE : Env w) :
    Calls Tryd.prog 4 #[.int .i64 a, .int .i64 b] w fun e w' => e = .returned (.bool true) ∧ Below w.heap.size w w' := by
  have HE := Lib.hid hE
  clear hE
  have HA : Hid (Refused 43 1 a ⟨#[]⟩ 1 b ⟨#[]⟩ 10) := arith_no 43 1 a ⟨#[]⟩ 1 b ⟨#[]⟩ _ (by decide) (by decide) (.inl rfl) (by decide) (by decide) (by decide) (by decide) (fun _ => ⟨by decide, by decide⟩) (add_no ⟨a0, a1⟩ ⟨b0, b1⟩ (by unfold In64; omega))
  have HS : Hid (Numbers 45 1 a ⟨#[]⟩ 1 b ⟨#[]⟩ (a - b)) := arith_ok 45 1 a ⟨#[]⟩ 1 b ⟨#[]⟩ _ (by decide) (by decide) (.inr (.inl rfl)) (by decide) (by decide) (by decide) (by decide) (fun _ => ⟨by decide, by decide⟩) (sub_ok ⟨a0, a1⟩ ⟨b0, b1⟩ (by unfold In64; omega))
  go_enter Tryd.func4, Tryd.ntmps4
  go_wp2_with fail
  refine (of_any a _).mono ?_
  rintro e w1 ⟨rfl, bb1⟩
  go_wp2_with fail
  refine (of_any b _).mono ?_
  rintro e w2 ⟨rfl, hb⟩
  have bb2 := two bb1 hb
  clear hb
  go_wp2_with fail
  refine (HA.out _).mono ?_
  rintro e w3 ⟨rfl, hb⟩
  have bb3 := two bb2 hb
  have z3 := bb3.size
  clear hb
  go_wp2_with fail
  refine (of_any a _).mono ?_
  rintro e w4 ⟨rfl, hb4⟩
  go_wp2_with fail
  refine (of_any b _).mono ?_
  rintro e w5 ⟨rfl, hb⟩
  have hb5 := two hb4 hb
  clear hb
  go_wp2_with fail
  refine (HS.out _).mono ?_
  rintro e w6 ⟨rfl, hb⟩
  have hb6 := two hb5 hb
  clear hb hb4 hb5
  have z6 := hb6.size
  simp only [World.size_alloc] at z6
  have zz : w3.heap.size < w6.heap.size := by omega
  have c0 : w6.cell? ⟨w3.heap.size, 0, none⟩ = some (.int .i64 0) := box hb6 (by simp) 0
  have c1 : w6.cell? ⟨w3.heap.size, 1, none⟩ = some (.int .i64 0) := box hb6 (by simp) 1
  have c2 : w6.cell? ⟨w3.heap.size, 2, none⟩ = some (.string ⟨#[]⟩) := box hb6 (by simp) 2
  have bb6 := next (w := w) (B := w.heap.size) (bb3.alloc z3 _) hb6 (Nat.le_refl _)
  have z66 := bb6.size
  have b7 : Below w.heap.size w (w6.alloc (.cells #[.int .i64 1, .int .i64 (a - b), .string ⟨#[]⟩] 23)) := bb6.alloc z66 _
  have hd6 : Below w6.heap.size w6 (w6.alloc (.cells #[.int .i64 1, .int .i64 (a - b), .string ⟨#[]⟩] 23)) := by go_grown
  have HM : Hid (∀ W, Below (w6.alloc (.cells #[.int .i64 1, .int .i64 (a - b), .string ⟨#[]⟩] 23)).heap.size (w6.alloc (.cells #[.int .i64 1, .int .i64 (a - b), .string ⟨#[]⟩] 23)) W → W.cell? ⟨w3.heap.size, 0, none⟩ = some (.int .i64 0) ∧ W.cell? ⟨w3.heap.size, 1, none⟩ = some (.int .i64 0) ∧ W.cell? ⟨w3.heap.size, 2, none⟩ = some (.string ⟨#[]⟩) ∧ W.cell? ⟨w6.heap.size, 0, none⟩ = some (.int .i64 1) ∧ W.cell? ⟨w6.heap.size, 1, none⟩ = some (.int .i64 (a - b)) ∧ W.cell? ⟨w6.heap.size, 2, none⟩ = some (.string ⟨#[]⟩) ∧ Below (w6.alloc (.cells #[.int .i64 1, .int .i64 (a - b), .string ⟨#[]⟩] 23)).heap.size (w6.alloc (.cells #[.int .i64 1, .int .i64 (a - b), .string ⟨#[]⟩] 23)) W) := fun W h =>
    ⟨(h.cell (by simp; omega)).trans ((hd6.cell (by exact zz)).trans c0), (h.cell (by simp; omega)).trans ((hd6.cell (by exact zz)).trans c1), (h.cell (by simp; omega)).trans ((hd6.cell (by exact zz)).trans c2), (h.cell (by simp)).trans (by simp), (h.cell (by simp)).trans (by simp), (h.cell (by simp)).trans (by simp), h⟩
  have hwa : IntKind.i64.wrap (a + b) = wrap64 (a + b) := IntWalk.i64_left _
  have hws : IntKind.i64.wrap (a - b) = a - b := IntWalk.i64_in _ (by omega)
  clear hb6
  go_wp2_with fail
  refine wp_region_held_drew (S := (fun w' => w'.cell? ⟨w3.heap.size, 0, none⟩ = some (.int .i64 0) ∧ w'.cell? ⟨w3.heap.size, 1, none⟩ = some (.int .i64 0) ∧ w'.cell? ⟨w3.heap.size, 2, none⟩ = some (.string ⟨#[]⟩) ∧ w'.cell? ⟨w6.heap.size, 0, none⟩ = some (.int .i64 1) ∧ w'.cell? ⟨w6.heap.size, 1, none⟩ = some (.int .i64 (a - b)) ∧ w'.cell? ⟨w6.heap.size, 2, none⟩ = some (.string ⟨#[]⟩) ∧ Below (w6.alloc (.cells #[.int .i64 1, .int .i64 (a - b), .string ⟨#[]⟩] 23)).heap.size (w6.alloc (.cells #[.int .i64 1, .int .i64 (a - b), .string ⟨#[]⟩] 23)) w')) (by kernel_rfl) (by exact HM.out _ (Below.drew (by go_grown))) (fun hHeld => ?_)
  first
  | (refine wpAnyH_take (i := 0) (v := ?v38x0) rfl (by kernel_rfl) (by kernel_rfl) (by kernel_rfl) (fun _ _ _ h => h) (Or.inl ⟨by rfl, ?hy38x0⟩) hHeld ?rest38x0
     case hy38x0 => (intro w hSw; (try dsimp only at hSw); go_simp <;> with_reducible rfl)
     try simp only [Array.reduceGetElem, Act.put, List.setIfInBounds_toArray, List.set_cons_zero, List.set_cons_succ])
  | (refine wpAnyH_take (i := 0) rfl (by kernel_rfl) (by kernel_rfl) (by kernel_rfl) (fun _ _ _ h => h) (Or.inr ⟨by rfl, rfl⟩) hHeld ?rest38x0
     try simp only [Array.reduceGetElem, Act.put, List.setIfInBounds_toArray, List.set_cons_zero, List.set_cons_succ])
  first
  | (refine wpAnyH_take (i := 1) (v := ?v38x1) rfl (by kernel_rfl) (by kernel_rfl) (by kernel_rfl) (fun _ _ _ h => h) (Or.inl ⟨by rfl, ?hy38x1⟩) hHeld ?rest38x1
     case hy38x1 => (intro w hSw; (try dsimp only at hSw); go_simp <;> with_reducible rfl)
     try simp only [Array.reduceGetElem, Act.put, List.setIfInBounds_toArray, List.set_cons_zero, List.set_cons_succ])
  | (refine wpAnyH_take (i := 1) rfl (by kernel_rfl) (by kernel_rfl) (by kernel_rfl) (fun _ _ _ h => h) (Or.inr ⟨by rfl, rfl⟩) hHeld ?rest38x1
     try simp only [Array.reduceGetElem, Act.put, List.setIfInBounds_toArray, List.set_cons_zero, List.set_cons_succ])
  first
  | (refine wpAnyH_take (i := 2) (v := ?v38x2) rfl (by kernel_rfl) (by kernel_rfl) (by kernel_rfl) (fun _ _ _ h => h) (Or.inl ⟨by rfl, ?hy38x2⟩) hHeld ?rest38x2
     case hy38x2 => (intro w hSw; (try dsimp only at hSw); go_simp <;> with_reducible rfl)
     try simp only [Array.reduceGetElem, Act.put, List.setIfInBounds_toArray, List.set_cons_zero, List.set_cons_succ])
  | (refine wpAnyH_take (i := 2) rfl (by kernel_rfl) (by kernel_rfl) (by kernel_rfl) (fun _ _ _ h => h) (Or.inr ⟨by rfl, rfl⟩) hHeld ?rest38x2
     try simp only [Array.reduceGetElem, Act.put, List.setIfInBounds_toArray, List.set_cons_zero, List.set_cons_succ])
  first
  | (refine wpAnyH_take (i := 3) (v := ?v38x3) rfl (by kernel_rfl) (by kernel_rfl) (by kernel_rfl) (fun _ _ _ h => h) (Or.inl ⟨by rfl, ?hy38x3⟩) hHeld ?rest38x3
     case hy38x3 => (intro w hSw; (try dsimp only at hSw); go_simp <;> with_reducible rfl)
     try simp only [Array.reduceGetElem, Act.put, List.setIfInBounds_toArray, List.set_cons_zero, List.set_cons_succ])
  | (refine wpAnyH_take (i := 3) rfl (by kernel_rfl) (by kernel_rfl) (by kernel_rfl) (fun _ _ _ h => h) (Or.inr ⟨by rfl, rfl⟩) hHeld ?rest38x3
     try simp only [Array.reduceGetElem, Act.put, List.setIfInBounds_toArray, List.set_cons_zero, List.set_cons_succ])
  first
  | (refine wpAnyH_take (i := 4) (v := ?v38x4) rfl (by kernel_rfl) (by kernel_rfl) (by kernel_rfl) (fun _ _ _ h => h) (Or.inl ⟨by rfl, ?hy38x4⟩) hHeld ?rest38x4
     case hy38x4 => (intro w hSw; (try dsimp only at hSw); go_simp <;> with_reducible rfl)
     try simp only [Array.reduceGetElem, Act.put, List.setIfInBounds_toArray, List.set_cons_zero, List.set_cons_succ])
  | (refine wpAnyH_take (i := 4) rfl (by kernel_rfl) (by kernel_rfl) (by kernel_rfl) (fun _ _ _ h => h) (Or.inr ⟨by rfl, rfl⟩) hHeld ?rest38x4
     try simp only [Array.reduceGetElem, Act.put, List.setIfInBounds_toArray, List.set_cons_zero, List.set_cons_succ])
  first
  | (refine wpAnyH_take (i := 5) (v := ?v38x5) rfl (by kernel_rfl) (by kernel_rfl) (by kernel_rfl) (fun _ _ _ h => h) (Or.inl ⟨by rfl, ?hy38x5⟩) hHeld ?rest38x5
     case hy38x5 => (intro w hSw; (try dsimp only at hSw); go_simp <;> with_reducible rfl)
     try simp only [Array.reduceGetElem, Act.put, List.setIfInBounds_toArray, List.set_cons_zero, List.set_cons_succ])
  | (refine wpAnyH_take (i := 5) rfl (by kernel_rfl) (by kernel_rfl) (by kernel_rfl) (fun _ _ _ h => h) (Or.inr ⟨by rfl, rfl⟩) hHeld ?rest38x5
     try simp only [Array.reduceGetElem, Act.put, List.setIfInBounds_toArray, List.set_cons_zero, List.set_cons_succ])
  first
  | (refine wpAnyH_take (i := 6) (v := ?v38x6) rfl (by kernel_rfl) (by kernel_rfl) (by kernel_rfl) (fun _ _ _ h => h) (Or.inl ⟨by rfl, ?hy38x6⟩) hHeld ?rest38x6
     case hy38x6 => (intro w hSw; (try dsimp only at hSw); go_simp <;> with_reducible rfl)
     try simp only [Array.reduceGetElem, Act.put, List.setIfInBounds_toArray, List.set_cons_zero, List.set_cons_succ])
  | (refine wpAnyH_take (i := 6) rfl (by kernel_rfl) (by kernel_rfl) (by kernel_rfl) (fun _ _ _ h => h) (Or.inr ⟨by rfl, rfl⟩) hHeld ?rest38x6
     try simp only [Array.reduceGetElem, Act.put, List.setIfInBounds_toArray, List.set_cons_zero, List.set_cons_succ])
  first
  | (refine wpAnyH_take (i := 7) (v := ?v38x7) rfl (by kernel_rfl) (by kernel_rfl) (by kernel_rfl) (fun _ _ _ h => h) (Or.inl ⟨by rfl, ?hy38x7⟩) hHeld ?rest38x7
     case hy38x7 => (intro w hSw; (try dsimp only at hSw); go_simp <;> with_reducible rfl)
     try simp only [Array.reduceGetElem, Act.put, List.setIfInBounds_toArray, List.set_cons_zero, List.set_cons_succ])
  | (refine wpAnyH_take (i := 7) rfl (by kernel_rfl) (by kernel_rfl) (by kernel_rfl) (fun _ _ _ h => h) (Or.inr ⟨by rfl, rfl⟩) hHeld ?rest38x7
     try simp only [Array.reduceGetElem, Act.put, List.setIfInBounds_toArray, List.set_cons_zero, List.set_cons_succ])
  first
  | (refine wpAnyH_take (i := 8) (v := ?v38x8) rfl (by kernel_rfl) (by kernel_rfl) (by kernel_rfl) (fun _ _ _ h => h) (Or.inl ⟨by rfl, ?hy38x8⟩) hHeld ?rest38x8
     case hy38x8 => (intro w hSw; (try dsimp only at hSw); go_simp <;> with_reducible rfl)
     try simp only [Array.reduceGetElem, Act.put, List.setIfInBounds_toArray, List.set_cons_zero, List.set_cons_succ])
  | (refine wpAnyH_take (i := 8) rfl (by kernel_rfl) (by kernel_rfl) (by kernel_rfl) (fun _ _ _ h => h) (Or.inr ⟨by rfl, rfl⟩) hHeld ?rest38x8
     try simp only [Array.reduceGetElem, Act.put, List.setIfInBounds_toArray, List.set_cons_zero, List.set_cons_succ])
  first
  | (refine wpAnyH_take (i := 9) (v := ?v38x9) rfl (by kernel_rfl) (by kernel_rfl) (by kernel_rfl) (fun _ _ _ h => h) (Or.inl ⟨by rfl, ?hy38x9⟩) hHeld ?rest38x9
     case hy38x9 => (intro w hSw; (try dsimp only at hSw); go_simp <;> with_reducible rfl)
     try simp only [Array.reduceGetElem, Act.put, List.setIfInBounds_toArray, List.set_cons_zero, List.set_cons_succ])
  | (refine wpAnyH_take (i := 9) rfl (by kernel_rfl) (by kernel_rfl) (by kernel_rfl) (fun _ _ _ h => h) (Or.inr ⟨by rfl, rfl⟩) hHeld ?rest38x9
     try simp only [Array.reduceGetElem, Act.put, List.setIfInBounds_toArray, List.set_cons_zero, List.set_cons_succ])
  first
  | (refine wpAnyH_take (i := 10) (v := ?v38x10) rfl (by kernel_rfl) (by kernel_rfl) (by kernel_rfl) (fun _ _ _ h => h) (Or.inl ⟨by rfl, ?hy38x10⟩) hHeld ?rest38x10
     case hy38x10 => (intro w hSw; (try dsimp only at hSw); go_simp <;> with_reducible rfl)
     try simp only [Array.reduceGetElem, Act.put, List.setIfInBounds_toArray, List.set_cons_zero, List.set_cons_succ])
  | (refine wpAnyH_take (i := 10) rfl (by kernel_rfl) (by kernel_rfl) (by kernel_rfl) (fun _ _ _ h => h) (Or.inr ⟨by rfl, rfl⟩) hHeld ?rest38x10
     try simp only [Array.reduceGetElem, Act.put, List.setIfInBounds_toArray, List.set_cons_zero, List.set_cons_succ])
  first
  | (refine wpAnyH_take (i := 11) (v := ?v38x11) rfl (by kernel_rfl) (by kernel_rfl) (by kernel_rfl) (fun _ _ _ h => h) (Or.inl ⟨by rfl, ?hy38x11⟩) hHeld ?rest38x11
     case hy38x11 => (intro w hSw; (try dsimp only at hSw); go_simp <;> with_reducible rfl)
     try simp only [Array.reduceGetElem, Act.put, List.setIfInBounds_toArray, List.set_cons_zero, List.set_cons_succ])
  | (refine wpAnyH_take (i := 11) rfl (by kernel_rfl) (by kernel_rfl) (by kernel_rfl) (fun _ _ _ h => h) (Or.inr ⟨by rfl, rfl⟩) hHeld ?rest38x11
     try simp only [Array.reduceGetElem, Act.put, List.setIfInBounds_toArray, List.set_cons_zero, List.set_cons_succ])
  first
  | (refine wpAnyH_take (i := 12) (v := ?v38x12) rfl (by kernel_rfl) (by kernel_rfl) (by kernel_rfl) (fun _ _ _ h => h) (Or.inl ⟨by rfl, ?hy38x12⟩) hHeld ?rest38x12
     case hy38x12 => (intro w hSw; (try dsimp only at hSw); go_simp <;> with_reducible rfl)
     try simp only [Array.reduceGetElem, Act.put, List.setIfInBounds_toArray, List.set_cons_zero, List.set_cons_succ])
  | (refine wpAnyH_take (i := 12) rfl (by kernel_rfl) (by kernel_rfl) (by kernel_rfl) (fun _ _ _ h => h) (Or.inr ⟨by rfl, rfl⟩) hHeld ?rest38x12
     try simp only [Array.reduceGetElem, Act.put, List.setIfInBounds_toArray, List.set_cons_zero, List.set_cons_succ])
  first
  | (refine wpAnyH_take (i := 13) (v := ?v38x13) rfl (by kernel_rfl) (by kernel_rfl) (by kernel_rfl) (fun _ _ _ h => h) (Or.inl ⟨by rfl, ?hy38x13⟩) hHeld ?rest38x13
     case hy38x13 => (intro w hSw; (try dsimp only at hSw); go_simp <;> with_reducible rfl)
     try simp only [Array.reduceGetElem, Act.put, List.setIfInBounds_toArray, List.set_cons_zero, List.set_cons_succ])
  | (refine wpAnyH_take (i := 13) rfl (by kernel_rfl) (by kernel_rfl) (by kernel_rfl) (fun _ _ _ h => h) (Or.inr ⟨by rfl, rfl⟩) hHeld ?rest38x13
     try simp only [Array.reduceGetElem, Act.put, List.setIfInBounds_toArray, List.set_cons_zero, List.set_cons_succ])
  first
  | (refine wpAnyH_take (i := 14) (v := ?v38x14) rfl (by kernel_rfl) (by kernel_rfl) (by kernel_rfl) (fun _ _ _ h => h) (Or.inl ⟨by rfl, ?hy38x14⟩) hHeld ?rest38x14
     case hy38x14 => (intro w hSw; (try dsimp only at hSw); go_simp <;> with_reducible rfl)
     try simp only [Array.reduceGetElem, Act.put, List.setIfInBounds_toArray, List.set_cons_zero, List.set_cons_succ])
  | (refine wpAnyH_take (i := 14) rfl (by kernel_rfl) (by kernel_rfl) (by kernel_rfl) (fun _ _ _ h => h) (Or.inr ⟨by rfl, rfl⟩) hHeld ?rest38x14
     try simp only [Array.reduceGetElem, Act.put, List.setIfInBounds_toArray, List.set_cons_zero, List.set_cons_succ])
  first
  | (refine wpAnyH_take (i := 15) (v := ?v38x15) rfl (by kernel_rfl) (by kernel_rfl) (by kernel_rfl) (fun _ _ _ h => h) (Or.inl ⟨by rfl, ?hy38x15⟩) hHeld ?rest38x15
     case hy38x15 => (intro w hSw; (try dsimp only at hSw); go_simp <;> with_reducible rfl)
     try simp only [Array.reduceGetElem, Act.put, List.setIfInBounds_toArray, List.set_cons_zero, List.set_cons_succ])
  | (refine wpAnyH_take (i := 15) rfl (by kernel_rfl) (by kernel_rfl) (by kernel_rfl) (fun _ _ _ h => h) (Or.inr ⟨by rfl, rfl⟩) hHeld ?rest38x15
     try simp only [Array.reduceGetElem, Act.put, List.setIfInBounds_toArray, List.set_cons_zero, List.set_cons_succ])
  first
  | (refine wpAnyH_take (i := 16) (v := ?v38x16) rfl (by kernel_rfl) (by kernel_rfl) (by kernel_rfl) (fun _ _ _ h => h) (Or.inl ⟨by rfl, ?hy38x16⟩) hHeld ?rest38x16
     case hy38x16 => (intro w hSw; (try dsimp only at hSw); go_simp <;> with_reducible rfl)
     try simp only [Array.reduceGetElem, Act.put, List.setIfInBounds_toArray, List.set_cons_zero, List.set_cons_succ])
  | (refine wpAnyH_take (i := 16) rfl (by kernel_rfl) (by kernel_rfl) (by kernel_rfl) (fun _ _ _ h => h) (Or.inr ⟨by rfl, rfl⟩) hHeld ?rest38x16
     try simp only [Array.reduceGetElem, Act.put, List.setIfInBounds_toArray, List.set_cons_zero, List.set_cons_succ])
  first
  | (refine wpAnyH_take (i := 17) (v := ?v38x17) rfl (by kernel_rfl) (by kernel_rfl) (by kernel_rfl) (fun _ _ _ h => h) (Or.inl ⟨by rfl, ?hy38x17⟩) hHeld ?rest38x17
     case hy38x17 => (intro w hSw; (try dsimp only at hSw); go_simp <;> with_reducible rfl)
     try simp only [Array.reduceGetElem, Act.put, List.setIfInBounds_toArray, List.set_cons_zero, List.set_cons_succ])
  | (refine wpAnyH_take (i := 17) rfl (by kernel_rfl) (by kernel_rfl) (by kernel_rfl) (fun _ _ _ h => h) (Or.inr ⟨by rfl, rfl⟩) hHeld ?rest38x17
     try simp only [Array.reduceGetElem, Act.put, List.setIfInBounds_toArray, List.set_cons_zero, List.set_cons_succ])
  first
  | (refine wpAnyH_take (i := 18) (v := ?v38x18) rfl (by kernel_rfl) (by kernel_rfl) (by kernel_rfl) (fun _ _ _ h => h) (Or.inl ⟨by rfl, ?hy38x18⟩) hHeld ?rest38x18
     case hy38x18 => (intro w hSw; (try dsimp only at hSw); go_simp <;> with_reducible rfl)
     try simp only [Array.reduceGetElem, Act.put, List.setIfInBounds_toArray, List.set_cons_zero, List.set_cons_succ])
  | (refine wpAnyH_take (i := 18) rfl (by kernel_rfl) (by kernel_rfl) (by kernel_rfl) (fun _ _ _ h => h) (Or.inr ⟨by rfl, rfl⟩) hHeld ?rest38x18
     try simp only [Array.reduceGetElem, Act.put, List.setIfInBounds_toArray, List.set_cons_zero, List.set_cons_succ])
  first
  | (refine wpAnyH_take (i := 19) (v := ?v38x19) rfl (by kernel_rfl) (by kernel_rfl) (by kernel_rfl) (fun _ _ _ h => h) (Or.inl ⟨by rfl, ?hy38x19⟩) hHeld ?rest38x19
     case hy38x19 => (intro w hSw; (try dsimp only at hSw); go_simp <;> with_reducible rfl)
     try simp only [Array.reduceGetElem, Act.put, List.setIfInBounds_toArray, List.set_cons_zero, List.set_cons_succ])
  | (refine wpAnyH_take (i := 19) rfl (by kernel_rfl) (by kernel_rfl) (by kernel_rfl) (fun _ _ _ h => h) (Or.inr ⟨by rfl, rfl⟩) hHeld ?rest38x19
     try simp only [Array.reduceGetElem, Act.put, List.setIfInBounds_toArray, List.set_cons_zero, List.set_cons_succ])
  first
  | (refine wpAnyH_take (i := 20) (v := ?v38x20) rfl (by kernel_rfl) (by kernel_rfl) (by kernel_rfl) (fun _ _ _ h => h) (Or.inl ⟨by rfl, ?hy38x20⟩) hHeld ?rest38x20
     case hy38x20 => (intro w hSw; (try dsimp only at hSw); go_simp <;> with_reducible rfl)
     try simp only [Array.reduceGetElem, Act.put, List.setIfInBounds_toArray, List.set_cons_zero, List.set_cons_succ])
  | (refine wpAnyH_take (i := 20) rfl (by kernel_rfl) (by kernel_rfl) (by kernel_rfl) (fun _ _ _ h => h) (Or.inr ⟨by rfl, rfl⟩) hHeld ?rest38x20
     try simp only [Array.reduceGetElem, Act.put, List.setIfInBounds_toArray, List.set_cons_zero, List.set_cons_succ])
  first
  | (refine wpAnyH_take (i := 21) (v := ?v38x21) rfl (by kernel_rfl) (by kernel_rfl) (by kernel_rfl) (fun _ _ _ h => h) (Or.inl ⟨by rfl, ?hy38x21⟩) hHeld ?rest38x21
     case hy38x21 => (intro w hSw; (try dsimp only at hSw); go_simp <;> with_reducible rfl)
     try simp only [Array.reduceGetElem, Act.put, List.setIfInBounds_toArray, List.set_cons_zero, List.set_cons_succ])
  | (refine wpAnyH_take (i := 21) rfl (by kernel_rfl) (by kernel_rfl) (by kernel_rfl) (fun _ _ _ h => h) (Or.inr ⟨by rfl, rfl⟩) hHeld ?rest38x21
     try simp only [Array.reduceGetElem, Act.put, List.setIfInBounds_toArray, List.set_cons_zero, List.set_cons_succ])
  first
  | (refine wpAnyH_take (i := 22) (v := ?v38x22) rfl (by kernel_rfl) (by kernel_rfl) (by kernel_rfl) (fun _ _ _ h => h) (Or.inl ⟨by rfl, ?hy38x22⟩) hHeld ?rest38x22
     case hy38x22 => (intro w hSw; (try dsimp only at hSw); go_simp <;> with_reducible rfl)
     try simp only [Array.reduceGetElem, Act.put, List.setIfInBounds_toArray, List.set_cons_zero, List.set_cons_succ])
  | (refine wpAnyH_take (i := 22) rfl (by kernel_rfl) (by kernel_rfl) (by kernel_rfl) (fun _ _ _ h => h) (Or.inr ⟨by rfl, rfl⟩) hHeld ?rest38x22
     try simp only [Array.reduceGetElem, Act.put, List.setIfInBounds_toArray, List.set_cons_zero, List.set_cons_succ])
  first
  | (refine wpAnyH_take (i := 23) (v := ?v38x23) rfl (by kernel_rfl) (by kernel_rfl) (by kernel_rfl) (fun _ _ _ h => h) (Or.inl ⟨by rfl, ?hy38x23⟩) hHeld ?rest38x23
     case hy38x23 => (intro w hSw; (try dsimp only at hSw); go_simp <;> with_reducible rfl)
     try simp only [Array.reduceGetElem, Act.put, List.setIfInBounds_toArray, List.set_cons_zero, List.set_cons_succ])
  | (refine wpAnyH_take (i := 23) rfl (by kernel_rfl) (by kernel_rfl) (by kernel_rfl) (fun _ _ _ h => h) (Or.inr ⟨by rfl, rfl⟩) hHeld ?rest38x23
     try simp only [Array.reduceGetElem, Act.put, List.setIfInBounds_toArray, List.set_cons_zero, List.set_cons_succ])
  first
  | (refine wpAnyH_take (i := 24) (v := ?v38x24) rfl (by kernel_rfl) (by kernel_rfl) (by kernel_rfl) (fun _ _ _ h => h) (Or.inl ⟨by rfl, ?hy38x24⟩) hHeld ?rest38x24
     case hy38x24 => (intro w hSw; (try dsimp only at hSw); go_simp <;> with_reducible rfl)
     try simp only [Array.reduceGetElem, Act.put, List.setIfInBounds_toArray, List.set_cons_zero, List.set_cons_succ])
  | (refine wpAnyH_take (i := 24) rfl (by kernel_rfl) (by kernel_rfl) (by kernel_rfl) (fun _ _ _ h => h) (Or.inr ⟨by rfl, rfl⟩) hHeld ?rest38x24
     try simp only [Array.reduceGetElem, Act.put, List.setIfInBounds_toArray, List.set_cons_zero, List.set_cons_succ])
  refine wpAnyH_ready (rs := [25]) (by kernel_rfl) (by simp) ?_
  refine AllReadyH.cons rfl (fun K hK => ?_) AllReadyH.nil
  go_simp
  go_at_call 13; refine (of_any _ _).mono ?_; rintro e w8 ⟨rfl, hb⟩; go_wp2_with fail
  refine hK.out _ _ ?_ (fun hHeld2 => ?_)
  · exact HM.out _ (two hHeld.2.2.2.2.2.2 hb)
  clear hK K hHeld
  have hHeld := hHeld2
  clear hHeld2
  try simp only [Array.reduceGetElem, Act.put, List.setIfInBounds_toArray, List.set_cons_zero, List.set_cons_succ]
  first
  | (refine wpAnyH_take (i := 26) (v := ?v38x26) rfl (by kernel_rfl) (by kernel_rfl) (by kernel_rfl) (fun _ _ _ h => h) (Or.inl ⟨by rfl, ?hy38x26⟩) hHeld ?rest38x26
     case hy38x26 => (intro w hSw; (try dsimp only at hSw); go_simp <;> with_reducible rfl)
     try simp only [Array.reduceGetElem, Act.put, List.setIfInBounds_toArray, List.set_cons_zero, List.set_cons_succ])
  | (refine wpAnyH_take (i := 26) rfl (by kernel_rfl) (by kernel_rfl) (by kernel_rfl) (fun _ _ _ h => h) (Or.inr ⟨by rfl, rfl⟩) hHeld ?rest38x26
     try simp only [Array.reduceGetElem, Act.put, List.setIfInBounds_toArray, List.set_cons_zero, List.set_cons_succ])
  first
  | (refine wpAnyH_take (i := 27) (v := ?v38x27) rfl (by kernel_rfl) (by kernel_rfl) (by kernel_rfl) (fun _ _ _ h => h) (Or.inl ⟨by rfl, ?hy38x27⟩) hHeld ?rest38x27
     case hy38x27 => (intro w hSw; (try dsimp only at hSw); go_simp <;> with_reducible rfl)
     try simp only [Array.reduceGetElem, Act.put, List.setIfInBounds_toArray, List.set_cons_zero, List.set_cons_succ])
  | (refine wpAnyH_take (i := 27) rfl (by kernel_rfl) (by kernel_rfl) (by kernel_rfl) (fun _ _ _ h => h) (Or.inr ⟨by rfl, rfl⟩) hHeld ?rest38x27
     try simp only [Array.reduceGetElem, Act.put, List.setIfInBounds_toArray, List.set_cons_zero, List.set_cons_succ])
  first
  | (refine wpAnyH_take (i := 28) (v := ?v38x28) rfl (by kernel_rfl) (by kernel_rfl) (by kernel_rfl) (fun _ _ _ h => h) (Or.inl ⟨by rfl, ?hy38x28⟩) hHeld ?rest38x28
     case hy38x28 => (intro w hSw; (try dsimp only at hSw); go_simp <;> with_reducible rfl)
     try simp only [Array.reduceGetElem, Act.put, List.setIfInBounds_toArray, List.set_cons_zero, List.set_cons_succ])
  | (refine wpAnyH_take (i := 28) rfl (by kernel_rfl) (by kernel_rfl) (by kernel_rfl) (fun _ _ _ h => h) (Or.inr ⟨by rfl, rfl⟩) hHeld ?rest38x28
     try simp only [Array.reduceGetElem, Act.put, List.setIfInBounds_toArray, List.set_cons_zero, List.set_cons_succ])
  first
  | (refine wpAnyH_take (i := 29) (v := ?v38x29) rfl (by kernel_rfl) (by kernel_rfl) (by kernel_rfl) (fun _ _ _ h => h) (Or.inl ⟨by rfl, ?hy38x29⟩) hHeld ?rest38x29
     case hy38x29 => (intro w hSw; (try dsimp only at hSw); go_simp <;> with_reducible rfl)
     try simp only [Array.reduceGetElem, Act.put, List.setIfInBounds_toArray, List.set_cons_zero, List.set_cons_succ])
  | (refine wpAnyH_take (i := 29) rfl (by kernel_rfl) (by kernel_rfl) (by kernel_rfl) (fun _ _ _ h => h) (Or.inr ⟨by rfl, rfl⟩) hHeld ?rest38x29
     try simp only [Array.reduceGetElem, Act.put, List.setIfInBounds_toArray, List.set_cons_zero, List.set_cons_succ])
  refine wpAnyH_done (by kernel_rfl) ?_ _
  clear hwa hws
  go_wp2_with fail
  have hk := two b7 hHeld.2.2.2.2.2.2
  refine (awake_any _ (HE.out.below hk)).mono ?_
  rintro e w7 ⟨rfl, hb⟩
  go_wp2_with fail
  go_ret
  exact ⟨rfl, two hk hb⟩

set_option maxRecDepth 100000 in
set_option maxHeartbeats 1600000 in
theorem sums_z (a b : Int) (w : World) (a0 : -9223372036854775808 ≤ a) (a1 : a ≤ 9223372036854775807) (b0 : -9223372036854775808 ≤ b) (b1 : b ≤ 9223372036854775807) (hb : b ≤ 0) (hc : 0 ≤ b) (hE : Env w) :
    Calls Tryd.prog 4 #[.int .i64 a, .int .i64 b] w fun e w' => e = .returned (.bool true) ∧ Below w.heap.size w w' := by
  have HE := Lib.hid hE
  clear hE
  have HA : Hid (Numbers 43 1 a ⟨#[]⟩ 1 b ⟨#[]⟩ (a + b)) := arith_ok 43 1 a ⟨#[]⟩ 1 b ⟨#[]⟩ _ (by decide) (by decide) (.inl rfl) (by decide) (by decide) (by decide) (by decide) (fun _ => ⟨by decide, by decide⟩) (add_ok ⟨a0, a1⟩ ⟨b0, b1⟩ (by unfold In64; omega))
  have HS : Hid (Numbers 45 1 a ⟨#[]⟩ 1 b ⟨#[]⟩ (a - b)) := arith_ok 45 1 a ⟨#[]⟩ 1 b ⟨#[]⟩ _ (by decide) (by decide) (.inr (.inl rfl)) (by decide) (by decide) (by decide) (by decide) (fun _ => ⟨by decide, by decide⟩) (sub_ok ⟨a0, a1⟩ ⟨b0, b1⟩ (by unfold In64; omega))
  have HB : Hid (Numbers 45 1 (a + b) ⟨#[]⟩ 1 b ⟨#[]⟩ a) := arith_ok 45 1 (a + b) ⟨#[]⟩ 1 b ⟨#[]⟩ _ (by decide) (by decide) (.inr (.inl rfl)) (by decide) (by decide) (by decide) (by decide) (fun _ => ⟨by decide, by decide⟩) (by have := sub_ok (a := a + b) (b := b) ⟨by omega, by omega⟩ ⟨b0, b1⟩ (by unfold In64; omega); rwa [show a + b - b = a by omega] at this)
  go_enter Tryd.func4, Tryd.ntmps4
  go_wp2_with fail
  refine (of_any a _).mono ?_
  rintro e w1 ⟨rfl, bb1⟩
  go_wp2_with fail
  refine (of_any b _).mono ?_
  rintro e w2 ⟨rfl, hb⟩
  have bb2 := two bb1 hb
  clear hb
  go_wp2_with fail
  refine (HA.out _).mono ?_
  rintro e w3 ⟨rfl, hb⟩
  have bb3 := two bb2 hb
  have z3 := bb3.size
  clear hb
  go_wp2_with fail
  refine (of_any a _).mono ?_
  rintro e w4 ⟨rfl, hb4⟩
  go_wp2_with fail
  refine (of_any b _).mono ?_
  rintro e w5 ⟨rfl, hb⟩
  have hb5 := two hb4 hb
  clear hb
  go_wp2_with fail
  refine (HS.out _).mono ?_
  rintro e w6 ⟨rfl, hb⟩
  have hb6 := two hb5 hb
  clear hb hb4 hb5
  have z6 := hb6.size
  simp only [World.size_alloc] at z6
  have zz : w3.heap.size < w6.heap.size := by omega
  have c0 : w6.cell? ⟨w3.heap.size, 0, none⟩ = some (.int .i64 1) := box hb6 (by simp) 0
  have c1 : w6.cell? ⟨w3.heap.size, 1, none⟩ = some (.int .i64 (a + b)) := box hb6 (by simp) 1
  have c2 : w6.cell? ⟨w3.heap.size, 2, none⟩ = some (.string ⟨#[]⟩) := box hb6 (by simp) 2
  have bb6 := next (w := w) (B := w.heap.size) (bb3.alloc z3 _) hb6 (Nat.le_refl _)
  have z66 := bb6.size
  have b7 : Below w.heap.size w (w6.alloc (.cells #[.int .i64 1, .int .i64 (a - b), .string ⟨#[]⟩] 23)) := bb6.alloc z66 _
  have hd6 : Below w6.heap.size w6 (w6.alloc (.cells #[.int .i64 1, .int .i64 (a - b), .string ⟨#[]⟩] 23)) := by go_grown
  have HM : Hid (∀ W, Below (w6.alloc (.cells #[.int .i64 1, .int .i64 (a - b), .string ⟨#[]⟩] 23)).heap.size (w6.alloc (.cells #[.int .i64 1, .int .i64 (a - b), .string ⟨#[]⟩] 23)) W → W.cell? ⟨w3.heap.size, 0, none⟩ = some (.int .i64 1) ∧ W.cell? ⟨w3.heap.size, 1, none⟩ = some (.int .i64 (a + b)) ∧ W.cell? ⟨w3.heap.size, 2, none⟩ = some (.string ⟨#[]⟩) ∧ W.cell? ⟨w6.heap.size, 0, none⟩ = some (.int .i64 1) ∧ W.cell? ⟨w6.heap.size, 1, none⟩ = some (.int .i64 (a - b)) ∧ W.cell? ⟨w6.heap.size, 2, none⟩ = some (.string ⟨#[]⟩) ∧ Below (w6.alloc (.cells #[.int .i64 1, .int .i64 (a - b), .string ⟨#[]⟩] 23)).heap.size (w6.alloc (.cells #[.int .i64 1, .int .i64 (a - b), .string ⟨#[]⟩] 23)) W) := fun W h =>
    ⟨(h.cell (by simp; omega)).trans ((hd6.cell (by exact zz)).trans c0), (h.cell (by simp; omega)).trans ((hd6.cell (by exact zz)).trans c1), (h.cell (by simp; omega)).trans ((hd6.cell (by exact zz)).trans c2), (h.cell (by simp)).trans (by simp), (h.cell (by simp)).trans (by simp), (h.cell (by simp)).trans (by simp), h⟩
  have hwa : IntKind.i64.wrap (a + b) = a + b := IntWalk.i64_in _ (by omega)
  have hws : IntKind.i64.wrap (a - b) = a - b := IntWalk.i64_in _ (by omega)
  clear hb6
  go_wp2_with fail
  refine wp_region_held_drew (S := (fun w' => w'.cell? ⟨w3.heap.size, 0, none⟩ = some (.int .i64 1) ∧ w'.cell? ⟨w3.heap.size, 1, none⟩ = some (.int .i64 (a + b)) ∧ w'.cell? ⟨w3.heap.size, 2, none⟩ = some (.string ⟨#[]⟩) ∧ w'.cell? ⟨w6.heap.size, 0, none⟩ = some (.int .i64 1) ∧ w'.cell? ⟨w6.heap.size, 1, none⟩ = some (.int .i64 (a - b)) ∧ w'.cell? ⟨w6.heap.size, 2, none⟩ = some (.string ⟨#[]⟩) ∧ Below (w6.alloc (.cells #[.int .i64 1, .int .i64 (a - b), .string ⟨#[]⟩] 23)).heap.size (w6.alloc (.cells #[.int .i64 1, .int .i64 (a - b), .string ⟨#[]⟩] 23)) w')) (by kernel_rfl) (by exact HM.out _ (Below.drew (by go_grown))) (fun hHeld => ?_)
  first
  | (refine wpAnyH_take (i := 0) (v := ?v75x0) rfl (by kernel_rfl) (by kernel_rfl) (by kernel_rfl) (fun _ _ _ h => h) (Or.inl ⟨by rfl, ?hy75x0⟩) hHeld ?rest75x0
     case hy75x0 => (intro w hSw; (try dsimp only at hSw); go_simp <;> with_reducible rfl)
     try simp only [Array.reduceGetElem, Act.put, List.setIfInBounds_toArray, List.set_cons_zero, List.set_cons_succ])
  | (refine wpAnyH_take (i := 0) rfl (by kernel_rfl) (by kernel_rfl) (by kernel_rfl) (fun _ _ _ h => h) (Or.inr ⟨by rfl, rfl⟩) hHeld ?rest75x0
     try simp only [Array.reduceGetElem, Act.put, List.setIfInBounds_toArray, List.set_cons_zero, List.set_cons_succ])
  first
  | (refine wpAnyH_take (i := 1) (v := ?v75x1) rfl (by kernel_rfl) (by kernel_rfl) (by kernel_rfl) (fun _ _ _ h => h) (Or.inl ⟨by rfl, ?hy75x1⟩) hHeld ?rest75x1
     case hy75x1 => (intro w hSw; (try dsimp only at hSw); go_simp <;> with_reducible rfl)
     try simp only [Array.reduceGetElem, Act.put, List.setIfInBounds_toArray, List.set_cons_zero, List.set_cons_succ])
  | (refine wpAnyH_take (i := 1) rfl (by kernel_rfl) (by kernel_rfl) (by kernel_rfl) (fun _ _ _ h => h) (Or.inr ⟨by rfl, rfl⟩) hHeld ?rest75x1
     try simp only [Array.reduceGetElem, Act.put, List.setIfInBounds_toArray, List.set_cons_zero, List.set_cons_succ])
  first
  | (refine wpAnyH_take (i := 2) (v := ?v75x2) rfl (by kernel_rfl) (by kernel_rfl) (by kernel_rfl) (fun _ _ _ h => h) (Or.inl ⟨by rfl, ?hy75x2⟩) hHeld ?rest75x2
     case hy75x2 => (intro w hSw; (try dsimp only at hSw); go_simp <;> with_reducible rfl)
     try simp only [Array.reduceGetElem, Act.put, List.setIfInBounds_toArray, List.set_cons_zero, List.set_cons_succ])
  | (refine wpAnyH_take (i := 2) rfl (by kernel_rfl) (by kernel_rfl) (by kernel_rfl) (fun _ _ _ h => h) (Or.inr ⟨by rfl, rfl⟩) hHeld ?rest75x2
     try simp only [Array.reduceGetElem, Act.put, List.setIfInBounds_toArray, List.set_cons_zero, List.set_cons_succ])
  first
  | (refine wpAnyH_take (i := 3) (v := ?v75x3) rfl (by kernel_rfl) (by kernel_rfl) (by kernel_rfl) (fun _ _ _ h => h) (Or.inl ⟨by rfl, ?hy75x3⟩) hHeld ?rest75x3
     case hy75x3 => (intro w hSw; (try dsimp only at hSw); go_simp <;> with_reducible rfl)
     try simp only [Array.reduceGetElem, Act.put, List.setIfInBounds_toArray, List.set_cons_zero, List.set_cons_succ])
  | (refine wpAnyH_take (i := 3) rfl (by kernel_rfl) (by kernel_rfl) (by kernel_rfl) (fun _ _ _ h => h) (Or.inr ⟨by rfl, rfl⟩) hHeld ?rest75x3
     try simp only [Array.reduceGetElem, Act.put, List.setIfInBounds_toArray, List.set_cons_zero, List.set_cons_succ])
  first
  | (refine wpAnyH_take (i := 4) (v := ?v75x4) rfl (by kernel_rfl) (by kernel_rfl) (by kernel_rfl) (fun _ _ _ h => h) (Or.inl ⟨by rfl, ?hy75x4⟩) hHeld ?rest75x4
     case hy75x4 => (intro w hSw; (try dsimp only at hSw); go_simp <;> with_reducible rfl)
     try simp only [Array.reduceGetElem, Act.put, List.setIfInBounds_toArray, List.set_cons_zero, List.set_cons_succ])
  | (refine wpAnyH_take (i := 4) rfl (by kernel_rfl) (by kernel_rfl) (by kernel_rfl) (fun _ _ _ h => h) (Or.inr ⟨by rfl, rfl⟩) hHeld ?rest75x4
     try simp only [Array.reduceGetElem, Act.put, List.setIfInBounds_toArray, List.set_cons_zero, List.set_cons_succ])
  first
  | (refine wpAnyH_take (i := 5) (v := ?v75x5) rfl (by kernel_rfl) (by kernel_rfl) (by kernel_rfl) (fun _ _ _ h => h) (Or.inl ⟨by rfl, ?hy75x5⟩) hHeld ?rest75x5
     case hy75x5 => (intro w hSw; (try dsimp only at hSw); go_simp <;> with_reducible rfl)
     try simp only [Array.reduceGetElem, Act.put, List.setIfInBounds_toArray, List.set_cons_zero, List.set_cons_succ])
  | (refine wpAnyH_take (i := 5) rfl (by kernel_rfl) (by kernel_rfl) (by kernel_rfl) (fun _ _ _ h => h) (Or.inr ⟨by rfl, rfl⟩) hHeld ?rest75x5
     try simp only [Array.reduceGetElem, Act.put, List.setIfInBounds_toArray, List.set_cons_zero, List.set_cons_succ])
  first
  | (refine wpAnyH_take (i := 6) (v := ?v75x6) rfl (by kernel_rfl) (by kernel_rfl) (by kernel_rfl) (fun _ _ _ h => h) (Or.inl ⟨by rfl, ?hy75x6⟩) hHeld ?rest75x6
     case hy75x6 => (intro w hSw; (try dsimp only at hSw); go_simp <;> with_reducible rfl)
     try simp only [Array.reduceGetElem, Act.put, List.setIfInBounds_toArray, List.set_cons_zero, List.set_cons_succ])
  | (refine wpAnyH_take (i := 6) rfl (by kernel_rfl) (by kernel_rfl) (by kernel_rfl) (fun _ _ _ h => h) (Or.inr ⟨by rfl, rfl⟩) hHeld ?rest75x6
     try simp only [Array.reduceGetElem, Act.put, List.setIfInBounds_toArray, List.set_cons_zero, List.set_cons_succ])
  first
  | (refine wpAnyH_take (i := 7) (v := ?v75x7) rfl (by kernel_rfl) (by kernel_rfl) (by kernel_rfl) (fun _ _ _ h => h) (Or.inl ⟨by rfl, ?hy75x7⟩) hHeld ?rest75x7
     case hy75x7 => (intro w hSw; (try dsimp only at hSw); go_simp <;> with_reducible rfl)
     try simp only [Array.reduceGetElem, Act.put, List.setIfInBounds_toArray, List.set_cons_zero, List.set_cons_succ])
  | (refine wpAnyH_take (i := 7) rfl (by kernel_rfl) (by kernel_rfl) (by kernel_rfl) (fun _ _ _ h => h) (Or.inr ⟨by rfl, rfl⟩) hHeld ?rest75x7
     try simp only [Array.reduceGetElem, Act.put, List.setIfInBounds_toArray, List.set_cons_zero, List.set_cons_succ])
  first
  | (refine wpAnyH_take (i := 8) (v := ?v75x8) rfl (by kernel_rfl) (by kernel_rfl) (by kernel_rfl) (fun _ _ _ h => h) (Or.inl ⟨by rfl, ?hy75x8⟩) hHeld ?rest75x8
     case hy75x8 => (intro w hSw; (try dsimp only at hSw); go_simp <;> with_reducible rfl)
     try simp only [Array.reduceGetElem, Act.put, List.setIfInBounds_toArray, List.set_cons_zero, List.set_cons_succ])
  | (refine wpAnyH_take (i := 8) rfl (by kernel_rfl) (by kernel_rfl) (by kernel_rfl) (fun _ _ _ h => h) (Or.inr ⟨by rfl, rfl⟩) hHeld ?rest75x8
     try simp only [Array.reduceGetElem, Act.put, List.setIfInBounds_toArray, List.set_cons_zero, List.set_cons_succ])
  first
  | (refine wpAnyH_take (i := 9) (v := ?v75x9) rfl (by kernel_rfl) (by kernel_rfl) (by kernel_rfl) (fun _ _ _ h => h) (Or.inl ⟨by rfl, ?hy75x9⟩) hHeld ?rest75x9
     case hy75x9 => (intro w hSw; (try dsimp only at hSw); go_simp <;> with_reducible rfl)
     try simp only [Array.reduceGetElem, Act.put, List.setIfInBounds_toArray, List.set_cons_zero, List.set_cons_succ])
  | (refine wpAnyH_take (i := 9) rfl (by kernel_rfl) (by kernel_rfl) (by kernel_rfl) (fun _ _ _ h => h) (Or.inr ⟨by rfl, rfl⟩) hHeld ?rest75x9
     try simp only [Array.reduceGetElem, Act.put, List.setIfInBounds_toArray, List.set_cons_zero, List.set_cons_succ])
  refine wpAnyH_ready (rs := [10]) (by kernel_rfl) (by simp) ?_
  refine AllReadyH.cons rfl (fun K hK => ?_) AllReadyH.nil
  go_simp
  go_at_call 13; refine (of_any _ _).mono ?_; rintro e w' ⟨rfl, hb⟩; go_wp2_with fail
  refine hK.out _ _ ?_ (fun hHeld2 => ?_)
  · exact HM.out _ (two hHeld.2.2.2.2.2.2 hb)
  clear hK K hHeld
  have hHeld := hHeld2
  clear hHeld2
  try simp only [Array.reduceGetElem, Act.put, List.setIfInBounds_toArray, List.set_cons_zero, List.set_cons_succ]
  first
  | (refine wpAnyH_take (i := 11) (v := ?v75x11) rfl (by kernel_rfl) (by kernel_rfl) (by kernel_rfl) (fun _ _ _ h => h) (Or.inl ⟨by rfl, ?hy75x11⟩) hHeld ?rest75x11
     case hy75x11 => (intro w hSw; (try dsimp only at hSw); go_simp <;> with_reducible rfl)
     try simp only [Array.reduceGetElem, Act.put, List.setIfInBounds_toArray, List.set_cons_zero, List.set_cons_succ])
  | (refine wpAnyH_take (i := 11) rfl (by kernel_rfl) (by kernel_rfl) (by kernel_rfl) (fun _ _ _ h => h) (Or.inr ⟨by rfl, rfl⟩) hHeld ?rest75x11
     try simp only [Array.reduceGetElem, Act.put, List.setIfInBounds_toArray, List.set_cons_zero, List.set_cons_succ])
  first
  | (refine wpAnyH_take (i := 12) (v := ?v75x12) rfl (by kernel_rfl) (by kernel_rfl) (by kernel_rfl) (fun _ _ _ h => h) (Or.inl ⟨by rfl, ?hy75x12⟩) hHeld ?rest75x12
     case hy75x12 => (intro w hSw; (try dsimp only at hSw); go_simp <;> with_reducible rfl)
     try simp only [Array.reduceGetElem, Act.put, List.setIfInBounds_toArray, List.set_cons_zero, List.set_cons_succ])
  | (refine wpAnyH_take (i := 12) rfl (by kernel_rfl) (by kernel_rfl) (by kernel_rfl) (fun _ _ _ h => h) (Or.inr ⟨by rfl, rfl⟩) hHeld ?rest75x12
     try simp only [Array.reduceGetElem, Act.put, List.setIfInBounds_toArray, List.set_cons_zero, List.set_cons_succ])
  first
  | (refine wpAnyH_take (i := 13) (v := ?v75x13) rfl (by kernel_rfl) (by kernel_rfl) (by kernel_rfl) (fun _ _ _ h => h) (Or.inl ⟨by rfl, ?hy75x13⟩) hHeld ?rest75x13
     case hy75x13 => (intro w hSw; (try dsimp only at hSw); go_simp <;> with_reducible rfl)
     try simp only [Array.reduceGetElem, Act.put, List.setIfInBounds_toArray, List.set_cons_zero, List.set_cons_succ])
  | (refine wpAnyH_take (i := 13) rfl (by kernel_rfl) (by kernel_rfl) (by kernel_rfl) (fun _ _ _ h => h) (Or.inr ⟨by rfl, rfl⟩) hHeld ?rest75x13
     try simp only [Array.reduceGetElem, Act.put, List.setIfInBounds_toArray, List.set_cons_zero, List.set_cons_succ])
  first
  | (refine wpAnyH_take (i := 14) (v := ?v75x14) rfl (by kernel_rfl) (by kernel_rfl) (by kernel_rfl) (fun _ _ _ h => h) (Or.inl ⟨by rfl, ?hy75x14⟩) hHeld ?rest75x14
     case hy75x14 => (intro w hSw; (try dsimp only at hSw); go_simp <;> with_reducible rfl)
     try simp only [Array.reduceGetElem, Act.put, List.setIfInBounds_toArray, List.set_cons_zero, List.set_cons_succ])
  | (refine wpAnyH_take (i := 14) rfl (by kernel_rfl) (by kernel_rfl) (by kernel_rfl) (fun _ _ _ h => h) (Or.inr ⟨by rfl, rfl⟩) hHeld ?rest75x14
     try simp only [Array.reduceGetElem, Act.put, List.setIfInBounds_toArray, List.set_cons_zero, List.set_cons_succ])
  first
  | (refine wpAnyH_take (i := 15) (v := ?v75x15) rfl (by kernel_rfl) (by kernel_rfl) (by kernel_rfl) (fun _ _ _ h => h) (Or.inl ⟨by rfl, ?hy75x15⟩) hHeld ?rest75x15
     case hy75x15 => (intro w hSw; (try dsimp only at hSw); go_simp <;> with_reducible rfl)
     try simp only [Array.reduceGetElem, Act.put, List.setIfInBounds_toArray, List.set_cons_zero, List.set_cons_succ])
  | (refine wpAnyH_take (i := 15) rfl (by kernel_rfl) (by kernel_rfl) (by kernel_rfl) (fun _ _ _ h => h) (Or.inr ⟨by rfl, rfl⟩) hHeld ?rest75x15
     try simp only [Array.reduceGetElem, Act.put, List.setIfInBounds_toArray, List.set_cons_zero, List.set_cons_succ])
  first
  | (refine wpAnyH_take (i := 16) (v := ?v75x16) rfl (by kernel_rfl) (by kernel_rfl) (by kernel_rfl) (fun _ _ _ h => h) (Or.inl ⟨by rfl, ?hy75x16⟩) hHeld ?rest75x16
     case hy75x16 => (intro w hSw; (try dsimp only at hSw); go_simp <;> with_reducible rfl)
     try simp only [Array.reduceGetElem, Act.put, List.setIfInBounds_toArray, List.set_cons_zero, List.set_cons_succ])
  | (refine wpAnyH_take (i := 16) rfl (by kernel_rfl) (by kernel_rfl) (by kernel_rfl) (fun _ _ _ h => h) (Or.inr ⟨by rfl, rfl⟩) hHeld ?rest75x16
     try simp only [Array.reduceGetElem, Act.put, List.setIfInBounds_toArray, List.set_cons_zero, List.set_cons_succ])
  first
  | (refine wpAnyH_take (i := 17) (v := ?v75x17) rfl (by kernel_rfl) (by kernel_rfl) (by kernel_rfl) (fun _ _ _ h => h) (Or.inl ⟨by rfl, ?hy75x17⟩) hHeld ?rest75x17
     case hy75x17 => (intro w hSw; (try dsimp only at hSw); go_simp <;> with_reducible rfl)
     try simp only [Array.reduceGetElem, Act.put, List.setIfInBounds_toArray, List.set_cons_zero, List.set_cons_succ])
  | (refine wpAnyH_take (i := 17) rfl (by kernel_rfl) (by kernel_rfl) (by kernel_rfl) (fun _ _ _ h => h) (Or.inr ⟨by rfl, rfl⟩) hHeld ?rest75x17
     try simp only [Array.reduceGetElem, Act.put, List.setIfInBounds_toArray, List.set_cons_zero, List.set_cons_succ])
  first
  | (refine wpAnyH_take (i := 18) (v := ?v75x18) rfl (by kernel_rfl) (by kernel_rfl) (by kernel_rfl) (fun _ _ _ h => h) (Or.inl ⟨by rfl, ?hy75x18⟩) hHeld ?rest75x18
     case hy75x18 => (intro w hSw; (try dsimp only at hSw); go_simp <;> with_reducible rfl)
     try simp only [Array.reduceGetElem, Act.put, List.setIfInBounds_toArray, List.set_cons_zero, List.set_cons_succ])
  | (refine wpAnyH_take (i := 18) rfl (by kernel_rfl) (by kernel_rfl) (by kernel_rfl) (fun _ _ _ h => h) (Or.inr ⟨by rfl, rfl⟩) hHeld ?rest75x18
     try simp only [Array.reduceGetElem, Act.put, List.setIfInBounds_toArray, List.set_cons_zero, List.set_cons_succ])
  first
  | (refine wpAnyH_take (i := 19) (v := ?v75x19) rfl (by kernel_rfl) (by kernel_rfl) (by kernel_rfl) (fun _ _ _ h => h) (Or.inl ⟨by rfl, ?hy75x19⟩) hHeld ?rest75x19
     case hy75x19 => (intro w hSw; (try dsimp only at hSw); go_simp <;> with_reducible rfl)
     try simp only [Array.reduceGetElem, Act.put, List.setIfInBounds_toArray, List.set_cons_zero, List.set_cons_succ])
  | (refine wpAnyH_take (i := 19) rfl (by kernel_rfl) (by kernel_rfl) (by kernel_rfl) (fun _ _ _ h => h) (Or.inr ⟨by rfl, rfl⟩) hHeld ?rest75x19
     try simp only [Array.reduceGetElem, Act.put, List.setIfInBounds_toArray, List.set_cons_zero, List.set_cons_succ])
  first
  | (refine wpAnyH_take (i := 20) (v := ?v75x20) rfl (by kernel_rfl) (by kernel_rfl) (by kernel_rfl) (fun _ _ _ h => h) (Or.inl ⟨by rfl, ?hy75x20⟩) hHeld ?rest75x20
     case hy75x20 => (intro w hSw; (try dsimp only at hSw); go_simp <;> with_reducible rfl)
     try simp only [Array.reduceGetElem, Act.put, List.setIfInBounds_toArray, List.set_cons_zero, List.set_cons_succ])
  | (refine wpAnyH_take (i := 20) rfl (by kernel_rfl) (by kernel_rfl) (by kernel_rfl) (fun _ _ _ h => h) (Or.inr ⟨by rfl, rfl⟩) hHeld ?rest75x20
     try simp only [Array.reduceGetElem, Act.put, List.setIfInBounds_toArray, List.set_cons_zero, List.set_cons_succ])
  first
  | (refine wpAnyH_take (i := 21) (v := ?v75x21) rfl (by kernel_rfl) (by kernel_rfl) (by kernel_rfl) (fun _ _ _ h => h) (Or.inl ⟨by rfl, ?hy75x21⟩) hHeld ?rest75x21
     case hy75x21 => (intro w hSw; (try dsimp only at hSw); go_simp <;> with_reducible rfl)
     try simp only [Array.reduceGetElem, Act.put, List.setIfInBounds_toArray, List.set_cons_zero, List.set_cons_succ])
  | (refine wpAnyH_take (i := 21) rfl (by kernel_rfl) (by kernel_rfl) (by kernel_rfl) (fun _ _ _ h => h) (Or.inr ⟨by rfl, rfl⟩) hHeld ?rest75x21
     try simp only [Array.reduceGetElem, Act.put, List.setIfInBounds_toArray, List.set_cons_zero, List.set_cons_succ])
  first
  | (refine wpAnyH_take (i := 22) (v := ?v75x22) rfl (by kernel_rfl) (by kernel_rfl) (by kernel_rfl) (fun _ _ _ h => h) (Or.inl ⟨by rfl, ?hy75x22⟩) hHeld ?rest75x22
     case hy75x22 => (intro w hSw; (try dsimp only at hSw); go_simp <;> with_reducible rfl)
     try simp only [Array.reduceGetElem, Act.put, List.setIfInBounds_toArray, List.set_cons_zero, List.set_cons_succ])
  | (refine wpAnyH_take (i := 22) rfl (by kernel_rfl) (by kernel_rfl) (by kernel_rfl) (fun _ _ _ h => h) (Or.inr ⟨by rfl, rfl⟩) hHeld ?rest75x22
     try simp only [Array.reduceGetElem, Act.put, List.setIfInBounds_toArray, List.set_cons_zero, List.set_cons_succ])
  first
  | (refine wpAnyH_take (i := 23) (v := ?v75x23) rfl (by kernel_rfl) (by kernel_rfl) (by kernel_rfl) (fun _ _ _ h => h) (Or.inl ⟨by rfl, ?hy75x23⟩) hHeld ?rest75x23
     case hy75x23 => (intro w hSw; (try dsimp only at hSw); go_simp <;> with_reducible rfl)
     try simp only [Array.reduceGetElem, Act.put, List.setIfInBounds_toArray, List.set_cons_zero, List.set_cons_succ])
  | (refine wpAnyH_take (i := 23) rfl (by kernel_rfl) (by kernel_rfl) (by kernel_rfl) (fun _ _ _ h => h) (Or.inr ⟨by rfl, rfl⟩) hHeld ?rest75x23
     try simp only [Array.reduceGetElem, Act.put, List.setIfInBounds_toArray, List.set_cons_zero, List.set_cons_succ])
  first
  | (refine wpAnyH_take (i := 24) (v := ?v75x24) rfl (by kernel_rfl) (by kernel_rfl) (by kernel_rfl) (fun _ _ _ h => h) (Or.inl ⟨by rfl, ?hy75x24⟩) hHeld ?rest75x24
     case hy75x24 => (intro w hSw; (try dsimp only at hSw); go_simp <;> with_reducible rfl)
     try simp only [Array.reduceGetElem, Act.put, List.setIfInBounds_toArray, List.set_cons_zero, List.set_cons_succ])
  | (refine wpAnyH_take (i := 24) rfl (by kernel_rfl) (by kernel_rfl) (by kernel_rfl) (fun _ _ _ h => h) (Or.inr ⟨by rfl, rfl⟩) hHeld ?rest75x24
     try simp only [Array.reduceGetElem, Act.put, List.setIfInBounds_toArray, List.set_cons_zero, List.set_cons_succ])
  refine wpAnyH_ready (rs := [25]) (by kernel_rfl) (by simp) ?_
  refine AllReadyH.cons rfl (fun K hK => ?_) AllReadyH.nil
  go_simp
  go_at_call 13; refine (of_any _ _).mono ?_; rintro e w8 ⟨rfl, hb⟩; go_wp2_with fail
  refine hK.out _ _ ?_ (fun hHeld2 => ?_)
  · exact HM.out _ (two hHeld.2.2.2.2.2.2 hb)
  clear hK K hHeld
  have hHeld := hHeld2
  clear hHeld2
  try simp only [Array.reduceGetElem, Act.put, List.setIfInBounds_toArray, List.set_cons_zero, List.set_cons_succ]
  first
  | (refine wpAnyH_take (i := 26) (v := ?v75x26) rfl (by kernel_rfl) (by kernel_rfl) (by kernel_rfl) (fun _ _ _ h => h) (Or.inl ⟨by rfl, ?hy75x26⟩) hHeld ?rest75x26
     case hy75x26 => (intro w hSw; (try dsimp only at hSw); go_simp <;> with_reducible rfl)
     try simp only [Array.reduceGetElem, Act.put, List.setIfInBounds_toArray, List.set_cons_zero, List.set_cons_succ])
  | (refine wpAnyH_take (i := 26) rfl (by kernel_rfl) (by kernel_rfl) (by kernel_rfl) (fun _ _ _ h => h) (Or.inr ⟨by rfl, rfl⟩) hHeld ?rest75x26
     try simp only [Array.reduceGetElem, Act.put, List.setIfInBounds_toArray, List.set_cons_zero, List.set_cons_succ])
  first
  | (refine wpAnyH_take (i := 27) (v := ?v75x27) rfl (by kernel_rfl) (by kernel_rfl) (by kernel_rfl) (fun _ _ _ h => h) (Or.inl ⟨by rfl, ?hy75x27⟩) hHeld ?rest75x27
     case hy75x27 => (intro w hSw; (try dsimp only at hSw); go_simp <;> with_reducible rfl)
     try simp only [Array.reduceGetElem, Act.put, List.setIfInBounds_toArray, List.set_cons_zero, List.set_cons_succ])
  | (refine wpAnyH_take (i := 27) rfl (by kernel_rfl) (by kernel_rfl) (by kernel_rfl) (fun _ _ _ h => h) (Or.inr ⟨by rfl, rfl⟩) hHeld ?rest75x27
     try simp only [Array.reduceGetElem, Act.put, List.setIfInBounds_toArray, List.set_cons_zero, List.set_cons_succ])
  first
  | (refine wpAnyH_take (i := 28) (v := ?v75x28) rfl (by kernel_rfl) (by kernel_rfl) (by kernel_rfl) (fun _ _ _ h => h) (Or.inl ⟨by rfl, ?hy75x28⟩) hHeld ?rest75x28
     case hy75x28 => (intro w hSw; (try dsimp only at hSw); go_simp <;> with_reducible rfl)
     try simp only [Array.reduceGetElem, Act.put, List.setIfInBounds_toArray, List.set_cons_zero, List.set_cons_succ])
  | (refine wpAnyH_take (i := 28) rfl (by kernel_rfl) (by kernel_rfl) (by kernel_rfl) (fun _ _ _ h => h) (Or.inr ⟨by rfl, rfl⟩) hHeld ?rest75x28
     try simp only [Array.reduceGetElem, Act.put, List.setIfInBounds_toArray, List.set_cons_zero, List.set_cons_succ])
  first
  | (refine wpAnyH_take (i := 29) (v := ?v75x29) rfl (by kernel_rfl) (by kernel_rfl) (by kernel_rfl) (fun _ _ _ h => h) (Or.inl ⟨by rfl, ?hy75x29⟩) hHeld ?rest75x29
     case hy75x29 => (intro w hSw; (try dsimp only at hSw); go_simp <;> with_reducible rfl)
     try simp only [Array.reduceGetElem, Act.put, List.setIfInBounds_toArray, List.set_cons_zero, List.set_cons_succ])
  | (refine wpAnyH_take (i := 29) rfl (by kernel_rfl) (by kernel_rfl) (by kernel_rfl) (fun _ _ _ h => h) (Or.inr ⟨by rfl, rfl⟩) hHeld ?rest75x29
     try simp only [Array.reduceGetElem, Act.put, List.setIfInBounds_toArray, List.set_cons_zero, List.set_cons_succ])
  refine wpAnyH_done (by kernel_rfl) ?_ _
  clear hwa hws
  clear c0 c1 c2
  have hk := two b7 hHeld.2.2.2.2.2.2
  obtain ⟨c0, c1, c2, _, _, _, h7⟩ := hHeld
  have z8 : w3.heap.size < w8.heap.size := by have := h7.size; simp at this; omega
  have HM2 : Hid (∀ W, Below w8.heap.size w8 W → W.cell? ⟨w3.heap.size, 0, none⟩ = some (.int .i64 1) ∧ W.cell? ⟨w3.heap.size, 1, none⟩ = some (.int .i64 (a + b)) ∧ W.cell? ⟨w3.heap.size, 2, none⟩ = some (.string ⟨#[]⟩) ∧ Below w8.heap.size w8 W) := fun W h =>
    ⟨(h.cell (by exact z8)).trans c0, (h.cell (by exact z8)).trans c1, (h.cell (by exact z8)).trans c2, h⟩
  clear c0 c1 c2
  go_wp2_with fail
  refine wp_region_held_drew (S := (fun w' => w'.cell? ⟨w3.heap.size, 0, none⟩ = some (.int .i64 1) ∧ w'.cell? ⟨w3.heap.size, 1, none⟩ = some (.int .i64 (a + b)) ∧ w'.cell? ⟨w3.heap.size, 2, none⟩ = some (.string ⟨#[]⟩) ∧ Below w8.heap.size w8 w')) (by kernel_rfl) (by exact HM2.out _ (Below.drew (by go_grown))) (fun hHeld => ?_)
  refine wpAnyH_take (i := 0) (v := ?v76y0) rfl (by kernel_rfl) (by kernel_rfl) (by kernel_rfl) (fun _ _ _ h => h) (Or.inl ⟨by rfl, ?hy76y0⟩) hHeld ?rest76y0
  case hy76y0 => (intro w hSw; (try dsimp only at hSw); go_simp <;> with_reducible rfl)
  try simp only [Array.reduceGetElem, Act.put, List.setIfInBounds_toArray, List.set_cons_zero, List.set_cons_succ]
  refine wpAnyH_take (i := 1) (v := ?v77y1) rfl (by kernel_rfl) (by kernel_rfl) (by kernel_rfl) (fun _ _ _ h => h) (Or.inl ⟨by rfl, ?hy77y1⟩) hHeld ?rest77y1
  case hy77y1 => (intro w hSw; (try dsimp only at hSw); go_simp <;> with_reducible rfl)
  try simp only [Array.reduceGetElem, Act.put, List.setIfInBounds_toArray, List.set_cons_zero, List.set_cons_succ]
  refine wpAnyH_ready (rs := [2, 7]) (by kernel_rfl) (by simp) ?_
  refine AllReadyH.cons rfl (fun K hK => ?_) (AllReadyH.cons rfl (fun K hK => ?_) AllReadyH.nil)
  · go_simp
    go_at_call 13
    refine (of_any _ _).mono ?_
    rintro e x1 ⟨rfl, hbx1⟩
    go_wp2_with fail
    refine hK.out _ _ ?_ (fun hHeld2 => ?_)
    · exact HM2.out _ (two hHeld.2.2.2 hbx1)
    clear hK K hHeld
    have hHeld := hHeld2
    clear hHeld2
    try simp only [Array.reduceGetElem, Act.put, List.setIfInBounds_toArray, List.set_cons_zero, List.set_cons_succ]
    refine wpAnyH_ready (rs := [3, 7]) (by kernel_rfl) (by simp) ?_
    refine AllReadyH.cons rfl (fun K hK => ?_) (AllReadyH.cons rfl (fun K hK => ?_) AllReadyH.nil)
    · go_simp
      go_at_call 17
      refine (HB.out _).mono ?_
      rintro e x2 ⟨rfl, hbx2⟩
      go_wp2_with fail
      refine hK.out _ _ ?_ (fun hHeld2 => ?_)
      · exact HM2.out _ (two hHeld.2.2.2 hbx2)
      clear hK K hHeld
      have hHeld := hHeld2
      clear hHeld2
      try simp only [Array.reduceGetElem, Act.put, List.setIfInBounds_toArray, List.set_cons_zero, List.set_cons_succ]
      refine wpAnyH_take (i := 4) (v := ?v78y4) rfl (by kernel_rfl) (by kernel_rfl) (by kernel_rfl) (fun _ _ _ h => h) (Or.inl ⟨by rfl, ?hy78y4⟩) hHeld ?rest78y4
      case hy78y4 => (intro w hSw; (try dsimp only at hSw); go_simp <;> with_reducible rfl)
      try simp only [Array.reduceGetElem, Act.put, List.setIfInBounds_toArray, List.set_cons_zero, List.set_cons_succ]
      refine wpAnyH_take (i := 5) (v := ?v79y5) rfl (by kernel_rfl) (by kernel_rfl) (by kernel_rfl) (fun _ _ _ h => h) (Or.inl ⟨by rfl, ?hy79y5⟩) hHeld ?rest79y5
      case hy79y5 => (intro w hSw; (try dsimp only at hSw); go_simp <;> with_reducible rfl)
      try simp only [Array.reduceGetElem, Act.put, List.setIfInBounds_toArray, List.set_cons_zero, List.set_cons_succ]
      refine wpAnyH_take (i := 6) (v := ?v80y6) rfl (by kernel_rfl) (by kernel_rfl) (by kernel_rfl) (fun _ _ _ h => h) (Or.inl ⟨by rfl, ?hy80y6⟩) hHeld ?rest80y6
      case hy80y6 => (intro w hSw; (try dsimp only at hSw); go_simp <;> with_reducible rfl)
      try simp only [Array.reduceGetElem, Act.put, List.setIfInBounds_toArray, List.set_cons_zero, List.set_cons_succ]
      refine wpAnyH_ready (rs := [7]) (by kernel_rfl) (by simp) ?_
      refine AllReadyH.cons rfl (fun K hK => ?_) AllReadyH.nil
      have hP := hHeld.2.2.2
      have zA := hHeld.2.2.2.size
      have hA := hHeld.2.2.2.alloc zA (.cells #[.int .i64 0, .int .i64 0, .string ⟨#[]⟩] 23)
      go_simp
      refine hK.out _ _ ?_ (fun hHeld2 => ?_)
      · exact HM2.out _ hA
      clear hK K hHeld
      have hHeld := hHeld2
      clear hHeld2
      try simp only [Array.reduceGetElem, Act.put, List.setIfInBounds_toArray, List.set_cons_zero, List.set_cons_succ]
      refine wpAnyH_ready (rs := [8]) (by kernel_rfl) (by simp) ?_
      refine AllReadyH.cons rfl (fun K hK => ?_) AllReadyH.nil
      have hQ := hHeld.2.2.2
      go_simp
      refine hK.out _ _ ?_ (fun hHeld2 => ?_)
      · exact HM2.out _ (hP.alloc zA _)
      clear hK K hHeld
      have hHeld := hHeld2
      clear hHeld2
      try simp only [Array.reduceGetElem, Act.put, List.setIfInBounds_toArray, List.set_cons_zero, List.set_cons_succ]
      refine wpAnyH_take (i := 9) (v := ?v81y9) rfl (by kernel_rfl) (by kernel_rfl) (by kernel_rfl) (fun _ _ _ h => h) (Or.inl ⟨by rfl, ?hy81y9⟩) hHeld ?rest81y9
      case hy81y9 => (intro w hSw; (try dsimp only at hSw); go_simp <;> with_reducible rfl)
      try simp only [Array.reduceGetElem, Act.put, List.setIfInBounds_toArray, List.set_cons_zero, List.set_cons_succ]
      refine wpAnyH_done (by kernel_rfl) ?_ _
      go_wp2_with fail
      refine wp_region_held_drew (S := (fun W => W.cell? ⟨x2.heap.size, 0, none⟩ = some (.int .i64 1) ∧ W.cell? ⟨x2.heap.size, 1, none⟩ = some (.int .i64 a) ∧ W.cell? ⟨x2.heap.size, 2, none⟩ = some (.string ⟨#[]⟩) ∧ Below w.heap.size w W ∧ x2.heap.size < W.heap.size)) (by kernel_rfl) (by exact ⟨by simp, by simp, by simp, Below.drew (two hk hHeld.2.2.2), by simp⟩) (fun hHeld => ?_)
      first
      | (refine wpAnyH_take (i := 0) (v := ?v82x0) rfl (by kernel_rfl) (by kernel_rfl) (by kernel_rfl) (fun _ _ _ h => h) (Or.inl ⟨by rfl, ?hy82x0⟩) hHeld ?rest82x0
         case hy82x0 => (intro w hSw; (try dsimp only at hSw); go_simp <;> with_reducible rfl)
         try simp only [Array.reduceGetElem, Act.put, List.setIfInBounds_toArray, List.set_cons_zero, List.set_cons_succ])
      | (refine wpAnyH_take (i := 0) rfl (by kernel_rfl) (by kernel_rfl) (by kernel_rfl) (fun _ _ _ h => h) (Or.inr ⟨by rfl, rfl⟩) hHeld ?rest82x0
         try simp only [Array.reduceGetElem, Act.put, List.setIfInBounds_toArray, List.set_cons_zero, List.set_cons_succ])
      first
      | (refine wpAnyH_take (i := 1) (v := ?v82x1) rfl (by kernel_rfl) (by kernel_rfl) (by kernel_rfl) (fun _ _ _ h => h) (Or.inl ⟨by rfl, ?hy82x1⟩) hHeld ?rest82x1
         case hy82x1 => (intro w hSw; (try dsimp only at hSw); go_simp <;> with_reducible rfl)
         try simp only [Array.reduceGetElem, Act.put, List.setIfInBounds_toArray, List.set_cons_zero, List.set_cons_succ])
      | (refine wpAnyH_take (i := 1) rfl (by kernel_rfl) (by kernel_rfl) (by kernel_rfl) (fun _ _ _ h => h) (Or.inr ⟨by rfl, rfl⟩) hHeld ?rest82x1
         try simp only [Array.reduceGetElem, Act.put, List.setIfInBounds_toArray, List.set_cons_zero, List.set_cons_succ])
      first
      | (refine wpAnyH_take (i := 2) (v := ?v82x2) rfl (by kernel_rfl) (by kernel_rfl) (by kernel_rfl) (fun _ _ _ h => h) (Or.inl ⟨by rfl, ?hy82x2⟩) hHeld ?rest82x2
         case hy82x2 => (intro w hSw; (try dsimp only at hSw); go_simp <;> with_reducible rfl)
         try simp only [Array.reduceGetElem, Act.put, List.setIfInBounds_toArray, List.set_cons_zero, List.set_cons_succ])
      | (refine wpAnyH_take (i := 2) rfl (by kernel_rfl) (by kernel_rfl) (by kernel_rfl) (fun _ _ _ h => h) (Or.inr ⟨by rfl, rfl⟩) hHeld ?rest82x2
         try simp only [Array.reduceGetElem, Act.put, List.setIfInBounds_toArray, List.set_cons_zero, List.set_cons_succ])
      first
      | (refine wpAnyH_take (i := 3) (v := ?v82x3) rfl (by kernel_rfl) (by kernel_rfl) (by kernel_rfl) (fun _ _ _ h => h) (Or.inl ⟨by rfl, ?hy82x3⟩) hHeld ?rest82x3
         case hy82x3 => (intro w hSw; (try dsimp only at hSw); go_simp <;> with_reducible rfl)
         try simp only [Array.reduceGetElem, Act.put, List.setIfInBounds_toArray, List.set_cons_zero, List.set_cons_succ])
      | (refine wpAnyH_take (i := 3) rfl (by kernel_rfl) (by kernel_rfl) (by kernel_rfl) (fun _ _ _ h => h) (Or.inr ⟨by rfl, rfl⟩) hHeld ?rest82x3
         try simp only [Array.reduceGetElem, Act.put, List.setIfInBounds_toArray, List.set_cons_zero, List.set_cons_succ])
      first
      | (refine wpAnyH_take (i := 4) (v := ?v82x4) rfl (by kernel_rfl) (by kernel_rfl) (by kernel_rfl) (fun _ _ _ h => h) (Or.inl ⟨by rfl, ?hy82x4⟩) hHeld ?rest82x4
         case hy82x4 => (intro w hSw; (try dsimp only at hSw); go_simp <;> with_reducible rfl)
         try simp only [Array.reduceGetElem, Act.put, List.setIfInBounds_toArray, List.set_cons_zero, List.set_cons_succ])
      | (refine wpAnyH_take (i := 4) rfl (by kernel_rfl) (by kernel_rfl) (by kernel_rfl) (fun _ _ _ h => h) (Or.inr ⟨by rfl, rfl⟩) hHeld ?rest82x4
         try simp only [Array.reduceGetElem, Act.put, List.setIfInBounds_toArray, List.set_cons_zero, List.set_cons_succ])
      refine wpAnyH_ready (rs := [5]) (by kernel_rfl) (by simp) ?_
      refine AllReadyH.cons rfl (fun K hK => ?_) AllReadyH.nil
      go_simp
      go_at_call 13; refine (of_any _ _).mono ?_; rintro e y1 ⟨rfl, hb⟩; go_wp2_with fail
      refine hK.out _ _ ?_ (fun hHeld2 => ?_)
      · exact ⟨(hb.cell (by exact hHeld.2.2.2.2)).trans hHeld.1, (hb.cell (by exact hHeld.2.2.2.2)).trans hHeld.2.1, (hb.cell (by exact hHeld.2.2.2.2)).trans hHeld.2.2.1, two hHeld.2.2.2.1 hb, Nat.lt_of_lt_of_le hHeld.2.2.2.2 hb.size⟩
      clear hK K hHeld
      have hHeld := hHeld2
      clear hHeld2
      try simp only [Array.reduceGetElem, Act.put, List.setIfInBounds_toArray, List.set_cons_zero, List.set_cons_succ]
      first
      | (refine wpAnyH_take (i := 6) (v := ?v82x6) rfl (by kernel_rfl) (by kernel_rfl) (by kernel_rfl) (fun _ _ _ h => h) (Or.inl ⟨by rfl, ?hy82x6⟩) hHeld ?rest82x6
         case hy82x6 => (intro w hSw; (try dsimp only at hSw); go_simp <;> with_reducible rfl)
         try simp only [Array.reduceGetElem, Act.put, List.setIfInBounds_toArray, List.set_cons_zero, List.set_cons_succ])
      | (refine wpAnyH_take (i := 6) rfl (by kernel_rfl) (by kernel_rfl) (by kernel_rfl) (fun _ _ _ h => h) (Or.inr ⟨by rfl, rfl⟩) hHeld ?rest82x6
         try simp only [Array.reduceGetElem, Act.put, List.setIfInBounds_toArray, List.set_cons_zero, List.set_cons_succ])
      first
      | (refine wpAnyH_take (i := 7) (v := ?v82x7) rfl (by kernel_rfl) (by kernel_rfl) (by kernel_rfl) (fun _ _ _ h => h) (Or.inl ⟨by rfl, ?hy82x7⟩) hHeld ?rest82x7
         case hy82x7 => (intro w hSw; (try dsimp only at hSw); go_simp <;> with_reducible rfl)
         try simp only [Array.reduceGetElem, Act.put, List.setIfInBounds_toArray, List.set_cons_zero, List.set_cons_succ])
      | (refine wpAnyH_take (i := 7) rfl (by kernel_rfl) (by kernel_rfl) (by kernel_rfl) (fun _ _ _ h => h) (Or.inr ⟨by rfl, rfl⟩) hHeld ?rest82x7
         try simp only [Array.reduceGetElem, Act.put, List.setIfInBounds_toArray, List.set_cons_zero, List.set_cons_succ])
      first
      | (refine wpAnyH_take (i := 8) (v := ?v82x8) rfl (by kernel_rfl) (by kernel_rfl) (by kernel_rfl) (fun _ _ _ h => h) (Or.inl ⟨by rfl, ?hy82x8⟩) hHeld ?rest82x8
         case hy82x8 => (intro w hSw; (try dsimp only at hSw); go_simp <;> with_reducible rfl)
         try simp only [Array.reduceGetElem, Act.put, List.setIfInBounds_toArray, List.set_cons_zero, List.set_cons_succ])
      | (refine wpAnyH_take (i := 8) rfl (by kernel_rfl) (by kernel_rfl) (by kernel_rfl) (fun _ _ _ h => h) (Or.inr ⟨by rfl, rfl⟩) hHeld ?rest82x8
         try simp only [Array.reduceGetElem, Act.put, List.setIfInBounds_toArray, List.set_cons_zero, List.set_cons_succ])
      refine wpAnyH_ready (rs := [9]) (by kernel_rfl) (by simp) ?_
      refine AllReadyH.cons rfl (fun K hK => ?_) AllReadyH.nil
      go_simp
      go_at_call 16; refine (awake_any _ (HE.out.below hHeld.2.2.2.1)).mono ?_; rintro e y2 ⟨rfl, hb⟩; go_wp2_with fail
      refine hK.out _ _ ?_ (fun hHeld2 => ?_)
      · exact ⟨(hb.cell (by exact hHeld.2.2.2.2)).trans hHeld.1, (hb.cell (by exact hHeld.2.2.2.2)).trans hHeld.2.1, (hb.cell (by exact hHeld.2.2.2.2)).trans hHeld.2.2.1, two hHeld.2.2.2.1 hb, Nat.lt_of_lt_of_le hHeld.2.2.2.2 hb.size⟩
      clear hK K hHeld
      have hHeld := hHeld2
      clear hHeld2
      try simp only [Array.reduceGetElem, Act.put, List.setIfInBounds_toArray, List.set_cons_zero, List.set_cons_succ]
      first
      | (refine wpAnyH_take (i := 10) (v := ?v82x10) rfl (by kernel_rfl) (by kernel_rfl) (by kernel_rfl) (fun _ _ _ h => h) (Or.inl ⟨by rfl, ?hy82x10⟩) hHeld ?rest82x10
         case hy82x10 => (intro w hSw; (try dsimp only at hSw); go_simp <;> with_reducible rfl)
         try simp only [Array.reduceGetElem, Act.put, List.setIfInBounds_toArray, List.set_cons_zero, List.set_cons_succ])
      | (refine wpAnyH_take (i := 10) rfl (by kernel_rfl) (by kernel_rfl) (by kernel_rfl) (fun _ _ _ h => h) (Or.inr ⟨by rfl, rfl⟩) hHeld ?rest82x10
         try simp only [Array.reduceGetElem, Act.put, List.setIfInBounds_toArray, List.set_cons_zero, List.set_cons_succ])
      first
      | (refine wpAnyH_take (i := 11) (v := ?v82x11) rfl (by kernel_rfl) (by kernel_rfl) (by kernel_rfl) (fun _ _ _ h => h) (Or.inl ⟨by rfl, ?hy82x11⟩) hHeld ?rest82x11
         case hy82x11 => (intro w hSw; (try dsimp only at hSw); go_simp <;> with_reducible rfl)
         try simp only [Array.reduceGetElem, Act.put, List.setIfInBounds_toArray, List.set_cons_zero, List.set_cons_succ])
      | (refine wpAnyH_take (i := 11) rfl (by kernel_rfl) (by kernel_rfl) (by kernel_rfl) (fun _ _ _ h => h) (Or.inr ⟨by rfl, rfl⟩) hHeld ?rest82x11
         try simp only [Array.reduceGetElem, Act.put, List.setIfInBounds_toArray, List.set_cons_zero, List.set_cons_succ])
      refine wpAnyH_done (by kernel_rfl) ?_ _
      go_wp2_with fail
      go_ret
      exact ⟨rfl, hHeld.2.2.2.1⟩
    · have hP := hHeld.2.2.2
      have zA := hHeld.2.2.2.size
      have hA := hHeld.2.2.2.alloc zA (.cells #[.int .i64 0, .int .i64 0, .string ⟨#[]⟩] 23)
      go_simp
      refine hK.out _ _ ?_ (fun hHeld2 => ?_)
      · exact HM2.out _ hA
      clear hK K hHeld
      have hHeld := hHeld2
      clear hHeld2
      try simp only [Array.reduceGetElem, Act.put, List.setIfInBounds_toArray, List.set_cons_zero, List.set_cons_succ]
      refine wpAnyH_ready (rs := [3]) (by kernel_rfl) (by simp) ?_
      refine AllReadyH.cons rfl (fun K hK => ?_) AllReadyH.nil
      go_simp
      go_at_call 17
      refine (HB.out _).mono ?_
      rintro e x2 ⟨rfl, hbx2⟩
      go_wp2_with fail
      refine hK.out _ _ ?_ (fun hHeld2 => ?_)
      · exact HM2.out _ (two hHeld.2.2.2 hbx2)
      clear hK K hHeld
      have hHeld := hHeld2
      clear hHeld2
      try simp only [Array.reduceGetElem, Act.put, List.setIfInBounds_toArray, List.set_cons_zero, List.set_cons_succ]
      refine wpAnyH_take (i := 4) (v := ?v83y4) rfl (by kernel_rfl) (by kernel_rfl) (by kernel_rfl) (fun _ _ _ h => h) (Or.inl ⟨by rfl, ?hy83y4⟩) hHeld ?rest83y4
      case hy83y4 => (intro w hSw; (try dsimp only at hSw); go_simp <;> with_reducible rfl)
      try simp only [Array.reduceGetElem, Act.put, List.setIfInBounds_toArray, List.set_cons_zero, List.set_cons_succ]
      refine wpAnyH_take (i := 5) (v := ?v84y5) rfl (by kernel_rfl) (by kernel_rfl) (by kernel_rfl) (fun _ _ _ h => h) (Or.inl ⟨by rfl, ?hy84y5⟩) hHeld ?rest84y5
      case hy84y5 => (intro w hSw; (try dsimp only at hSw); go_simp <;> with_reducible rfl)
      try simp only [Array.reduceGetElem, Act.put, List.setIfInBounds_toArray, List.set_cons_zero, List.set_cons_succ]
      refine wpAnyH_take (i := 6) (v := ?v85y6) rfl (by kernel_rfl) (by kernel_rfl) (by kernel_rfl) (fun _ _ _ h => h) (Or.inl ⟨by rfl, ?hy85y6⟩) hHeld ?rest85y6
      case hy85y6 => (intro w hSw; (try dsimp only at hSw); go_simp <;> with_reducible rfl)
      try simp only [Array.reduceGetElem, Act.put, List.setIfInBounds_toArray, List.set_cons_zero, List.set_cons_succ]
      have k0 := box (hbx2) (by simp) 0
      have k1 := box (hbx2) (by simp) 1
      have k2 := box (hbx2) (by simp) 2
      have q0 := boxf (hbx2) (by simp) 0
      have q1 := boxf (hbx2) (by simp) 1
      have q2 := boxf (hbx2) (by simp) 2
      have zx := (hbx2).size
      simp only [World.size_alloc] at zx
      simp only [List.getElem?_toArray, List.getElem?_cons_zero, List.getElem?_cons_succ] at k0 k1 k2
      refine wpAnyH_ready (rs := [8]) (by kernel_rfl) (by simp) ?_
      refine AllReadyH.cons rfl (fun K hK => ?_) AllReadyH.nil
      have hQ := hHeld.2.2.2
      go_simp
      refine hK.out _ _ ?_ (fun hHeld2 => ?_)
      · exact HM2.out _ (by go_grown)
      clear hK K hHeld
      have hHeld := hHeld2
      clear hHeld2
      try simp only [Array.reduceGetElem, Act.put, List.setIfInBounds_toArray, List.set_cons_zero, List.set_cons_succ]
      refine wpAnyH_take (i := 9) (v := ?v86y9) rfl (by kernel_rfl) (by kernel_rfl) (by kernel_rfl) (fun _ _ _ h => h) (Or.inl ⟨by rfl, ?hy86y9⟩) hHeld ?rest86y9
      case hy86y9 => (intro w hSw; (try dsimp only at hSw); go_simp <;> with_reducible rfl)
      try simp only [Array.reduceGetElem, Act.put, List.setIfInBounds_toArray, List.set_cons_zero, List.set_cons_succ]
      refine wpAnyH_done (by kernel_rfl) ?_ _
      go_wp2_with fail
      refine wp_region_held_drew (S := (fun W => W.cell? ⟨x1.heap.size, 0, none⟩ = some (.int .i64 1) ∧ W.cell? ⟨x1.heap.size, 1, none⟩ = some (.int .i64 a) ∧ W.cell? ⟨x1.heap.size, 2, none⟩ = some (.string ⟨#[]⟩) ∧ Below w.heap.size w W ∧ x1.heap.size < W.heap.size)) (by kernel_rfl) (by exact ⟨(set3 _ _ _ k0 k1 k2).1, (set3 _ _ _ k0 k1 k2).2.1, (set3 _ _ _ k0 k1 k2).2.2, Below.drew (two hk hHeld.2.2.2), by simp; omega⟩) (fun hHeld => ?_)
      first
      | (refine wpAnyH_take (i := 0) (v := ?v87x0) rfl (by kernel_rfl) (by kernel_rfl) (by kernel_rfl) (fun _ _ _ h => h) (Or.inl ⟨by rfl, ?hy87x0⟩) hHeld ?rest87x0
         case hy87x0 => (intro w hSw; (try dsimp only at hSw); go_simp <;> with_reducible rfl)
         try simp only [Array.reduceGetElem, Act.put, List.setIfInBounds_toArray, List.set_cons_zero, List.set_cons_succ])
      | (refine wpAnyH_take (i := 0) rfl (by kernel_rfl) (by kernel_rfl) (by kernel_rfl) (fun _ _ _ h => h) (Or.inr ⟨by rfl, rfl⟩) hHeld ?rest87x0
         try simp only [Array.reduceGetElem, Act.put, List.setIfInBounds_toArray, List.set_cons_zero, List.set_cons_succ])
      first
      | (refine wpAnyH_take (i := 1) (v := ?v87x1) rfl (by kernel_rfl) (by kernel_rfl) (by kernel_rfl) (fun _ _ _ h => h) (Or.inl ⟨by rfl, ?hy87x1⟩) hHeld ?rest87x1
         case hy87x1 => (intro w hSw; (try dsimp only at hSw); go_simp <;> with_reducible rfl)
         try simp only [Array.reduceGetElem, Act.put, List.setIfInBounds_toArray, List.set_cons_zero, List.set_cons_succ])
      | (refine wpAnyH_take (i := 1) rfl (by kernel_rfl) (by kernel_rfl) (by kernel_rfl) (fun _ _ _ h => h) (Or.inr ⟨by rfl, rfl⟩) hHeld ?rest87x1
         try simp only [Array.reduceGetElem, Act.put, List.setIfInBounds_toArray, List.set_cons_zero, List.set_cons_succ])
      first
      | (refine wpAnyH_take (i := 2) (v := ?v87x2) rfl (by kernel_rfl) (by kernel_rfl) (by kernel_rfl) (fun _ _ _ h => h) (Or.inl ⟨by rfl, ?hy87x2⟩) hHeld ?rest87x2
         case hy87x2 => (intro w hSw; (try dsimp only at hSw); go_simp <;> with_reducible rfl)
         try simp only [Array.reduceGetElem, Act.put, List.setIfInBounds_toArray, List.set_cons_zero, List.set_cons_succ])
      | (refine wpAnyH_take (i := 2) rfl (by kernel_rfl) (by kernel_rfl) (by kernel_rfl) (fun _ _ _ h => h) (Or.inr ⟨by rfl, rfl⟩) hHeld ?rest87x2
         try simp only [Array.reduceGetElem, Act.put, List.setIfInBounds_toArray, List.set_cons_zero, List.set_cons_succ])
      first
      | (refine wpAnyH_take (i := 3) (v := ?v87x3) rfl (by kernel_rfl) (by kernel_rfl) (by kernel_rfl) (fun _ _ _ h => h) (Or.inl ⟨by rfl, ?hy87x3⟩) hHeld ?rest87x3
         case hy87x3 => (intro w hSw; (try dsimp only at hSw); go_simp <;> with_reducible rfl)
         try simp only [Array.reduceGetElem, Act.put, List.setIfInBounds_toArray, List.set_cons_zero, List.set_cons_succ])
      | (refine wpAnyH_take (i := 3) rfl (by kernel_rfl) (by kernel_rfl) (by kernel_rfl) (fun _ _ _ h => h) (Or.inr ⟨by rfl, rfl⟩) hHeld ?rest87x3
         try simp only [Array.reduceGetElem, Act.put, List.setIfInBounds_toArray, List.set_cons_zero, List.set_cons_succ])
      first
      | (refine wpAnyH_take (i := 4) (v := ?v87x4) rfl (by kernel_rfl) (by kernel_rfl) (by kernel_rfl) (fun _ _ _ h => h) (Or.inl ⟨by rfl, ?hy87x4⟩) hHeld ?rest87x4
         case hy87x4 => (intro w hSw; (try dsimp only at hSw); go_simp <;> with_reducible rfl)
         try simp only [Array.reduceGetElem, Act.put, List.setIfInBounds_toArray, List.set_cons_zero, List.set_cons_succ])
      | (refine wpAnyH_take (i := 4) rfl (by kernel_rfl) (by kernel_rfl) (by kernel_rfl) (fun _ _ _ h => h) (Or.inr ⟨by rfl, rfl⟩) hHeld ?rest87x4
         try simp only [Array.reduceGetElem, Act.put, List.setIfInBounds_toArray, List.set_cons_zero, List.set_cons_succ])
      refine wpAnyH_ready (rs := [5]) (by kernel_rfl) (by simp) ?_
      refine AllReadyH.cons rfl (fun K hK => ?_) AllReadyH.nil
      go_simp
      go_at_call 13; refine (of_any _ _).mono ?_; rintro e y1 ⟨rfl, hb⟩; go_wp2_with fail
      refine hK.out _ _ ?_ (fun hHeld2 => ?_)
      · exact ⟨(hb.cell (by exact hHeld.2.2.2.2)).trans hHeld.1, (hb.cell (by exact hHeld.2.2.2.2)).trans hHeld.2.1, (hb.cell (by exact hHeld.2.2.2.2)).trans hHeld.2.2.1, two hHeld.2.2.2.1 hb, Nat.lt_of_lt_of_le hHeld.2.2.2.2 hb.size⟩
      clear hK K hHeld
      have hHeld := hHeld2
      clear hHeld2
      try simp only [Array.reduceGetElem, Act.put, List.setIfInBounds_toArray, List.set_cons_zero, List.set_cons_succ]
      first
      | (refine wpAnyH_take (i := 6) (v := ?v87x6) rfl (by kernel_rfl) (by kernel_rfl) (by kernel_rfl) (fun _ _ _ h => h) (Or.inl ⟨by rfl, ?hy87x6⟩) hHeld ?rest87x6
         case hy87x6 => (intro w hSw; (try dsimp only at hSw); go_simp <;> with_reducible rfl)
         try simp only [Array.reduceGetElem, Act.put, List.setIfInBounds_toArray, List.set_cons_zero, List.set_cons_succ])
      | (refine wpAnyH_take (i := 6) rfl (by kernel_rfl) (by kernel_rfl) (by kernel_rfl) (fun _ _ _ h => h) (Or.inr ⟨by rfl, rfl⟩) hHeld ?rest87x6
         try simp only [Array.reduceGetElem, Act.put, List.setIfInBounds_toArray, List.set_cons_zero, List.set_cons_succ])
      first
      | (refine wpAnyH_take (i := 7) (v := ?v87x7) rfl (by kernel_rfl) (by kernel_rfl) (by kernel_rfl) (fun _ _ _ h => h) (Or.inl ⟨by rfl, ?hy87x7⟩) hHeld ?rest87x7
         case hy87x7 => (intro w hSw; (try dsimp only at hSw); go_simp <;> with_reducible rfl)
         try simp only [Array.reduceGetElem, Act.put, List.setIfInBounds_toArray, List.set_cons_zero, List.set_cons_succ])
      | (refine wpAnyH_take (i := 7) rfl (by kernel_rfl) (by kernel_rfl) (by kernel_rfl) (fun _ _ _ h => h) (Or.inr ⟨by rfl, rfl⟩) hHeld ?rest87x7
         try simp only [Array.reduceGetElem, Act.put, List.setIfInBounds_toArray, List.set_cons_zero, List.set_cons_succ])
      first
      | (refine wpAnyH_take (i := 8) (v := ?v87x8) rfl (by kernel_rfl) (by kernel_rfl) (by kernel_rfl) (fun _ _ _ h => h) (Or.inl ⟨by rfl, ?hy87x8⟩) hHeld ?rest87x8
         case hy87x8 => (intro w hSw; (try dsimp only at hSw); go_simp <;> with_reducible rfl)
         try simp only [Array.reduceGetElem, Act.put, List.setIfInBounds_toArray, List.set_cons_zero, List.set_cons_succ])
      | (refine wpAnyH_take (i := 8) rfl (by kernel_rfl) (by kernel_rfl) (by kernel_rfl) (fun _ _ _ h => h) (Or.inr ⟨by rfl, rfl⟩) hHeld ?rest87x8
         try simp only [Array.reduceGetElem, Act.put, List.setIfInBounds_toArray, List.set_cons_zero, List.set_cons_succ])
      refine wpAnyH_ready (rs := [9]) (by kernel_rfl) (by simp) ?_
      refine AllReadyH.cons rfl (fun K hK => ?_) AllReadyH.nil
      go_simp
      go_at_call 16; refine (awake_any _ (HE.out.below hHeld.2.2.2.1)).mono ?_; rintro e y2 ⟨rfl, hb⟩; go_wp2_with fail
      refine hK.out _ _ ?_ (fun hHeld2 => ?_)
      · exact ⟨(hb.cell (by exact hHeld.2.2.2.2)).trans hHeld.1, (hb.cell (by exact hHeld.2.2.2.2)).trans hHeld.2.1, (hb.cell (by exact hHeld.2.2.2.2)).trans hHeld.2.2.1, two hHeld.2.2.2.1 hb, Nat.lt_of_lt_of_le hHeld.2.2.2.2 hb.size⟩
      clear hK K hHeld
      have hHeld := hHeld2
      clear hHeld2
      try simp only [Array.reduceGetElem, Act.put, List.setIfInBounds_toArray, List.set_cons_zero, List.set_cons_succ]
      first
      | (refine wpAnyH_take (i := 10) (v := ?v87x10) rfl (by kernel_rfl) (by kernel_rfl) (by kernel_rfl) (fun _ _ _ h => h) (Or.inl ⟨by rfl, ?hy87x10⟩) hHeld ?rest87x10
         case hy87x10 => (intro w hSw; (try dsimp only at hSw); go_simp <;> with_reducible rfl)
         try simp only [Array.reduceGetElem, Act.put, List.setIfInBounds_toArray, List.set_cons_zero, List.set_cons_succ])
      | (refine wpAnyH_take (i := 10) rfl (by kernel_rfl) (by kernel_rfl) (by kernel_rfl) (fun _ _ _ h => h) (Or.inr ⟨by rfl, rfl⟩) hHeld ?rest87x10
         try simp only [Array.reduceGetElem, Act.put, List.setIfInBounds_toArray, List.set_cons_zero, List.set_cons_succ])
      first
      | (refine wpAnyH_take (i := 11) (v := ?v87x11) rfl (by kernel_rfl) (by kernel_rfl) (by kernel_rfl) (fun _ _ _ h => h) (Or.inl ⟨by rfl, ?hy87x11⟩) hHeld ?rest87x11
         case hy87x11 => (intro w hSw; (try dsimp only at hSw); go_simp <;> with_reducible rfl)
         try simp only [Array.reduceGetElem, Act.put, List.setIfInBounds_toArray, List.set_cons_zero, List.set_cons_succ])
      | (refine wpAnyH_take (i := 11) rfl (by kernel_rfl) (by kernel_rfl) (by kernel_rfl) (fun _ _ _ h => h) (Or.inr ⟨by rfl, rfl⟩) hHeld ?rest87x11
         try simp only [Array.reduceGetElem, Act.put, List.setIfInBounds_toArray, List.set_cons_zero, List.set_cons_succ])
      refine wpAnyH_done (by kernel_rfl) ?_ _
      go_wp2_with fail
      go_ret
      exact ⟨rfl, hHeld.2.2.2.1⟩
  · have hP := hHeld.2.2.2
    have zA := hHeld.2.2.2.size
    have hA := hHeld.2.2.2.alloc zA (.cells #[.int .i64 0, .int .i64 0, .string ⟨#[]⟩] 23)
    go_simp
    refine hK.out _ _ ?_ (fun hHeld2 => ?_)
    · exact HM2.out _ hA
    clear hK K hHeld
    have hHeld := hHeld2
    clear hHeld2
    try simp only [Array.reduceGetElem, Act.put, List.setIfInBounds_toArray, List.set_cons_zero, List.set_cons_succ]
    refine wpAnyH_ready (rs := [2]) (by kernel_rfl) (by simp) ?_
    refine AllReadyH.cons rfl (fun K hK => ?_) AllReadyH.nil
    go_simp
    go_at_call 13
    refine (of_any _ _).mono ?_
    rintro e x1 ⟨rfl, hbx1⟩
    go_wp2_with fail
    refine hK.out _ _ ?_ (fun hHeld2 => ?_)
    · exact HM2.out _ (two hHeld.2.2.2 hbx1)
    clear hK K hHeld
    have hHeld := hHeld2
    clear hHeld2
    try simp only [Array.reduceGetElem, Act.put, List.setIfInBounds_toArray, List.set_cons_zero, List.set_cons_succ]
    refine wpAnyH_ready (rs := [3]) (by kernel_rfl) (by simp) ?_
    refine AllReadyH.cons rfl (fun K hK => ?_) AllReadyH.nil
    go_simp
    go_at_call 17
    refine (HB.out _).mono ?_
    rintro e x2 ⟨rfl, hbx2⟩
    go_wp2_with fail
    refine hK.out _ _ ?_ (fun hHeld2 => ?_)
    · exact HM2.out _ (two hHeld.2.2.2 hbx2)
    clear hK K hHeld
    have hHeld := hHeld2
    clear hHeld2
    try simp only [Array.reduceGetElem, Act.put, List.setIfInBounds_toArray, List.set_cons_zero, List.set_cons_succ]
    refine wpAnyH_take (i := 4) (v := ?v88y4) rfl (by kernel_rfl) (by kernel_rfl) (by kernel_rfl) (fun _ _ _ h => h) (Or.inl ⟨by rfl, ?hy88y4⟩) hHeld ?rest88y4
    case hy88y4 => (intro w hSw; (try dsimp only at hSw); go_simp <;> with_reducible rfl)
    try simp only [Array.reduceGetElem, Act.put, List.setIfInBounds_toArray, List.set_cons_zero, List.set_cons_succ]
    refine wpAnyH_take (i := 5) (v := ?v89y5) rfl (by kernel_rfl) (by kernel_rfl) (by kernel_rfl) (fun _ _ _ h => h) (Or.inl ⟨by rfl, ?hy89y5⟩) hHeld ?rest89y5
    case hy89y5 => (intro w hSw; (try dsimp only at hSw); go_simp <;> with_reducible rfl)
    try simp only [Array.reduceGetElem, Act.put, List.setIfInBounds_toArray, List.set_cons_zero, List.set_cons_succ]
    refine wpAnyH_take (i := 6) (v := ?v90y6) rfl (by kernel_rfl) (by kernel_rfl) (by kernel_rfl) (fun _ _ _ h => h) (Or.inl ⟨by rfl, ?hy90y6⟩) hHeld ?rest90y6
    case hy90y6 => (intro w hSw; (try dsimp only at hSw); go_simp <;> with_reducible rfl)
    try simp only [Array.reduceGetElem, Act.put, List.setIfInBounds_toArray, List.set_cons_zero, List.set_cons_succ]
    have k0 := box (two (undrew hbx1) hbx2) (by simp) 0
    have k1 := box (two (undrew hbx1) hbx2) (by simp) 1
    have k2 := box (two (undrew hbx1) hbx2) (by simp) 2
    have q0 := boxf (two (undrew hbx1) hbx2) (by simp) 0
    have q1 := boxf (two (undrew hbx1) hbx2) (by simp) 1
    have q2 := boxf (two (undrew hbx1) hbx2) (by simp) 2
    have zx := (two (undrew hbx1) hbx2).size
    simp only [World.size_alloc] at zx
    simp only [List.getElem?_toArray, List.getElem?_cons_zero, List.getElem?_cons_succ] at k0 k1 k2
    refine wpAnyH_ready (rs := [8]) (by kernel_rfl) (by simp) ?_
    refine AllReadyH.cons rfl (fun K hK => ?_) AllReadyH.nil
    have hQ := hHeld.2.2.2
    go_simp
    refine hK.out _ _ ?_ (fun hHeld2 => ?_)
    · exact HM2.out _ (by go_grown)
    clear hK K hHeld
    have hHeld := hHeld2
    clear hHeld2
    try simp only [Array.reduceGetElem, Act.put, List.setIfInBounds_toArray, List.set_cons_zero, List.set_cons_succ]
    refine wpAnyH_take (i := 9) (v := ?v91y9) rfl (by kernel_rfl) (by kernel_rfl) (by kernel_rfl) (fun _ _ _ h => h) (Or.inl ⟨by rfl, ?hy91y9⟩) hHeld ?rest91y9
    case hy91y9 => (intro w hSw; (try dsimp only at hSw); go_simp <;> with_reducible rfl)
    try simp only [Array.reduceGetElem, Act.put, List.setIfInBounds_toArray, List.set_cons_zero, List.set_cons_succ]
    refine wpAnyH_done (by kernel_rfl) ?_ _
    go_wp2_with fail
    refine wp_region_held_drew (S := (fun W => W.cell? ⟨w8.heap.size, 0, none⟩ = some (.int .i64 1) ∧ W.cell? ⟨w8.heap.size, 1, none⟩ = some (.int .i64 a) ∧ W.cell? ⟨w8.heap.size, 2, none⟩ = some (.string ⟨#[]⟩) ∧ Below w.heap.size w W ∧ w8.heap.size < W.heap.size)) (by kernel_rfl) (by exact ⟨(set3 _ _ _ k0 k1 k2).1, (set3 _ _ _ k0 k1 k2).2.1, (set3 _ _ _ k0 k1 k2).2.2, Below.drew (two hk hHeld.2.2.2), by simp; omega⟩) (fun hHeld => ?_)
    first
    | (refine wpAnyH_take (i := 0) (v := ?v92x0) rfl (by kernel_rfl) (by kernel_rfl) (by kernel_rfl) (fun _ _ _ h => h) (Or.inl ⟨by rfl, ?hy92x0⟩) hHeld ?rest92x0
       case hy92x0 => (intro w hSw; (try dsimp only at hSw); go_simp <;> with_reducible rfl)
       try simp only [Array.reduceGetElem, Act.put, List.setIfInBounds_toArray, List.set_cons_zero, List.set_cons_succ])
    | (refine wpAnyH_take (i := 0) rfl (by kernel_rfl) (by kernel_rfl) (by kernel_rfl) (fun _ _ _ h => h) (Or.inr ⟨by rfl, rfl⟩) hHeld ?rest92x0
       try simp only [Array.reduceGetElem, Act.put, List.setIfInBounds_toArray, List.set_cons_zero, List.set_cons_succ])
    first
    | (refine wpAnyH_take (i := 1) (v := ?v92x1) rfl (by kernel_rfl) (by kernel_rfl) (by kernel_rfl) (fun _ _ _ h => h) (Or.inl ⟨by rfl, ?hy92x1⟩) hHeld ?rest92x1
       case hy92x1 => (intro w hSw; (try dsimp only at hSw); go_simp <;> with_reducible rfl)
       try simp only [Array.reduceGetElem, Act.put, List.setIfInBounds_toArray, List.set_cons_zero, List.set_cons_succ])
    | (refine wpAnyH_take (i := 1) rfl (by kernel_rfl) (by kernel_rfl) (by kernel_rfl) (fun _ _ _ h => h) (Or.inr ⟨by rfl, rfl⟩) hHeld ?rest92x1
       try simp only [Array.reduceGetElem, Act.put, List.setIfInBounds_toArray, List.set_cons_zero, List.set_cons_succ])
    first
    | (refine wpAnyH_take (i := 2) (v := ?v92x2) rfl (by kernel_rfl) (by kernel_rfl) (by kernel_rfl) (fun _ _ _ h => h) (Or.inl ⟨by rfl, ?hy92x2⟩) hHeld ?rest92x2
       case hy92x2 => (intro w hSw; (try dsimp only at hSw); go_simp <;> with_reducible rfl)
       try simp only [Array.reduceGetElem, Act.put, List.setIfInBounds_toArray, List.set_cons_zero, List.set_cons_succ])
    | (refine wpAnyH_take (i := 2) rfl (by kernel_rfl) (by kernel_rfl) (by kernel_rfl) (fun _ _ _ h => h) (Or.inr ⟨by rfl, rfl⟩) hHeld ?rest92x2
       try simp only [Array.reduceGetElem, Act.put, List.setIfInBounds_toArray, List.set_cons_zero, List.set_cons_succ])
    first
    | (refine wpAnyH_take (i := 3) (v := ?v92x3) rfl (by kernel_rfl) (by kernel_rfl) (by kernel_rfl) (fun _ _ _ h => h) (Or.inl ⟨by rfl, ?hy92x3⟩) hHeld ?rest92x3
       case hy92x3 => (intro w hSw; (try dsimp only at hSw); go_simp <;> with_reducible rfl)
       try simp only [Array.reduceGetElem, Act.put, List.setIfInBounds_toArray, List.set_cons_zero, List.set_cons_succ])
    | (refine wpAnyH_take (i := 3) rfl (by kernel_rfl) (by kernel_rfl) (by kernel_rfl) (fun _ _ _ h => h) (Or.inr ⟨by rfl, rfl⟩) hHeld ?rest92x3
       try simp only [Array.reduceGetElem, Act.put, List.setIfInBounds_toArray, List.set_cons_zero, List.set_cons_succ])
    first
    | (refine wpAnyH_take (i := 4) (v := ?v92x4) rfl (by kernel_rfl) (by kernel_rfl) (by kernel_rfl) (fun _ _ _ h => h) (Or.inl ⟨by rfl, ?hy92x4⟩) hHeld ?rest92x4
       case hy92x4 => (intro w hSw; (try dsimp only at hSw); go_simp <;> with_reducible rfl)
       try simp only [Array.reduceGetElem, Act.put, List.setIfInBounds_toArray, List.set_cons_zero, List.set_cons_succ])
    | (refine wpAnyH_take (i := 4) rfl (by kernel_rfl) (by kernel_rfl) (by kernel_rfl) (fun _ _ _ h => h) (Or.inr ⟨by rfl, rfl⟩) hHeld ?rest92x4
       try simp only [Array.reduceGetElem, Act.put, List.setIfInBounds_toArray, List.set_cons_zero, List.set_cons_succ])
    refine wpAnyH_ready (rs := [5]) (by kernel_rfl) (by simp) ?_
    refine AllReadyH.cons rfl (fun K hK => ?_) AllReadyH.nil
    go_simp
    go_at_call 13; refine (of_any _ _).mono ?_; rintro e y1 ⟨rfl, hb⟩; go_wp2_with fail
    refine hK.out _ _ ?_ (fun hHeld2 => ?_)
    · exact ⟨(hb.cell (by exact hHeld.2.2.2.2)).trans hHeld.1, (hb.cell (by exact hHeld.2.2.2.2)).trans hHeld.2.1, (hb.cell (by exact hHeld.2.2.2.2)).trans hHeld.2.2.1, two hHeld.2.2.2.1 hb, Nat.lt_of_lt_of_le hHeld.2.2.2.2 hb.size⟩
    clear hK K hHeld
    have hHeld := hHeld2
    clear hHeld2
    try simp only [Array.reduceGetElem, Act.put, List.setIfInBounds_toArray, List.set_cons_zero, List.set_cons_succ]
    first
    | (refine wpAnyH_take (i := 6) (v := ?v92x6) rfl (by kernel_rfl) (by kernel_rfl) (by kernel_rfl) (fun _ _ _ h => h) (Or.inl ⟨by rfl, ?hy92x6⟩) hHeld ?rest92x6
       case hy92x6 => (intro w hSw; (try dsimp only at hSw); go_simp <;> with_reducible rfl)
       try simp only [Array.reduceGetElem, Act.put, List.setIfInBounds_toArray, List.set_cons_zero, List.set_cons_succ])
    | (refine wpAnyH_take (i := 6) rfl (by kernel_rfl) (by kernel_rfl) (by kernel_rfl) (fun _ _ _ h => h) (Or.inr ⟨by rfl, rfl⟩) hHeld ?rest92x6
       try simp only [Array.reduceGetElem, Act.put, List.setIfInBounds_toArray, List.set_cons_zero, List.set_cons_succ])
    first
    | (refine wpAnyH_take (i := 7) (v := ?v92x7) rfl (by kernel_rfl) (by kernel_rfl) (by kernel_rfl) (fun _ _ _ h => h) (Or.inl ⟨by rfl, ?hy92x7⟩) hHeld ?rest92x7
       case hy92x7 => (intro w hSw; (try dsimp only at hSw); go_simp <;> with_reducible rfl)
       try simp only [Array.reduceGetElem, Act.put, List.setIfInBounds_toArray, List.set_cons_zero, List.set_cons_succ])
    | (refine wpAnyH_take (i := 7) rfl (by kernel_rfl) (by kernel_rfl) (by kernel_rfl) (fun _ _ _ h => h) (Or.inr ⟨by rfl, rfl⟩) hHeld ?rest92x7
       try simp only [Array.reduceGetElem, Act.put, List.setIfInBounds_toArray, List.set_cons_zero, List.set_cons_succ])
    first
    | (refine wpAnyH_take (i := 8) (v := ?v92x8) rfl (by kernel_rfl) (by kernel_rfl) (by kernel_rfl) (fun _ _ _ h => h) (Or.inl ⟨by rfl, ?hy92x8⟩) hHeld ?rest92x8
       case hy92x8 => (intro w hSw; (try dsimp only at hSw); go_simp <;> with_reducible rfl)
       try simp only [Array.reduceGetElem, Act.put, List.setIfInBounds_toArray, List.set_cons_zero, List.set_cons_succ])
    | (refine wpAnyH_take (i := 8) rfl (by kernel_rfl) (by kernel_rfl) (by kernel_rfl) (fun _ _ _ h => h) (Or.inr ⟨by rfl, rfl⟩) hHeld ?rest92x8
       try simp only [Array.reduceGetElem, Act.put, List.setIfInBounds_toArray, List.set_cons_zero, List.set_cons_succ])
    refine wpAnyH_ready (rs := [9]) (by kernel_rfl) (by simp) ?_
    refine AllReadyH.cons rfl (fun K hK => ?_) AllReadyH.nil
    go_simp
    go_at_call 16; refine (awake_any _ (HE.out.below hHeld.2.2.2.1)).mono ?_; rintro e y2 ⟨rfl, hb⟩; go_wp2_with fail
    refine hK.out _ _ ?_ (fun hHeld2 => ?_)
    · exact ⟨(hb.cell (by exact hHeld.2.2.2.2)).trans hHeld.1, (hb.cell (by exact hHeld.2.2.2.2)).trans hHeld.2.1, (hb.cell (by exact hHeld.2.2.2.2)).trans hHeld.2.2.1, two hHeld.2.2.2.1 hb, Nat.lt_of_lt_of_le hHeld.2.2.2.2 hb.size⟩
    clear hK K hHeld
    have hHeld := hHeld2
    clear hHeld2
    try simp only [Array.reduceGetElem, Act.put, List.setIfInBounds_toArray, List.set_cons_zero, List.set_cons_succ]
    first
    | (refine wpAnyH_take (i := 10) (v := ?v92x10) rfl (by kernel_rfl) (by kernel_rfl) (by kernel_rfl) (fun _ _ _ h => h) (Or.inl ⟨by rfl, ?hy92x10⟩) hHeld ?rest92x10
       case hy92x10 => (intro w hSw; (try dsimp only at hSw); go_simp <;> with_reducible rfl)
       try simp only [Array.reduceGetElem, Act.put, List.setIfInBounds_toArray, List.set_cons_zero, List.set_cons_succ])
    | (refine wpAnyH_take (i := 10) rfl (by kernel_rfl) (by kernel_rfl) (by kernel_rfl) (fun _ _ _ h => h) (Or.inr ⟨by rfl, rfl⟩) hHeld ?rest92x10
       try simp only [Array.reduceGetElem, Act.put, List.setIfInBounds_toArray, List.set_cons_zero, List.set_cons_succ])
    first
    | (refine wpAnyH_take (i := 11) (v := ?v92x11) rfl (by kernel_rfl) (by kernel_rfl) (by kernel_rfl) (fun _ _ _ h => h) (Or.inl ⟨by rfl, ?hy92x11⟩) hHeld ?rest92x11
       case hy92x11 => (intro w hSw; (try dsimp only at hSw); go_simp <;> with_reducible rfl)
       try simp only [Array.reduceGetElem, Act.put, List.setIfInBounds_toArray, List.set_cons_zero, List.set_cons_succ])
    | (refine wpAnyH_take (i := 11) rfl (by kernel_rfl) (by kernel_rfl) (by kernel_rfl) (fun _ _ _ h => h) (Or.inr ⟨by rfl, rfl⟩) hHeld ?rest92x11
       try simp only [Array.reduceGetElem, Act.put, List.setIfInBounds_toArray, List.set_cons_zero, List.set_cons_succ])
    refine wpAnyH_done (by kernel_rfl) ?_ _
    go_wp2_with fail
    go_ret
    exact ⟨rfl, hHeld.2.2.2.1⟩

end Go.Proofs.YtedpgeilamhipaaDoor.Va
