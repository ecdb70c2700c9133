/- The walk of the law on sums and differences. -/
import Derived.Test.YtedpgeilamhipaaDoorValWalk7
set_option linter.unusedVariables false
set_option linter.unusedSimpArgs false
namespace Go.Proofs.YtedpgeilamhipaaDoor.Va
open Go.RowKit Go Ba

set_option maxRecDepth 100000 in
set_option maxHeartbeats 1600000 in
theorem sums_p (a b : Int) (w : World) (a0 : -9223372036854775808 ≤ a) (a1 : a ≤ 9223372036854775807) (b0 : -9223372036854775808 ≤ b) (b1 : b ≤ 9223372036854775807) (hb : 0 < b) (ho : a + b ≤ 9223372036854775807) (hu : -9223372036854775808 ≤ a - b) (hE : Env w) :
    Calls Tryd.prog 4 #[.int .i64 a, .int .i64 b] w fun e w' => e = .returned (.bool true) ∧ Below w.heap.size w w' := by
  have HE := Lib.hid hE
  clear hE
  have HA : Hid (Numbers 43 1 a ⟨#[]⟩ 1 b ⟨#[]⟩ (a + b)) := arith_ok 43 1 a ⟨#[]⟩ 1 b ⟨#[]⟩ _ (by decide) (by decide) (.inl rfl) (by decide) (by decide) (by decide) (by decide) (fun _ => ⟨by decide, by decide⟩) (add_ok ⟨a0, a1⟩ ⟨b0, b1⟩ (by unfold In64; omega))
  have HS : Hid (Numbers 45 1 a ⟨#[]⟩ 1 b ⟨#[]⟩ (a - b)) := arith_ok 45 1 a ⟨#[]⟩ 1 b ⟨#[]⟩ _ (by decide) (by decide) (.inr (.inl rfl)) (by decide) (by decide) (by decide) (by decide) (fun _ => ⟨by decide, by decide⟩) (sub_ok ⟨a0, a1⟩ ⟨b0, b1⟩ (by unfold In64; omega))
  have HB : Hid (Numbers 45 1 (a + b) ⟨#[]⟩ 1 b ⟨#[]⟩ a) := arith_ok 45 1 (a + b) ⟨#[]⟩ 1 b ⟨#[]⟩ _ (by decide) (by decide) (.inr (.inl rfl)) (by decide) (by decide) (by decide) (by decide) (fun _ => ⟨by decide, by decide⟩) (by have := sub_ok (a := a + b) (b := b) ⟨by omega, by omega⟩ ⟨b0, b1⟩ (by unfold In64; omega); rwa [show a + b - b = a by omega] at this)
  go_enter Tryd.func4, Tryd.ntmps4
  go_wp2_with fail
  refine (of_any a _).mono ?_
  rintro e w1 ⟨rfl, bb1⟩
  go_wp2_with fail
  refine (of_any b _).mono ?_
  rintro e w2 ⟨rfl, hb⟩
  have bb2 := two bb1 hb
  clear hb
  go_wp2_with fail
  refine (HA.out _).mono ?_
  rintro e w3 ⟨rfl, hb⟩
  have bb3 := two bb2 hb
  have z3 := bb3.size
  clear hb
  go_wp2_with fail
  refine (of_any a _).mono ?_
  rintro e w4 ⟨rfl, hb4⟩
  go_wp2_with fail
  refine (of_any b _).mono ?_
  rintro e w5 ⟨rfl, hb⟩
  have hb5 := two hb4 hb
  clear hb
  go_wp2_with fail
  refine (HS.out _).mono ?_
  rintro e w6 ⟨rfl, hb⟩
  have hb6 := two hb5 hb
  clear hb hb4 hb5
  have z6 := hb6.size
  simp only [World.size_alloc] at z6
  have zz : w3.heap.size < w6.heap.size := by omega
  have c0 : w6.cell? ⟨w3.heap.size, 0, none⟩ = some (.int .i64 1) := box hb6 (by simp) 0
  have c1 : w6.cell? ⟨w3.heap.size, 1, none⟩ = some (.int .i64 (a + b)) := box hb6 (by simp) 1
  have c2 : w6.cell? ⟨w3.heap.size, 2, none⟩ = some (.string ⟨#[]⟩) := box hb6 (by simp) 2
  have bb6 := next (w := w) (B := w.heap.size) (bb3.alloc z3 _) hb6 (Nat.le_refl _)
  have z66 := bb6.size
  have b7 : Below w.heap.size w (w6.alloc (.cells #[.int .i64 1, .int .i64 (a - b), .string ⟨#[]⟩] 23)) := bb6.alloc z66 _
  have hd6 : Below w6.heap.size w6 (w6.alloc (.cells #[.int .i64 1, .int .i64 (a - b), .string ⟨#[]⟩] 23)) := by go_grown
  have HM : Hid (∀ W, Below (w6.alloc (.cells #[.int .i64 1, .int .i64 (a - b), .string ⟨#[]⟩] 23)).heap.size (w6.alloc (.cells #[.int .i64 1, .int .i64 (a - b), .string ⟨#[]⟩] 23)) W → W.cell? ⟨w3.heap.size, 0, none⟩ = some (.int .i64 1) ∧ W.cell? ⟨w3.heap.size, 1, none⟩ = some (.int .i64 (a + b)) ∧ W.cell? ⟨w3.heap.size, 2, none⟩ = some (.string ⟨#[]⟩) ∧ W.cell? ⟨w6.heap.size, 0, none⟩ = some (.int .i64 1) ∧ W.cell? ⟨w6.heap.size, 1, none⟩ = some (.int .i64 (a - b)) ∧ W.cell? ⟨w6.heap.size, 2, none⟩ = some (.string ⟨#[]⟩) ∧ Below (w6.alloc (.cells #[.int .i64 1, .int .i64 (a - b), .string ⟨#[]⟩] 23)).heap.size (w6.alloc (.cells #[.int .i64 1, .int .i64 (a - b), .string ⟨#[]⟩] 23)) W) := fun W h =>
    ⟨(h.cell (by simp; omega)).trans ((hd6.cell (by exact zz)).trans c0), (h.cell (by simp; omega)).trans ((hd6.cell (by exact zz)).trans c1), (h.cell (by simp; omega)).trans ((hd6.cell (by exact zz)).trans c2), (h.cell (by simp)).trans (by simp), (h.cell (by simp)).trans (by simp), (h.cell (by simp)).trans (by simp), h⟩
  have hwa : IntKind.i64.wrap (a + b) = a + b := IntWalk.i64_in _ (by omega)
  have hws : IntKind.i64.wrap (a - b) = a - b := IntWalk.i64_in _ (by omega)
  clear hb6
  go_wp2_with fail
  refine wp_region_held_drew (S := (fun w' => w'.cell? ⟨w3.heap.size, 0, none⟩ = some (.int .i64 1) ∧ w'.cell? ⟨w3.heap.size, 1, none⟩ = some (.int .i64 (a + b)) ∧ w'.cell? ⟨w3.heap.size, 2, none⟩ = some (.string ⟨#[]⟩) ∧ w'.cell? ⟨w6.heap.size, 0, none⟩ = some (.int .i64 1) ∧ w'.cell? ⟨w6.heap.size, 1, none⟩ = some (.int .i64 (a - b)) ∧ w'.cell? ⟨w6.heap.size, 2, none⟩ = some (.string ⟨#[]⟩) ∧ Below (w6.alloc (.cells #[.int .i64 1, .int .i64 (a - b), .string ⟨#[]⟩] 23)).heap.size (w6.alloc (.cells #[.int .i64 1, .int .i64 (a - b), .string ⟨#[]⟩] 23)) w')) (by kernel_rfl) (by exact HM.out _ (Below.drew (by go_grown))) (fun hHeld => ?_)
  first
  | (refine wpAnyH_take (i := 0) (v := ?v20x0) rfl (by kernel_rfl) (by kernel_rfl) (by kernel_rfl) (fun _ _ _ h => h) (Or.inl ⟨by rfl, ?hy20x0⟩) hHeld ?rest20x0
     case hy20x0 => (intro w hSw; (try dsimp only at hSw); go_simp <;> with_reducible rfl)
     try simp only [Array.reduceGetElem, Act.put, List.setIfInBounds_toArray, List.set_cons_zero, List.set_cons_succ])
  | (refine wpAnyH_take (i := 0) rfl (by kernel_rfl) (by kernel_rfl) (by kernel_rfl) (fun _ _ _ h => h) (Or.inr ⟨by rfl, rfl⟩) hHeld ?rest20x0
     try simp only [Array.reduceGetElem, Act.put, List.setIfInBounds_toArray, List.set_cons_zero, List.set_cons_succ])
  first
  | (refine wpAnyH_take (i := 1) (v := ?v20x1) rfl (by kernel_rfl) (by kernel_rfl) (by kernel_rfl) (fun _ _ _ h => h) (Or.inl ⟨by rfl, ?hy20x1⟩) hHeld ?rest20x1
     case hy20x1 => (intro w hSw; (try dsimp only at hSw); go_simp <;> with_reducible rfl)
     try simp only [Array.reduceGetElem, Act.put, List.setIfInBounds_toArray, List.set_cons_zero, List.set_cons_succ])
  | (refine wpAnyH_take (i := 1) rfl (by kernel_rfl) (by kernel_rfl) (by kernel_rfl) (fun _ _ _ h => h) (Or.inr ⟨by rfl, rfl⟩) hHeld ?rest20x1
     try simp only [Array.reduceGetElem, Act.put, List.setIfInBounds_toArray, List.set_cons_zero, List.set_cons_succ])
  first
  | (refine wpAnyH_take (i := 2) (v := ?v20x2) rfl (by kernel_rfl) (by kernel_rfl) (by kernel_rfl) (fun _ _ _ h => h) (Or.inl ⟨by rfl, ?hy20x2⟩) hHeld ?rest20x2
     case hy20x2 => (intro w hSw; (try dsimp only at hSw); go_simp <;> with_reducible rfl)
     try simp only [Array.reduceGetElem, Act.put, List.setIfInBounds_toArray, List.set_cons_zero, List.set_cons_succ])
  | (refine wpAnyH_take (i := 2) rfl (by kernel_rfl) (by kernel_rfl) (by kernel_rfl) (fun _ _ _ h => h) (Or.inr ⟨by rfl, rfl⟩) hHeld ?rest20x2
     try simp only [Array.reduceGetElem, Act.put, List.setIfInBounds_toArray, List.set_cons_zero, List.set_cons_succ])
  first
  | (refine wpAnyH_take (i := 3) (v := ?v20x3) rfl (by kernel_rfl) (by kernel_rfl) (by kernel_rfl) (fun _ _ _ h => h) (Or.inl ⟨by rfl, ?hy20x3⟩) hHeld ?rest20x3
     case hy20x3 => (intro w hSw; (try dsimp only at hSw); go_simp <;> with_reducible rfl)
     try simp only [Array.reduceGetElem, Act.put, List.setIfInBounds_toArray, List.set_cons_zero, List.set_cons_succ])
  | (refine wpAnyH_take (i := 3) rfl (by kernel_rfl) (by kernel_rfl) (by kernel_rfl) (fun _ _ _ h => h) (Or.inr ⟨by rfl, rfl⟩) hHeld ?rest20x3
     try simp only [Array.reduceGetElem, Act.put, List.setIfInBounds_toArray, List.set_cons_zero, List.set_cons_succ])
  first
  | (refine wpAnyH_take (i := 4) (v := ?v20x4) rfl (by kernel_rfl) (by kernel_rfl) (by kernel_rfl) (fun _ _ _ h => h) (Or.inl ⟨by rfl, ?hy20x4⟩) hHeld ?rest20x4
     case hy20x4 => (intro w hSw; (try dsimp only at hSw); go_simp <;> with_reducible rfl)
     try simp only [Array.reduceGetElem, Act.put, List.setIfInBounds_toArray, List.set_cons_zero, List.set_cons_succ])
  | (refine wpAnyH_take (i := 4) rfl (by kernel_rfl) (by kernel_rfl) (by kernel_rfl) (fun _ _ _ h => h) (Or.inr ⟨by rfl, rfl⟩) hHeld ?rest20x4
     try simp only [Array.reduceGetElem, Act.put, List.setIfInBounds_toArray, List.set_cons_zero, List.set_cons_succ])
  first
  | (refine wpAnyH_take (i := 5) (v := ?v20x5) rfl (by kernel_rfl) (by kernel_rfl) (by kernel_rfl) (fun _ _ _ h => h) (Or.inl ⟨by rfl, ?hy20x5⟩) hHeld ?rest20x5
     case hy20x5 => (intro w hSw; (try dsimp only at hSw); go_simp <;> with_reducible rfl)
     try simp only [Array.reduceGetElem, Act.put, List.setIfInBounds_toArray, List.set_cons_zero, List.set_cons_succ])
  | (refine wpAnyH_take (i := 5) rfl (by kernel_rfl) (by kernel_rfl) (by kernel_rfl) (fun _ _ _ h => h) (Or.inr ⟨by rfl, rfl⟩) hHeld ?rest20x5
     try simp only [Array.reduceGetElem, Act.put, List.setIfInBounds_toArray, List.set_cons_zero, List.set_cons_succ])
  first
  | (refine wpAnyH_take (i := 6) (v := ?v20x6) rfl (by kernel_rfl) (by kernel_rfl) (by kernel_rfl) (fun _ _ _ h => h) (Or.inl ⟨by rfl, ?hy20x6⟩) hHeld ?rest20x6
     case hy20x6 => (intro w hSw; (try dsimp only at hSw); go_simp <;> with_reducible rfl)
     try simp only [Array.reduceGetElem, Act.put, List.setIfInBounds_toArray, List.set_cons_zero, List.set_cons_succ])
  | (refine wpAnyH_take (i := 6) rfl (by kernel_rfl) (by kernel_rfl) (by kernel_rfl) (fun _ _ _ h => h) (Or.inr ⟨by rfl, rfl⟩) hHeld ?rest20x6
     try simp only [Array.reduceGetElem, Act.put, List.setIfInBounds_toArray, List.set_cons_zero, List.set_cons_succ])
  first
  | (refine wpAnyH_take (i := 7) (v := ?v20x7) rfl (by kernel_rfl) (by kernel_rfl) (by kernel_rfl) (fun _ _ _ h => h) (Or.inl ⟨by rfl, ?hy20x7⟩) hHeld ?rest20x7
     case hy20x7 => (intro w hSw; (try dsimp only at hSw); go_simp <;> with_reducible rfl)
     try simp only [Array.reduceGetElem, Act.put, List.setIfInBounds_toArray, List.set_cons_zero, List.set_cons_succ])
  | (refine wpAnyH_take (i := 7) rfl (by kernel_rfl) (by kernel_rfl) (by kernel_rfl) (fun _ _ _ h => h) (Or.inr ⟨by rfl, rfl⟩) hHeld ?rest20x7
     try simp only [Array.reduceGetElem, Act.put, List.setIfInBounds_toArray, List.set_cons_zero, List.set_cons_succ])
  first
  | (refine wpAnyH_take (i := 8) (v := ?v20x8) rfl (by kernel_rfl) (by kernel_rfl) (by kernel_rfl) (fun _ _ _ h => h) (Or.inl ⟨by rfl, ?hy20x8⟩) hHeld ?rest20x8
     case hy20x8 => (intro w hSw; (try dsimp only at hSw); go_simp <;> with_reducible rfl)
     try simp only [Array.reduceGetElem, Act.put, List.setIfInBounds_toArray, List.set_cons_zero, List.set_cons_succ])
  | (refine wpAnyH_take (i := 8) rfl (by kernel_rfl) (by kernel_rfl) (by kernel_rfl) (fun _ _ _ h => h) (Or.inr ⟨by rfl, rfl⟩) hHeld ?rest20x8
     try simp only [Array.reduceGetElem, Act.put, List.setIfInBounds_toArray, List.set_cons_zero, List.set_cons_succ])
  first
  | (refine wpAnyH_take (i := 9) (v := ?v20x9) rfl (by kernel_rfl) (by kernel_rfl) (by kernel_rfl) (fun _ _ _ h => h) (Or.inl ⟨by rfl, ?hy20x9⟩) hHeld ?rest20x9
     case hy20x9 => (intro w hSw; (try dsimp only at hSw); go_simp <;> with_reducible rfl)
     try simp only [Array.reduceGetElem, Act.put, List.setIfInBounds_toArray, List.set_cons_zero, List.set_cons_succ])
  | (refine wpAnyH_take (i := 9) rfl (by kernel_rfl) (by kernel_rfl) (by kernel_rfl) (fun _ _ _ h => h) (Or.inr ⟨by rfl, rfl⟩) hHeld ?rest20x9
     try simp only [Array.reduceGetElem, Act.put, List.setIfInBounds_toArray, List.set_cons_zero, List.set_cons_succ])
  refine wpAnyH_ready (rs := [10]) (by kernel_rfl) (by simp) ?_
  refine AllReadyH.cons rfl (fun K hK => ?_) AllReadyH.nil
  go_simp
  go_at_call 13; refine (of_any _ _).mono ?_; rintro e w' ⟨rfl, hb⟩; go_wp2_with fail
  refine hK.out _ _ ?_ (fun hHeld2 => ?_)
  · exact HM.out _ (two hHeld.2.2.2.2.2.2 hb)
  clear hK K hHeld
  have hHeld := hHeld2
  clear hHeld2
  try simp only [Array.reduceGetElem, Act.put, List.setIfInBounds_toArray, List.set_cons_zero, List.set_cons_succ]
  first
  | (refine wpAnyH_take (i := 11) (v := ?v20x11) rfl (by kernel_rfl) (by kernel_rfl) (by kernel_rfl) (fun _ _ _ h => h) (Or.inl ⟨by rfl, ?hy20x11⟩) hHeld ?rest20x11
     case hy20x11 => (intro w hSw; (try dsimp only at hSw); go_simp <;> with_reducible rfl)
     try simp only [Array.reduceGetElem, Act.put, List.setIfInBounds_toArray, List.set_cons_zero, List.set_cons_succ])
  | (refine wpAnyH_take (i := 11) rfl (by kernel_rfl) (by kernel_rfl) (by kernel_rfl) (fun _ _ _ h => h) (Or.inr ⟨by rfl, rfl⟩) hHeld ?rest20x11
     try simp only [Array.reduceGetElem, Act.put, List.setIfInBounds_toArray, List.set_cons_zero, List.set_cons_succ])
  first
  | (refine wpAnyH_take (i := 12) (v := ?v20x12) rfl (by kernel_rfl) (by kernel_rfl) (by kernel_rfl) (fun _ _ _ h => h) (Or.inl ⟨by rfl, ?hy20x12⟩) hHeld ?rest20x12
     case hy20x12 => (intro w hSw; (try dsimp only at hSw); go_simp <;> with_reducible rfl)
     try simp only [Array.reduceGetElem, Act.put, List.setIfInBounds_toArray, List.set_cons_zero, List.set_cons_succ])
  | (refine wpAnyH_take (i := 12) rfl (by kernel_rfl) (by kernel_rfl) (by kernel_rfl) (fun _ _ _ h => h) (Or.inr ⟨by rfl, rfl⟩) hHeld ?rest20x12
     try simp only [Array.reduceGetElem, Act.put, List.setIfInBounds_toArray, List.set_cons_zero, List.set_cons_succ])
  first
  | (refine wpAnyH_take (i := 13) (v := ?v20x13) rfl (by kernel_rfl) (by kernel_rfl) (by kernel_rfl) (fun _ _ _ h => h) (Or.inl ⟨by rfl, ?hy20x13⟩) hHeld ?rest20x13
     case hy20x13 => (intro w hSw; (try dsimp only at hSw); go_simp <;> with_reducible rfl)
     try simp only [Array.reduceGetElem, Act.put, List.setIfInBounds_toArray, List.set_cons_zero, List.set_cons_succ])
  | (refine wpAnyH_take (i := 13) rfl (by kernel_rfl) (by kernel_rfl) (by kernel_rfl) (fun _ _ _ h => h) (Or.inr ⟨by rfl, rfl⟩) hHeld ?rest20x13
     try simp only [Array.reduceGetElem, Act.put, List.setIfInBounds_toArray, List.set_cons_zero, List.set_cons_succ])
  first
  | (refine wpAnyH_take (i := 14) (v := ?v20x14) rfl (by kernel_rfl) (by kernel_rfl) (by kernel_rfl) (fun _ _ _ h => h) (Or.inl ⟨by rfl, ?hy20x14⟩) hHeld ?rest20x14
     case hy20x14 => (intro w hSw; (try dsimp only at hSw); go_simp <;> with_reducible rfl)
     try simp only [Array.reduceGetElem, Act.put, List.setIfInBounds_toArray, List.set_cons_zero, List.set_cons_succ])
  | (refine wpAnyH_take (i := 14) rfl (by kernel_rfl) (by kernel_rfl) (by kernel_rfl) (fun _ _ _ h => h) (Or.inr ⟨by rfl, rfl⟩) hHeld ?rest20x14
     try simp only [Array.reduceGetElem, Act.put, List.setIfInBounds_toArray, List.set_cons_zero, List.set_cons_succ])
  first
  | (refine wpAnyH_take (i := 15) (v := ?v20x15) rfl (by kernel_rfl) (by kernel_rfl) (by kernel_rfl) (fun _ _ _ h => h) (Or.inl ⟨by rfl, ?hy20x15⟩) hHeld ?rest20x15
     case hy20x15 => (intro w hSw; (try dsimp only at hSw); go_simp <;> with_reducible rfl)
     try simp only [Array.reduceGetElem, Act.put, List.setIfInBounds_toArray, List.set_cons_zero, List.set_cons_succ])
  | (refine wpAnyH_take (i := 15) rfl (by kernel_rfl) (by kernel_rfl) (by kernel_rfl) (fun _ _ _ h => h) (Or.inr ⟨by rfl, rfl⟩) hHeld ?rest20x15
     try simp only [Array.reduceGetElem, Act.put, List.setIfInBounds_toArray, List.set_cons_zero, List.set_cons_succ])
  first
  | (refine wpAnyH_take (i := 16) (v := ?v20x16) rfl (by kernel_rfl) (by kernel_rfl) (by kernel_rfl) (fun _ _ _ h => h) (Or.inl ⟨by rfl, ?hy20x16⟩) hHeld ?rest20x16
     case hy20x16 => (intro w hSw; (try dsimp only at hSw); go_simp <;> with_reducible rfl)
     try simp only [Array.reduceGetElem, Act.put, List.setIfInBounds_toArray, List.set_cons_zero, List.set_cons_succ])
  | (refine wpAnyH_take (i := 16) rfl (by kernel_rfl) (by kernel_rfl) (by kernel_rfl) (fun _ _ _ h => h) (Or.inr ⟨by rfl, rfl⟩) hHeld ?rest20x16
     try simp only [Array.reduceGetElem, Act.put, List.setIfInBounds_toArray, List.set_cons_zero, List.set_cons_succ])
  first
  | (refine wpAnyH_take (i := 17) (v := ?v20x17) rfl (by kernel_rfl) (by kernel_rfl) (by kernel_rfl) (fun _ _ _ h => h) (Or.inl ⟨by rfl, ?hy20x17⟩) hHeld ?rest20x17
     case hy20x17 => (intro w hSw; (try dsimp only at hSw); go_simp <;> with_reducible rfl)
     try simp only [Array.reduceGetElem, Act.put, List.setIfInBounds_toArray, List.set_cons_zero, List.set_cons_succ])
  | (refine wpAnyH_take (i := 17) rfl (by kernel_rfl) (by kernel_rfl) (by kernel_rfl) (fun _ _ _ h => h) (Or.inr ⟨by rfl, rfl⟩) hHeld ?rest20x17
     try simp only [Array.reduceGetElem, Act.put, List.setIfInBounds_toArray, List.set_cons_zero, List.set_cons_succ])
  first
  | (refine wpAnyH_take (i := 18) (v := ?v20x18) rfl (by kernel_rfl) (by kernel_rfl) (by kernel_rfl) (fun _ _ _ h => h) (Or.inl ⟨by rfl, ?hy20x18⟩) hHeld ?rest20x18
     case hy20x18 => (intro w hSw; (try dsimp only at hSw); go_simp <;> with_reducible rfl)
     try simp only [Array.reduceGetElem, Act.put, List.setIfInBounds_toArray, List.set_cons_zero, List.set_cons_succ])
  | (refine wpAnyH_take (i := 18) rfl (by kernel_rfl) (by kernel_rfl) (by kernel_rfl) (fun _ _ _ h => h) (Or.inr ⟨by rfl, rfl⟩) hHeld ?rest20x18
     try simp only [Array.reduceGetElem, Act.put, List.setIfInBounds_toArray, List.set_cons_zero, List.set_cons_succ])
  first
  | (refine wpAnyH_take (i := 19) (v := ?v20x19) rfl (by kernel_rfl) (by kernel_rfl) (by kernel_rfl) (fun _ _ _ h => h) (Or.inl ⟨by rfl, ?hy20x19⟩) hHeld ?rest20x19
     case hy20x19 => (intro w hSw; (try dsimp only at hSw); go_simp <;> with_reducible rfl)
     try simp only [Array.reduceGetElem, Act.put, List.setIfInBounds_toArray, List.set_cons_zero, List.set_cons_succ])
  | (refine wpAnyH_take (i := 19) rfl (by kernel_rfl) (by kernel_rfl) (by kernel_rfl) (fun _ _ _ h => h) (Or.inr ⟨by rfl, rfl⟩) hHeld ?rest20x19
     try simp only [Array.reduceGetElem, Act.put, List.setIfInBounds_toArray, List.set_cons_zero, List.set_cons_succ])
  first
  | (refine wpAnyH_take (i := 20) (v := ?v20x20) rfl (by kernel_rfl) (by kernel_rfl) (by kernel_rfl) (fun _ _ _ h => h) (Or.inl ⟨by rfl, ?hy20x20⟩) hHeld ?rest20x20
     case hy20x20 => (intro w hSw; (try dsimp only at hSw); go_simp <;> with_reducible rfl)
     try simp only [Array.reduceGetElem, Act.put, List.setIfInBounds_toArray, List.set_cons_zero, List.set_cons_succ])
  | (refine wpAnyH_take (i := 20) rfl (by kernel_rfl) (by kernel_rfl) (by kernel_rfl) (fun _ _ _ h => h) (Or.inr ⟨by rfl, rfl⟩) hHeld ?rest20x20
     try simp only [Array.reduceGetElem, Act.put, List.setIfInBounds_toArray, List.set_cons_zero, List.set_cons_succ])
  first
  | (refine wpAnyH_take (i := 21) (v := ?v20x21) rfl (by kernel_rfl) (by kernel_rfl) (by kernel_rfl) (fun _ _ _ h => h) (Or.inl ⟨by rfl, ?hy20x21⟩) hHeld ?rest20x21
     case hy20x21 => (intro w hSw; (try dsimp only at hSw); go_simp <;> with_reducible rfl)
     try simp only [Array.reduceGetElem, Act.put, List.setIfInBounds_toArray, List.set_cons_zero, List.set_cons_succ])
  | (refine wpAnyH_take (i := 21) rfl (by kernel_rfl) (by kernel_rfl) (by kernel_rfl) (fun _ _ _ h => h) (Or.inr ⟨by rfl, rfl⟩) hHeld ?rest20x21
     try simp only [Array.reduceGetElem, Act.put, List.setIfInBounds_toArray, List.set_cons_zero, List.set_cons_succ])
  first
  | (refine wpAnyH_take (i := 22) (v := ?v20x22) rfl (by kernel_rfl) (by kernel_rfl) (by kernel_rfl) (fun _ _ _ h => h) (Or.inl ⟨by rfl, ?hy20x22⟩) hHeld ?rest20x22
     case hy20x22 => (intro w hSw; (try dsimp only at hSw); go_simp <;> with_reducible rfl)
     try simp only [Array.reduceGetElem, Act.put, List.setIfInBounds_toArray, List.set_cons_zero, List.set_cons_succ])
  | (refine wpAnyH_take (i := 22) rfl (by kernel_rfl) (by kernel_rfl) (by kernel_rfl) (fun _ _ _ h => h) (Or.inr ⟨by rfl, rfl⟩) hHeld ?rest20x22
     try simp only [Array.reduceGetElem, Act.put, List.setIfInBounds_toArray, List.set_cons_zero, List.set_cons_succ])
  first
  | (refine wpAnyH_take (i := 23) (v := ?v20x23) rfl (by kernel_rfl) (by kernel_rfl) (by kernel_rfl) (fun _ _ _ h => h) (Or.inl ⟨by rfl, ?hy20x23⟩) hHeld ?rest20x23
     case hy20x23 => (intro w hSw; (try dsimp only at hSw); go_simp <;> with_reducible rfl)
     try simp only [Array.reduceGetElem, Act.put, List.setIfInBounds_toArray, List.set_cons_zero, List.set_cons_succ])
  | (refine wpAnyH_take (i := 23) rfl (by kernel_rfl) (by kernel_rfl) (by kernel_rfl) (fun _ _ _ h => h) (Or.inr ⟨by rfl, rfl⟩) hHeld ?rest20x23
     try simp only [Array.reduceGetElem, Act.put, List.setIfInBounds_toArray, List.set_cons_zero, List.set_cons_succ])
  first
  | (refine wpAnyH_take (i := 24) (v := ?v20x24) rfl (by kernel_rfl) (by kernel_rfl) (by kernel_rfl) (fun _ _ _ h => h) (Or.inl ⟨by rfl, ?hy20x24⟩) hHeld ?rest20x24
     case hy20x24 => (intro w hSw; (try dsimp only at hSw); go_simp <;> with_reducible rfl)
     try simp only [Array.reduceGetElem, Act.put, List.setIfInBounds_toArray, List.set_cons_zero, List.set_cons_succ])
  | (refine wpAnyH_take (i := 24) rfl (by kernel_rfl) (by kernel_rfl) (by kernel_rfl) (fun _ _ _ h => h) (Or.inr ⟨by rfl, rfl⟩) hHeld ?rest20x24
     try simp only [Array.reduceGetElem, Act.put, List.setIfInBounds_toArray, List.set_cons_zero, List.set_cons_succ])
  refine wpAnyH_ready (rs := [25]) (by kernel_rfl) (by simp) ?_
  refine AllReadyH.cons rfl (fun K hK => ?_) AllReadyH.nil
  go_simp
  go_at_call 13; refine (of_any _ _).mono ?_; rintro e w8 ⟨rfl, hb⟩; go_wp2_with fail
  refine hK.out _ _ ?_ (fun hHeld2 => ?_)
  · exact HM.out _ (two hHeld.2.2.2.2.2.2 hb)
  clear hK K hHeld
  have hHeld := hHeld2
  clear hHeld2
  try simp only [Array.reduceGetElem, Act.put, List.setIfInBounds_toArray, List.set_cons_zero, List.set_cons_succ]
  first
  | (refine wpAnyH_take (i := 26) (v := ?v20x26) rfl (by kernel_rfl) (by kernel_rfl) (by kernel_rfl) (fun _ _ _ h => h) (Or.inl ⟨by rfl, ?hy20x26⟩) hHeld ?rest20x26
     case hy20x26 => (intro w hSw; (try dsimp only at hSw); go_simp <;> with_reducible rfl)
     try simp only [Array.reduceGetElem, Act.put, List.setIfInBounds_toArray, List.set_cons_zero, List.set_cons_succ])
  | (refine wpAnyH_take (i := 26) rfl (by kernel_rfl) (by kernel_rfl) (by kernel_rfl) (fun _ _ _ h => h) (Or.inr ⟨by rfl, rfl⟩) hHeld ?rest20x26
     try simp only [Array.reduceGetElem, Act.put, List.setIfInBounds_toArray, List.set_cons_zero, List.set_cons_succ])
  first
  | (refine wpAnyH_take (i := 27) (v := ?v20x27) rfl (by kernel_rfl) (by kernel_rfl) (by kernel_rfl) (fun _ _ _ h => h) (Or.inl ⟨by rfl, ?hy20x27⟩) hHeld ?rest20x27
     case hy20x27 => (intro w hSw; (try dsimp only at hSw); go_simp <;> with_reducible rfl)
     try simp only [Array.reduceGetElem, Act.put, List.setIfInBounds_toArray, List.set_cons_zero, List.set_cons_succ])
  | (refine wpAnyH_take (i := 27) rfl (by kernel_rfl) (by kernel_rfl) (by kernel_rfl) (fun _ _ _ h => h) (Or.inr ⟨by rfl, rfl⟩) hHeld ?rest20x27
     try simp only [Array.reduceGetElem, Act.put, List.setIfInBounds_toArray, List.set_cons_zero, List.set_cons_succ])
  first
  | (refine wpAnyH_take (i := 28) (v := ?v20x28) rfl (by kernel_rfl) (by kernel_rfl) (by kernel_rfl) (fun _ _ _ h => h) (Or.inl ⟨by rfl, ?hy20x28⟩) hHeld ?rest20x28
     case hy20x28 => (intro w hSw; (try dsimp only at hSw); go_simp <;> with_reducible rfl)
     try simp only [Array.reduceGetElem, Act.put, List.setIfInBounds_toArray, List.set_cons_zero, List.set_cons_succ])
  | (refine wpAnyH_take (i := 28) rfl (by kernel_rfl) (by kernel_rfl) (by kernel_rfl) (fun _ _ _ h => h) (Or.inr ⟨by rfl, rfl⟩) hHeld ?rest20x28
     try simp only [Array.reduceGetElem, Act.put, List.setIfInBounds_toArray, List.set_cons_zero, List.set_cons_succ])
  first
  | (refine wpAnyH_take (i := 29) (v := ?v20x29) rfl (by kernel_rfl) (by kernel_rfl) (by kernel_rfl) (fun _ _ _ h => h) (Or.inl ⟨by rfl, ?hy20x29⟩) hHeld ?rest20x29
     case hy20x29 => (intro w hSw; (try dsimp only at hSw); go_simp <;> with_reducible rfl)
     try simp only [Array.reduceGetElem, Act.put, List.setIfInBounds_toArray, List.set_cons_zero, List.set_cons_succ])
  | (refine wpAnyH_take (i := 29) rfl (by kernel_rfl) (by kernel_rfl) (by kernel_rfl) (fun _ _ _ h => h) (Or.inr ⟨by rfl, rfl⟩) hHeld ?rest20x29
     try simp only [Array.reduceGetElem, Act.put, List.setIfInBounds_toArray, List.set_cons_zero, List.set_cons_succ])
  refine wpAnyH_done (by kernel_rfl) ?_ _
  clear hwa hws
  clear c0 c1 c2
  have hk := two b7 hHeld.2.2.2.2.2.2
  obtain ⟨c0, c1, c2, _, _, _, h7⟩ := hHeld
  have z8 : w3.heap.size < w8.heap.size := by have := h7.size; simp at this; omega
  have HM2 : Hid (∀ W, Below w8.heap.size w8 W → W.cell? ⟨w3.heap.size, 0, none⟩ = some (.int .i64 1) ∧ W.cell? ⟨w3.heap.size, 1, none⟩ = some (.int .i64 (a + b)) ∧ W.cell? ⟨w3.heap.size, 2, none⟩ = some (.string ⟨#[]⟩) ∧ Below w8.heap.size w8 W) := fun W h =>
    ⟨(h.cell (by exact z8)).trans c0, (h.cell (by exact z8)).trans c1, (h.cell (by exact z8)).trans c2, h⟩
  clear c0 c1 c2
  go_wp2_with fail
  refine wp_region_held_drew (S := (fun w' => w'.cell? ⟨w3.heap.size, 0, none⟩ = some (.int .i64 1) ∧ w'.cell? ⟨w3.heap.size, 1, none⟩ = some (.int .i64 (a + b)) ∧ w'.cell? ⟨w3.heap.size, 2, none⟩ = some (.string ⟨#[]⟩) ∧ Below w8.heap.size w8 w')) (by kernel_rfl) (by exact HM2.out _ (Below.drew (by go_grown))) (fun hHeld => ?_)
  refine wpAnyH_take (i := 0) (v := ?v21y0) rfl (by kernel_rfl) (by kernel_rfl) (by kernel_rfl) (fun _ _ _ h => h) (Or.inl ⟨by rfl, ?hy21y0⟩) hHeld ?rest21y0
  case hy21y0 => (intro w hSw; (try dsimp only at hSw); go_simp <;> with_reducible rfl)
  try simp only [Array.reduceGetElem, Act.put, List.setIfInBounds_toArray, List.set_cons_zero, List.set_cons_succ]
  refine wpAnyH_take (i := 1) (v := ?v22y1) rfl (by kernel_rfl) (by kernel_rfl) (by kernel_rfl) (fun _ _ _ h => h) (Or.inl ⟨by rfl, ?hy22y1⟩) hHeld ?rest22y1
  case hy22y1 => (intro w hSw; (try dsimp only at hSw); go_simp <;> with_reducible rfl)
  try simp only [Array.reduceGetElem, Act.put, List.setIfInBounds_toArray, List.set_cons_zero, List.set_cons_succ]
  refine wpAnyH_ready (rs := [2, 7]) (by kernel_rfl) (by simp) ?_
  refine AllReadyH.cons rfl (fun K hK => ?_) (AllReadyH.cons rfl (fun K hK => ?_) AllReadyH.nil)
  · go_simp
    go_at_call 13
    refine (of_any _ _).mono ?_
    rintro e x1 ⟨rfl, hbx1⟩
    go_wp2_with fail
    refine hK.out _ _ ?_ (fun hHeld2 => ?_)
    · exact HM2.out _ (two hHeld.2.2.2 hbx1)
    clear hK K hHeld
    have hHeld := hHeld2
    clear hHeld2
    try simp only [Array.reduceGetElem, Act.put, List.setIfInBounds_toArray, List.set_cons_zero, List.set_cons_succ]
    refine wpAnyH_ready (rs := [3, 7]) (by kernel_rfl) (by simp) ?_
    refine AllReadyH.cons rfl (fun K hK => ?_) (AllReadyH.cons rfl (fun K hK => ?_) AllReadyH.nil)
    · go_simp
      go_at_call 17
      refine (HB.out _).mono ?_
      rintro e x2 ⟨rfl, hbx2⟩
      go_wp2_with fail
      refine hK.out _ _ ?_ (fun hHeld2 => ?_)
      · exact HM2.out _ (two hHeld.2.2.2 hbx2)
      clear hK K hHeld
      have hHeld := hHeld2
      clear hHeld2
      try simp only [Array.reduceGetElem, Act.put, List.setIfInBounds_toArray, List.set_cons_zero, List.set_cons_succ]
      refine wpAnyH_take (i := 4) (v := ?v23y4) rfl (by kernel_rfl) (by kernel_rfl) (by kernel_rfl) (fun _ _ _ h => h) (Or.inl ⟨by rfl, ?hy23y4⟩) hHeld ?rest23y4
      case hy23y4 => (intro w hSw; (try dsimp only at hSw); go_simp <;> with_reducible rfl)
      try simp only [Array.reduceGetElem, Act.put, List.setIfInBounds_toArray, List.set_cons_zero, List.set_cons_succ]
      refine wpAnyH_take (i := 5) (v := ?v24y5) rfl (by kernel_rfl) (by kernel_rfl) (by kernel_rfl) (fun _ _ _ h => h) (Or.inl ⟨by rfl, ?hy24y5⟩) hHeld ?rest24y5
      case hy24y5 => (intro w hSw; (try dsimp only at hSw); go_simp <;> with_reducible rfl)
      try simp only [Array.reduceGetElem, Act.put, List.setIfInBounds_toArray, List.set_cons_zero, List.set_cons_succ]
      refine wpAnyH_take (i := 6) (v := ?v25y6) rfl (by kernel_rfl) (by kernel_rfl) (by kernel_rfl) (fun _ _ _ h => h) (Or.inl ⟨by rfl, ?hy25y6⟩) hHeld ?rest25y6
      case hy25y6 => (intro w hSw; (try dsimp only at hSw); go_simp <;> with_reducible rfl)
      try simp only [Array.reduceGetElem, Act.put, List.setIfInBounds_toArray, List.set_cons_zero, List.set_cons_succ]
      refine wpAnyH_ready (rs := [7]) (by kernel_rfl) (by simp) ?_
      refine AllReadyH.cons rfl (fun K hK => ?_) AllReadyH.nil
      have hP := hHeld.2.2.2
      have zA := hHeld.2.2.2.size
      have hA := hHeld.2.2.2.alloc zA (.cells #[.int .i64 0, .int .i64 0, .string ⟨#[]⟩] 23)
      go_simp
      refine hK.out _ _ ?_ (fun hHeld2 => ?_)
      · exact HM2.out _ hA
      clear hK K hHeld
      have hHeld := hHeld2
      clear hHeld2
      try simp only [Array.reduceGetElem, Act.put, List.setIfInBounds_toArray, List.set_cons_zero, List.set_cons_succ]
      refine wpAnyH_ready (rs := [8]) (by kernel_rfl) (by simp) ?_
      refine AllReadyH.cons rfl (fun K hK => ?_) AllReadyH.nil
      have hQ := hHeld.2.2.2
      go_simp
      refine hK.out _ _ ?_ (fun hHeld2 => ?_)
      · exact HM2.out _ (hP.alloc zA _)
      clear hK K hHeld
      have hHeld := hHeld2
      clear hHeld2
      try simp only [Array.reduceGetElem, Act.put, List.setIfInBounds_toArray, List.set_cons_zero, List.set_cons_succ]
      refine wpAnyH_take (i := 9) (v := ?v26y9) rfl (by kernel_rfl) (by kernel_rfl) (by kernel_rfl) (fun _ _ _ h => h) (Or.inl ⟨by rfl, ?hy26y9⟩) hHeld ?rest26y9
      case hy26y9 => (intro w hSw; (try dsimp only at hSw); go_simp <;> with_reducible rfl)
      try simp only [Array.reduceGetElem, Act.put, List.setIfInBounds_toArray, List.set_cons_zero, List.set_cons_succ]
      refine wpAnyH_done (by kernel_rfl) ?_ _
      go_wp2_with fail
      refine wp_region_held_drew (S := (fun W => W.cell? ⟨x2.heap.size, 0, none⟩ = some (.int .i64 1) ∧ W.cell? ⟨x2.heap.size, 1, none⟩ = some (.int .i64 a) ∧ W.cell? ⟨x2.heap.size, 2, none⟩ = some (.string ⟨#[]⟩) ∧ Below w.heap.size w W ∧ x2.heap.size < W.heap.size)) (by kernel_rfl) (by exact ⟨by simp, by simp, by simp, Below.drew (two hk hHeld.2.2.2), by simp⟩) (fun hHeld => ?_)
      first
      | (refine wpAnyH_take (i := 0) (v := ?v27x0) rfl (by kernel_rfl) (by kernel_rfl) (by kernel_rfl) (fun _ _ _ h => h) (Or.inl ⟨by rfl, ?hy27x0⟩) hHeld ?rest27x0
         case hy27x0 => (intro w hSw; (try dsimp only at hSw); go_simp <;> with_reducible rfl)
         try simp only [Array.reduceGetElem, Act.put, List.setIfInBounds_toArray, List.set_cons_zero, List.set_cons_succ])
      | (refine wpAnyH_take (i := 0) rfl (by kernel_rfl) (by kernel_rfl) (by kernel_rfl) (fun _ _ _ h => h) (Or.inr ⟨by rfl, rfl⟩) hHeld ?rest27x0
         try simp only [Array.reduceGetElem, Act.put, List.setIfInBounds_toArray, List.set_cons_zero, List.set_cons_succ])
      first
      | (refine wpAnyH_take (i := 1) (v := ?v27x1) rfl (by kernel_rfl) (by kernel_rfl) (by kernel_rfl) (fun _ _ _ h => h) (Or.inl ⟨by rfl, ?hy27x1⟩) hHeld ?rest27x1
         case hy27x1 => (intro w hSw; (try dsimp only at hSw); go_simp <;> with_reducible rfl)
         try simp only [Array.reduceGetElem, Act.put, List.setIfInBounds_toArray, List.set_cons_zero, List.set_cons_succ])
      | (refine wpAnyH_take (i := 1) rfl (by kernel_rfl) (by kernel_rfl) (by kernel_rfl) (fun _ _ _ h => h) (Or.inr ⟨by rfl, rfl⟩) hHeld ?rest27x1
         try simp only [Array.reduceGetElem, Act.put, List.setIfInBounds_toArray, List.set_cons_zero, List.set_cons_succ])
      first
      | (refine wpAnyH_take (i := 2) (v := ?v27x2) rfl (by kernel_rfl) (by kernel_rfl) (by kernel_rfl) (fun _ _ _ h => h) (Or.inl ⟨by rfl, ?hy27x2⟩) hHeld ?rest27x2
         case hy27x2 => (intro w hSw; (try dsimp only at hSw); go_simp <;> with_reducible rfl)
         try simp only [Array.reduceGetElem, Act.put, List.setIfInBounds_toArray, List.set_cons_zero, List.set_cons_succ])
      | (refine wpAnyH_take (i := 2) rfl (by kernel_rfl) (by kernel_rfl) (by kernel_rfl) (fun _ _ _ h => h) (Or.inr ⟨by rfl, rfl⟩) hHeld ?rest27x2
         try simp only [Array.reduceGetElem, Act.put, List.setIfInBounds_toArray, List.set_cons_zero, List.set_cons_succ])
      first
      | (refine wpAnyH_take (i := 3) (v := ?v27x3) rfl (by kernel_rfl) (by kernel_rfl) (by kernel_rfl) (fun _ _ _ h => h) (Or.inl ⟨by rfl, ?hy27x3⟩) hHeld ?rest27x3
         case hy27x3 => (intro w hSw; (try dsimp only at hSw); go_simp <;> with_reducible rfl)
         try simp only [Array.reduceGetElem, Act.put, List.setIfInBounds_toArray, List.set_cons_zero, List.set_cons_succ])
      | (refine wpAnyH_take (i := 3) rfl (by kernel_rfl) (by kernel_rfl) (by kernel_rfl) (fun _ _ _ h => h) (Or.inr ⟨by rfl, rfl⟩) hHeld ?rest27x3
         try simp only [Array.reduceGetElem, Act.put, List.setIfInBounds_toArray, List.set_cons_zero, List.set_cons_succ])
      first
      | (refine wpAnyH_take (i := 4) (v := ?v27x4) rfl (by kernel_rfl) (by kernel_rfl) (by kernel_rfl) (fun _ _ _ h => h) (Or.inl ⟨by rfl, ?hy27x4⟩) hHeld ?rest27x4
         case hy27x4 => (intro w hSw; (try dsimp only at hSw); go_simp <;> with_reducible rfl)
         try simp only [Array.reduceGetElem, Act.put, List.setIfInBounds_toArray, List.set_cons_zero, List.set_cons_succ])
      | (refine wpAnyH_take (i := 4) rfl (by kernel_rfl) (by kernel_rfl) (by kernel_rfl) (fun _ _ _ h => h) (Or.inr ⟨by rfl, rfl⟩) hHeld ?rest27x4
         try simp only [Array.reduceGetElem, Act.put, List.setIfInBounds_toArray, List.set_cons_zero, List.set_cons_succ])
      refine wpAnyH_ready (rs := [5]) (by kernel_rfl) (by simp) ?_
      refine AllReadyH.cons rfl (fun K hK => ?_) AllReadyH.nil
      go_simp
      go_at_call 13; refine (of_any _ _).mono ?_; rintro e y1 ⟨rfl, hb⟩; go_wp2_with fail
      refine hK.out _ _ ?_ (fun hHeld2 => ?_)
      · exact ⟨(hb.cell (by exact hHeld.2.2.2.2)).trans hHeld.1, (hb.cell (by exact hHeld.2.2.2.2)).trans hHeld.2.1, (hb.cell (by exact hHeld.2.2.2.2)).trans hHeld.2.2.1, two hHeld.2.2.2.1 hb, Nat.lt_of_lt_of_le hHeld.2.2.2.2 hb.size⟩
      clear hK K hHeld
      have hHeld := hHeld2
      clear hHeld2
      try simp only [Array.reduceGetElem, Act.put, List.setIfInBounds_toArray, List.set_cons_zero, List.set_cons_succ]
      first
      | (refine wpAnyH_take (i := 6) (v := ?v27x6) rfl (by kernel_rfl) (by kernel_rfl) (by kernel_rfl) (fun _ _ _ h => h) (Or.inl ⟨by rfl, ?hy27x6⟩) hHeld ?rest27x6
         case hy27x6 => (intro w hSw; (try dsimp only at hSw); go_simp <;> with_reducible rfl)
         try simp only [Array.reduceGetElem, Act.put, List.setIfInBounds_toArray, List.set_cons_zero, List.set_cons_succ])
      | (refine wpAnyH_take (i := 6) rfl (by kernel_rfl) (by kernel_rfl) (by kernel_rfl) (fun _ _ _ h => h) (Or.inr ⟨by rfl, rfl⟩) hHeld ?rest27x6
         try simp only [Array.reduceGetElem, Act.put, List.setIfInBounds_toArray, List.set_cons_zero, List.set_cons_succ])
      first
      | (refine wpAnyH_take (i := 7) (v := ?v27x7) rfl (by kernel_rfl) (by kernel_rfl) (by kernel_rfl) (fun _ _ _ h => h) (Or.inl ⟨by rfl, ?hy27x7⟩) hHeld ?rest27x7
         case hy27x7 => (intro w hSw; (try dsimp only at hSw); go_simp <;> with_reducible rfl)
         try simp only [Array.reduceGetElem, Act.put, List.setIfInBounds_toArray, List.set_cons_zero, List.set_cons_succ])
      | (refine wpAnyH_take (i := 7) rfl (by kernel_rfl) (by kernel_rfl) (by kernel_rfl) (fun _ _ _ h => h) (Or.inr ⟨by rfl, rfl⟩) hHeld ?rest27x7
         try simp only [Array.reduceGetElem, Act.put, List.setIfInBounds_toArray, List.set_cons_zero, List.set_cons_succ])
      first
      | (refine wpAnyH_take (i := 8) (v := ?v27x8) rfl (by kernel_rfl) (by kernel_rfl) (by kernel_rfl) (fun _ _ _ h => h) (Or.inl ⟨by rfl, ?hy27x8⟩) hHeld ?rest27x8
         case hy27x8 => (intro w hSw; (try dsimp only at hSw); go_simp <;> with_reducible rfl)
         try simp only [Array.reduceGetElem, Act.put, List.setIfInBounds_toArray, List.set_cons_zero, List.set_cons_succ])
      | (refine wpAnyH_take (i := 8) rfl (by kernel_rfl) (by kernel_rfl) (by kernel_rfl) (fun _ _ _ h => h) (Or.inr ⟨by rfl, rfl⟩) hHeld ?rest27x8
         try simp only [Array.reduceGetElem, Act.put, List.setIfInBounds_toArray, List.set_cons_zero, List.set_cons_succ])
      refine wpAnyH_ready (rs := [9]) (by kernel_rfl) (by simp) ?_
      refine AllReadyH.cons rfl (fun K hK => ?_) AllReadyH.nil
      go_simp
      go_at_call 16; refine (awake_any _ (HE.out.below hHeld.2.2.2.1)).mono ?_; rintro e y2 ⟨rfl, hb⟩; go_wp2_with fail
      refine hK.out _ _ ?_ (fun hHeld2 => ?_)
      · exact ⟨(hb.cell (by exact hHeld.2.2.2.2)).trans hHeld.1, (hb.cell (by exact hHeld.2.2.2.2)).trans hHeld.2.1, (hb.cell (by exact hHeld.2.2.2.2)).trans hHeld.2.2.1, two hHeld.2.2.2.1 hb, Nat.lt_of_lt_of_le hHeld.2.2.2.2 hb.size⟩
      clear hK K hHeld
      have hHeld := hHeld2
      clear hHeld2
      try simp only [Array.reduceGetElem, Act.put, List.setIfInBounds_toArray, List.set_cons_zero, List.set_cons_succ]
      first
      | (refine wpAnyH_take (i := 10) (v := ?v27x10) rfl (by kernel_rfl) (by kernel_rfl) (by kernel_rfl) (fun _ _ _ h => h) (Or.inl ⟨by rfl, ?hy27x10⟩) hHeld ?rest27x10
         case hy27x10 => (intro w hSw; (try dsimp only at hSw); go_simp <;> with_reducible rfl)
         try simp only [Array.reduceGetElem, Act.put, List.setIfInBounds_toArray, List.set_cons_zero, List.set_cons_succ])
      | (refine wpAnyH_take (i := 10) rfl (by kernel_rfl) (by kernel_rfl) (by kernel_rfl) (fun _ _ _ h => h) (Or.inr ⟨by rfl, rfl⟩) hHeld ?rest27x10
         try simp only [Array.reduceGetElem, Act.put, List.setIfInBounds_toArray, List.set_cons_zero, List.set_cons_succ])
      first
      | (refine wpAnyH_take (i := 11) (v := ?v27x11) rfl (by kernel_rfl) (by kernel_rfl) (by kernel_rfl) (fun _ _ _ h => h) (Or.inl ⟨by rfl, ?hy27x11⟩) hHeld ?rest27x11
         case hy27x11 => (intro w hSw; (try dsimp only at hSw); go_simp <;> with_reducible rfl)
         try simp only [Array.reduceGetElem, Act.put, List.setIfInBounds_toArray, List.set_cons_zero, List.set_cons_succ])
      | (refine wpAnyH_take (i := 11) rfl (by kernel_rfl) (by kernel_rfl) (by kernel_rfl) (fun _ _ _ h => h) (Or.inr ⟨by rfl, rfl⟩) hHeld ?rest27x11
         try simp only [Array.reduceGetElem, Act.put, List.setIfInBounds_toArray, List.set_cons_zero, List.set_cons_succ])
      refine wpAnyH_done (by kernel_rfl) ?_ _
      go_wp2_with fail
      go_ret
      exact ⟨rfl, hHeld.2.2.2.1⟩
    · have hP := hHeld.2.2.2
      have zA := hHeld.2.2.2.size
      have hA := hHeld.2.2.2.alloc zA (.cells #[.int .i64 0, .int .i64 0, .string ⟨#[]⟩] 23)
      go_simp
      refine hK.out _ _ ?_ (fun hHeld2 => ?_)
      · exact HM2.out _ hA
      clear hK K hHeld
      have hHeld := hHeld2
      clear hHeld2
      try simp only [Array.reduceGetElem, Act.put, List.setIfInBounds_toArray, List.set_cons_zero, List.set_cons_succ]
      refine wpAnyH_ready (rs := [3]) (by kernel_rfl) (by simp) ?_
      refine AllReadyH.cons rfl (fun K hK => ?_) AllReadyH.nil
      go_simp
      go_at_call 17
      refine (HB.out _).mono ?_
      rintro e x2 ⟨rfl, hbx2⟩
      go_wp2_with fail
      refine hK.out _ _ ?_ (fun hHeld2 => ?_)
      · exact HM2.out _ (two hHeld.2.2.2 hbx2)
      clear hK K hHeld
      have hHeld := hHeld2
      clear hHeld2
      try simp only [Array.reduceGetElem, Act.put, List.setIfInBounds_toArray, List.set_cons_zero, List.set_cons_succ]
      refine wpAnyH_take (i := 4) (v := ?v28y4) rfl (by kernel_rfl) (by kernel_rfl) (by kernel_rfl) (fun _ _ _ h => h) (Or.inl ⟨by rfl, ?hy28y4⟩) hHeld ?rest28y4
      case hy28y4 => (intro w hSw; (try dsimp only at hSw); go_simp <;> with_reducible rfl)
      try simp only [Array.reduceGetElem, Act.put, List.setIfInBounds_toArray, List.set_cons_zero, List.set_cons_succ]
      refine wpAnyH_take (i := 5) (v := ?v29y5) rfl (by kernel_rfl) (by kernel_rfl) (by kernel_rfl) (fun _ _ _ h => h) (Or.inl ⟨by rfl, ?hy29y5⟩) hHeld ?rest29y5
      case hy29y5 => (intro w hSw; (try dsimp only at hSw); go_simp <;> with_reducible rfl)
      try simp only [Array.reduceGetElem, Act.put, List.setIfInBounds_toArray, List.set_cons_zero, List.set_cons_succ]
      refine wpAnyH_take (i := 6) (v := ?v30y6) rfl (by kernel_rfl) (by kernel_rfl) (by kernel_rfl) (fun _ _ _ h => h) (Or.inl ⟨by rfl, ?hy30y6⟩) hHeld ?rest30y6
      case hy30y6 => (intro w hSw; (try dsimp only at hSw); go_simp <;> with_reducible rfl)
      try simp only [Array.reduceGetElem, Act.put, List.setIfInBounds_toArray, List.set_cons_zero, List.set_cons_succ]
      have k0 := box (hbx2) (by simp) 0
      have k1 := box (hbx2) (by simp) 1
      have k2 := box (hbx2) (by simp) 2
      have q0 := boxf (hbx2) (by simp) 0
      have q1 := boxf (hbx2) (by simp) 1
      have q2 := boxf (hbx2) (by simp) 2
      have zx := (hbx2).size
      simp only [World.size_alloc] at zx
      simp only [List.getElem?_toArray, List.getElem?_cons_zero, List.getElem?_cons_succ] at k0 k1 k2
      refine wpAnyH_ready (rs := [8]) (by kernel_rfl) (by simp) ?_
      refine AllReadyH.cons rfl (fun K hK => ?_) AllReadyH.nil
      have hQ := hHeld.2.2.2
      go_simp
      refine hK.out _ _ ?_ (fun hHeld2 => ?_)
      · exact HM2.out _ (by go_grown)
      clear hK K hHeld
      have hHeld := hHeld2
      clear hHeld2
      try simp only [Array.reduceGetElem, Act.put, List.setIfInBounds_toArray, List.set_cons_zero, List.set_cons_succ]
      refine wpAnyH_take (i := 9) (v := ?v31y9) rfl (by kernel_rfl) (by kernel_rfl) (by kernel_rfl) (fun _ _ _ h => h) (Or.inl ⟨by rfl, ?hy31y9⟩) hHeld ?rest31y9
      case hy31y9 => (intro w hSw; (try dsimp only at hSw); go_simp <;> with_reducible rfl)
      try simp only [Array.reduceGetElem, Act.put, List.setIfInBounds_toArray, List.set_cons_zero, List.set_cons_succ]
      refine wpAnyH_done (by kernel_rfl) ?_ _
      go_wp2_with fail
      refine wp_region_held_drew (S := (fun W => W.cell? ⟨x1.heap.size, 0, none⟩ = some (.int .i64 1) ∧ W.cell? ⟨x1.heap.size, 1, none⟩ = some (.int .i64 a) ∧ W.cell? ⟨x1.heap.size, 2, none⟩ = some (.string ⟨#[]⟩) ∧ Below w.heap.size w W ∧ x1.heap.size < W.heap.size)) (by kernel_rfl) (by exact ⟨(set3 _ _ _ k0 k1 k2).1, (set3 _ _ _ k0 k1 k2).2.1, (set3 _ _ _ k0 k1 k2).2.2, Below.drew (two hk hHeld.2.2.2), by simp; omega⟩) (fun hHeld => ?_)
      first
      | (refine wpAnyH_take (i := 0) (v := ?v32x0) rfl (by kernel_rfl) (by kernel_rfl) (by kernel_rfl) (fun _ _ _ h => h) (Or.inl ⟨by rfl, ?hy32x0⟩) hHeld ?rest32x0
         case hy32x0 => (intro w hSw; (try dsimp only at hSw); go_simp <;> with_reducible rfl)
         try simp only [Array.reduceGetElem, Act.put, List.setIfInBounds_toArray, List.set_cons_zero, List.set_cons_succ])
      | (refine wpAnyH_take (i := 0) rfl (by kernel_rfl) (by kernel_rfl) (by kernel_rfl) (fun _ _ _ h => h) (Or.inr ⟨by rfl, rfl⟩) hHeld ?rest32x0
         try simp only [Array.reduceGetElem, Act.put, List.setIfInBounds_toArray, List.set_cons_zero, List.set_cons_succ])
      first
      | (refine wpAnyH_take (i := 1) (v := ?v32x1) rfl (by kernel_rfl) (by kernel_rfl) (by kernel_rfl) (fun _ _ _ h => h) (Or.inl ⟨by rfl, ?hy32x1⟩) hHeld ?rest32x1
         case hy32x1 => (intro w hSw; (try dsimp only at hSw); go_simp <;> with_reducible rfl)
         try simp only [Array.reduceGetElem, Act.put, List.setIfInBounds_toArray, List.set_cons_zero, List.set_cons_succ])
      | (refine wpAnyH_take (i := 1) rfl (by kernel_rfl) (by kernel_rfl) (by kernel_rfl) (fun _ _ _ h => h) (Or.inr ⟨by rfl, rfl⟩) hHeld ?rest32x1
         try simp only [Array.reduceGetElem, Act.put, List.setIfInBounds_toArray, List.set_cons_zero, List.set_cons_succ])
      first
      | (refine wpAnyH_take (i := 2) (v := ?v32x2) rfl (by kernel_rfl) (by kernel_rfl) (by kernel_rfl) (fun _ _ _ h => h) (Or.inl ⟨by rfl, ?hy32x2⟩) hHeld ?rest32x2
         case hy32x2 => (intro w hSw; (try dsimp only at hSw); go_simp <;> with_reducible rfl)
         try simp only [Array.reduceGetElem, Act.put, List.setIfInBounds_toArray, List.set_cons_zero, List.set_cons_succ])
      | (refine wpAnyH_take (i := 2) rfl (by kernel_rfl) (by kernel_rfl) (by kernel_rfl) (fun _ _ _ h => h) (Or.inr ⟨by rfl, rfl⟩) hHeld ?rest32x2
         try simp only [Array.reduceGetElem, Act.put, List.setIfInBounds_toArray, List.set_cons_zero, List.set_cons_succ])
      first
      | (refine wpAnyH_take (i := 3) (v := ?v32x3) rfl (by kernel_rfl) (by kernel_rfl) (by kernel_rfl) (fun _ _ _ h => h) (Or.inl ⟨by rfl, ?hy32x3⟩) hHeld ?rest32x3
         case hy32x3 => (intro w hSw; (try dsimp only at hSw); go_simp <;> with_reducible rfl)
         try simp only [Array.reduceGetElem, Act.put, List.setIfInBounds_toArray, List.set_cons_zero, List.set_cons_succ])
      | (refine wpAnyH_take (i := 3) rfl (by kernel_rfl) (by kernel_rfl) (by kernel_rfl) (fun _ _ _ h => h) (Or.inr ⟨by rfl, rfl⟩) hHeld ?rest32x3
         try simp only [Array.reduceGetElem, Act.put, List.setIfInBounds_toArray, List.set_cons_zero, List.set_cons_succ])
      first
      | (refine wpAnyH_take (i := 4) (v := ?v32x4) rfl (by kernel_rfl) (by kernel_rfl) (by kernel_rfl) (fun _ _ _ h => h) (Or.inl ⟨by rfl, ?hy32x4⟩) hHeld ?rest32x4
         case hy32x4 => (intro w hSw; (try dsimp only at hSw); go_simp <;> with_reducible rfl)
         try simp only [Array.reduceGetElem, Act.put, List.setIfInBounds_toArray, List.set_cons_zero, List.set_cons_succ])
      | (refine wpAnyH_take (i := 4) rfl (by kernel_rfl) (by kernel_rfl) (by kernel_rfl) (fun _ _ _ h => h) (Or.inr ⟨by rfl, rfl⟩) hHeld ?rest32x4
         try simp only [Array.reduceGetElem, Act.put, List.setIfInBounds_toArray, List.set_cons_zero, List.set_cons_succ])
      refine wpAnyH_ready (rs := [5]) (by kernel_rfl) (by simp) ?_
      refine AllReadyH.cons rfl (fun K hK => ?_) AllReadyH.nil
      go_simp
      go_at_call 13; refine (of_any _ _).mono ?_; rintro e y1 ⟨rfl, hb⟩; go_wp2_with fail
      refine hK.out _ _ ?_ (fun hHeld2 => ?_)
      · exact ⟨(hb.cell (by exact hHeld.2.2.2.2)).trans hHeld.1, (hb.cell (by exact hHeld.2.2.2.2)).trans hHeld.2.1, (hb.cell (by exact hHeld.2.2.2.2)).trans hHeld.2.2.1, two hHeld.2.2.2.1 hb, Nat.lt_of_lt_of_le hHeld.2.2.2.2 hb.size⟩
      clear hK K hHeld
      have hHeld := hHeld2
      clear hHeld2
      try simp only [Array.reduceGetElem, Act.put, List.setIfInBounds_toArray, List.set_cons_zero, List.set_cons_succ]
      first
      | (refine wpAnyH_take (i := 6) (v := ?v32x6) rfl (by kernel_rfl) (by kernel_rfl) (by kernel_rfl) (fun _ _ _ h => h) (Or.inl ⟨by rfl, ?hy32x6⟩) hHeld ?rest32x6
         case hy32x6 => (intro w hSw; (try dsimp only at hSw); go_simp <;> with_reducible rfl)
         try simp only [Array.reduceGetElem, Act.put, List.setIfInBounds_toArray, List.set_cons_zero, List.set_cons_succ])
      | (refine wpAnyH_take (i := 6) rfl (by kernel_rfl) (by kernel_rfl) (by kernel_rfl) (fun _ _ _ h => h) (Or.inr ⟨by rfl, rfl⟩) hHeld ?rest32x6
         try simp only [Array.reduceGetElem, Act.put, List.setIfInBounds_toArray, List.set_cons_zero, List.set_cons_succ])
      first
      | (refine wpAnyH_take (i := 7) (v := ?v32x7) rfl (by kernel_rfl) (by kernel_rfl) (by kernel_rfl) (fun _ _ _ h => h) (Or.inl ⟨by rfl, ?hy32x7⟩) hHeld ?rest32x7
         case hy32x7 => (intro w hSw; (try dsimp only at hSw); go_simp <;> with_reducible rfl)
         try simp only [Array.reduceGetElem, Act.put, List.setIfInBounds_toArray, List.set_cons_zero, List.set_cons_succ])
      | (refine wpAnyH_take (i := 7) rfl (by kernel_rfl) (by kernel_rfl) (by kernel_rfl) (fun _ _ _ h => h) (Or.inr ⟨by rfl, rfl⟩) hHeld ?rest32x7
         try simp only [Array.reduceGetElem, Act.put, List.setIfInBounds_toArray, List.set_cons_zero, List.set_cons_succ])
      first
      | (refine wpAnyH_take (i := 8) (v := ?v32x8) rfl (by kernel_rfl) (by kernel_rfl) (by kernel_rfl) (fun _ _ _ h => h) (Or.inl ⟨by rfl, ?hy32x8⟩) hHeld ?rest32x8
         case hy32x8 => (intro w hSw; (try dsimp only at hSw); go_simp <;> with_reducible rfl)
         try simp only [Array.reduceGetElem, Act.put, List.setIfInBounds_toArray, List.set_cons_zero, List.set_cons_succ])
      | (refine wpAnyH_take (i := 8) rfl (by kernel_rfl) (by kernel_rfl) (by kernel_rfl) (fun _ _ _ h => h) (Or.inr ⟨by rfl, rfl⟩) hHeld ?rest32x8
         try simp only [Array.reduceGetElem, Act.put, List.setIfInBounds_toArray, List.set_cons_zero, List.set_cons_succ])
      refine wpAnyH_ready (rs := [9]) (by kernel_rfl) (by simp) ?_
      refine AllReadyH.cons rfl (fun K hK => ?_) AllReadyH.nil
      go_simp
      go_at_call 16; refine (awake_any _ (HE.out.below hHeld.2.2.2.1)).mono ?_; rintro e y2 ⟨rfl, hb⟩; go_wp2_with fail
      refine hK.out _ _ ?_ (fun hHeld2 => ?_)
      · exact ⟨(hb.cell (by exact hHeld.2.2.2.2)).trans hHeld.1, (hb.cell (by exact hHeld.2.2.2.2)).trans hHeld.2.1, (hb.cell (by exact hHeld.2.2.2.2)).trans hHeld.2.2.1, two hHeld.2.2.2.1 hb, Nat.lt_of_lt_of_le hHeld.2.2.2.2 hb.size⟩
      clear hK K hHeld
      have hHeld := hHeld2
      clear hHeld2
      try simp only [Array.reduceGetElem, Act.put, List.setIfInBounds_toArray, List.set_cons_zero, List.set_cons_succ]
      first
      | (refine wpAnyH_take (i := 10) (v := ?v32x10) rfl (by kernel_rfl) (by kernel_rfl) (by kernel_rfl) (fun _ _ _ h => h) (Or.inl ⟨by rfl, ?hy32x10⟩) hHeld ?rest32x10
         case hy32x10 => (intro w hSw; (try dsimp only at hSw); go_simp <;> with_reducible rfl)
         try simp only [Array.reduceGetElem, Act.put, List.setIfInBounds_toArray, List.set_cons_zero, List.set_cons_succ])
      | (refine wpAnyH_take (i := 10) rfl (by kernel_rfl) (by kernel_rfl) (by kernel_rfl) (fun _ _ _ h => h) (Or.inr ⟨by rfl, rfl⟩) hHeld ?rest32x10
         try simp only [Array.reduceGetElem, Act.put, List.setIfInBounds_toArray, List.set_cons_zero, List.set_cons_succ])
      first
      | (refine wpAnyH_take (i := 11) (v := ?v32x11) rfl (by kernel_rfl) (by kernel_rfl) (by kernel_rfl) (fun _ _ _ h => h) (Or.inl ⟨by rfl, ?hy32x11⟩) hHeld ?rest32x11
         case hy32x11 => (intro w hSw; (try dsimp only at hSw); go_simp <;> with_reducible rfl)
         try simp only [Array.reduceGetElem, Act.put, List.setIfInBounds_toArray, List.set_cons_zero, List.set_cons_succ])
      | (refine wpAnyH_take (i := 11) rfl (by kernel_rfl) (by kernel_rfl) (by kernel_rfl) (fun _ _ _ h => h) (Or.inr ⟨by rfl, rfl⟩) hHeld ?rest32x11
         try simp only [Array.reduceGetElem, Act.put, List.setIfInBounds_toArray, List.set_cons_zero, List.set_cons_succ])
      refine wpAnyH_done (by kernel_rfl) ?_ _
      go_wp2_with fail
      go_ret
      exact ⟨rfl, hHeld.2.2.2.1⟩
  · have hP := hHeld.2.2.2
    have zA := hHeld.2.2.2.size
    have hA := hHeld.2.2.2.alloc zA (.cells #[.int .i64 0, .int .i64 0, .string ⟨#[]⟩] 23)
    go_simp
    refine hK.out _ _ ?_ (fun hHeld2 => ?_)
    · exact HM2.out _ hA
    clear hK K hHeld
    have hHeld := hHeld2
    clear hHeld2
    try simp only [Array.reduceGetElem, Act.put, List.setIfInBounds_toArray, List.set_cons_zero, List.set_cons_succ]
    refine wpAnyH_ready (rs := [2]) (by kernel_rfl) (by simp) ?_
    refine AllReadyH.cons rfl (fun K hK => ?_) AllReadyH.nil
    go_simp
    go_at_call 13
    refine (of_any _ _).mono ?_
    rintro e x1 ⟨rfl, hbx1⟩
    go_wp2_with fail
    refine hK.out _ _ ?_ (fun hHeld2 => ?_)
    · exact HM2.out _ (two hHeld.2.2.2 hbx1)
    clear hK K hHeld
    have hHeld := hHeld2
    clear hHeld2
    try simp only [Array.reduceGetElem, Act.put, List.setIfInBounds_toArray, List.set_cons_zero, List.set_cons_succ]
    refine wpAnyH_ready (rs := [3]) (by kernel_rfl) (by simp) ?_
    refine AllReadyH.cons rfl (fun K hK => ?_) AllReadyH.nil
    go_simp
    go_at_call 17
    refine (HB.out _).mono ?_
    rintro e x2 ⟨rfl, hbx2⟩
    go_wp2_with fail
    refine hK.out _ _ ?_ (fun hHeld2 => ?_)
    · exact HM2.out _ (two hHeld.2.2.2 hbx2)
    clear hK K hHeld
    have hHeld := hHeld2
    clear hHeld2
    try simp only [Array.reduceGetElem, Act.put, List.setIfInBounds_toArray, List.set_cons_zero, List.set_cons_succ]
    refine wpAnyH_take (i := 4) (v := ?v33y4) rfl (by kernel_rfl) (by kernel_rfl) (by kernel_rfl) (fun _ _ _ h => h) (Or.inl ⟨by rfl, ?hy33y4⟩) hHeld ?rest33y4
    case hy33y4 => (intro w hSw; (try dsimp only at hSw); go_simp <;> with_reducible rfl)
    try simp only [Array.reduceGetElem, Act.put, List.setIfInBounds_toArray, List.set_cons_zero, List.set_cons_succ]
    refine wpAnyH_take (i := 5) (v := ?v34y5) rfl (by kernel_rfl) (by kernel_rfl) (by kernel_rfl) (fun _ _ _ h => h) (Or.inl ⟨by rfl, ?hy34y5⟩) hHeld ?rest34y5
    case hy34y5 => (intro w hSw; (try dsimp only at hSw); go_simp <;> with_reducible rfl)
    try simp only [Array.reduceGetElem, Act.put, List.setIfInBounds_toArray, List.set_cons_zero, List.set_cons_succ]
    refine wpAnyH_take (i := 6) (v := ?v35y6) rfl (by kernel_rfl) (by kernel_rfl) (by kernel_rfl) (fun _ _ _ h => h) (Or.inl ⟨by rfl, ?hy35y6⟩) hHeld ?rest35y6
    case hy35y6 => (intro w hSw; (try dsimp only at hSw); go_simp <;> with_reducible rfl)
    try simp only [Array.reduceGetElem, Act.put, List.setIfInBounds_toArray, List.set_cons_zero, List.set_cons_succ]
    have k0 := box (two (undrew hbx1) hbx2) (by simp) 0
    have k1 := box (two (undrew hbx1) hbx2) (by simp) 1
    have k2 := box (two (undrew hbx1) hbx2) (by simp) 2
    have q0 := boxf (two (undrew hbx1) hbx2) (by simp) 0
    have q1 := boxf (two (undrew hbx1) hbx2) (by simp) 1
    have q2 := boxf (two (undrew hbx1) hbx2) (by simp) 2
    have zx := (two (undrew hbx1) hbx2).size
    simp only [World.size_alloc] at zx
    simp only [List.getElem?_toArray, List.getElem?_cons_zero, List.getElem?_cons_succ] at k0 k1 k2
    refine wpAnyH_ready (rs := [8]) (by kernel_rfl) (by simp) ?_
    refine AllReadyH.cons rfl (fun K hK => ?_) AllReadyH.nil
    have hQ := hHeld.2.2.2
    go_simp
    refine hK.out _ _ ?_ (fun hHeld2 => ?_)
    · exact HM2.out _ (by go_grown)
    clear hK K hHeld
    have hHeld := hHeld2
    clear hHeld2
    try simp only [Array.reduceGetElem, Act.put, List.setIfInBounds_toArray, List.set_cons_zero, List.set_cons_succ]
    refine wpAnyH_take (i := 9) (v := ?v36y9) rfl (by kernel_rfl) (by kernel_rfl) (by kernel_rfl) (fun _ _ _ h => h) (Or.inl ⟨by rfl, ?hy36y9⟩) hHeld ?rest36y9
    case hy36y9 => (intro w hSw; (try dsimp only at hSw); go_simp <;> with_reducible rfl)
    try simp only [Array.reduceGetElem, Act.put, List.setIfInBounds_toArray, List.set_cons_zero, List.set_cons_succ]
    refine wpAnyH_done (by kernel_rfl) ?_ _
    go_wp2_with fail
    refine wp_region_held_drew (S := (fun W => W.cell? ⟨w8.heap.size, 0, none⟩ = some (.int .i64 1) ∧ W.cell? ⟨w8.heap.size, 1, none⟩ = some (.int .i64 a) ∧ W.cell? ⟨w8.heap.size, 2, none⟩ = some (.string ⟨#[]⟩) ∧ Below w.heap.size w W ∧ w8.heap.size < W.heap.size)) (by kernel_rfl) (by exact ⟨(set3 _ _ _ k0 k1 k2).1, (set3 _ _ _ k0 k1 k2).2.1, (set3 _ _ _ k0 k1 k2).2.2, Below.drew (two hk hHeld.2.2.2), by simp; omega⟩) (fun hHeld => ?_)
    first
    | (refine wpAnyH_take (i := 0) (v := ?v37x0) rfl (by kernel_rfl) (by kernel_rfl) (by kernel_rfl) (fun _ _ _ h => h) (Or.inl ⟨by rfl, ?hy37x0⟩) hHeld ?rest37x0
       case hy37x0 => (intro w hSw; (try dsimp only at hSw); go_simp <;> with_reducible rfl)
       try simp only [Array.reduceGetElem, Act.put, List.setIfInBounds_toArray, List.set_cons_zero, List.set_cons_succ])
    | (refine wpAnyH_take (i := 0) rfl (by kernel_rfl) (by kernel_rfl) (by kernel_rfl) (fun _ _ _ h => h) (Or.inr ⟨by rfl, rfl⟩) hHeld ?rest37x0
       try simp only [Array.reduceGetElem, Act.put, List.setIfInBounds_toArray, List.set_cons_zero, List.set_cons_succ])
    first
    | (refine wpAnyH_take (i := 1) (v := ?v37x1) rfl (by kernel_rfl) (by kernel_rfl) (by kernel_rfl) (fun _ _ _ h => h) (Or.inl ⟨by rfl, ?hy37x1⟩) hHeld ?rest37x1
       case hy37x1 => (intro w hSw; (try dsimp only at hSw); go_simp <;> with_reducible rfl)
       try simp only [Array.reduceGetElem, Act.put, List.setIfInBounds_toArray, List.set_cons_zero, List.set_cons_succ])
    | (refine wpAnyH_take (i := 1) rfl (by kernel_rfl) (by kernel_rfl) (by kernel_rfl) (fun _ _ _ h => h) (Or.inr ⟨by rfl, rfl⟩) hHeld ?rest37x1
       try simp only [Array.reduceGetElem, Act.put, List.setIfInBounds_toArray, List.set_cons_zero, List.set_cons_succ])
    first
    | (refine wpAnyH_take (i := 2) (v := ?v37x2) rfl (by kernel_rfl) (by kernel_rfl) (by kernel_rfl) (fun _ _ _ h => h) (Or.inl ⟨by rfl, ?hy37x2⟩) hHeld ?rest37x2
       case hy37x2 => (intro w hSw; (try dsimp only at hSw); go_simp <;> with_reducible rfl)
       try simp only [Array.reduceGetElem, Act.put, List.setIfInBounds_toArray, List.set_cons_zero, List.set_cons_succ])
    | (refine wpAnyH_take (i := 2) rfl (by kernel_rfl) (by kernel_rfl) (by kernel_rfl) (fun _ _ _ h => h) (Or.inr ⟨by rfl, rfl⟩) hHeld ?rest37x2
       try simp only [Array.reduceGetElem, Act.put, List.setIfInBounds_toArray, List.set_cons_zero, List.set_cons_succ])
    first
    | (refine wpAnyH_take (i := 3) (v := ?v37x3) rfl (by kernel_rfl) (by kernel_rfl) (by kernel_rfl) (fun _ _ _ h => h) (Or.inl ⟨by rfl, ?hy37x3⟩) hHeld ?rest37x3
       case hy37x3 => (intro w hSw; (try dsimp only at hSw); go_simp <;> with_reducible rfl)
       try simp only [Array.reduceGetElem, Act.put, List.setIfInBounds_toArray, List.set_cons_zero, List.set_cons_succ])
    | (refine wpAnyH_take (i := 3) rfl (by kernel_rfl) (by kernel_rfl) (by kernel_rfl) (fun _ _ _ h => h) (Or.inr ⟨by rfl, rfl⟩) hHeld ?rest37x3
       try simp only [Array.reduceGetElem, Act.put, List.setIfInBounds_toArray, List.set_cons_zero, List.set_cons_succ])
    first
    | (refine wpAnyH_take (i := 4) (v := ?v37x4) rfl (by kernel_rfl) (by kernel_rfl) (by kernel_rfl) (fun _ _ _ h => h) (Or.inl ⟨by rfl, ?hy37x4⟩) hHeld ?rest37x4
       case hy37x4 => (intro w hSw; (try dsimp only at hSw); go_simp <;> with_reducible rfl)
       try simp only [Array.reduceGetElem, Act.put, List.setIfInBounds_toArray, List.set_cons_zero, List.set_cons_succ])
    | (refine wpAnyH_take (i := 4) rfl (by kernel_rfl) (by kernel_rfl) (by kernel_rfl) (fun _ _ _ h => h) (Or.inr ⟨by rfl, rfl⟩) hHeld ?rest37x4
       try simp only [Array.reduceGetElem, Act.put, List.setIfInBounds_toArray, List.set_cons_zero, List.set_cons_succ])
    refine wpAnyH_ready (rs := [5]) (by kernel_rfl) (by simp) ?_
    refine AllReadyH.cons rfl (fun K hK => ?_) AllReadyH.nil
    go_simp
    go_at_call 13; refine (of_any _ _).mono ?_; rintro e y1 ⟨rfl, hb⟩; go_wp2_with fail
    refine hK.out _ _ ?_ (fun hHeld2 => ?_)
    · exact ⟨(hb.cell (by exact hHeld.2.2.2.2)).trans hHeld.1, (hb.cell (by exact hHeld.2.2.2.2)).trans hHeld.2.1, (hb.cell (by exact hHeld.2.2.2.2)).trans hHeld.2.2.1, two hHeld.2.2.2.1 hb, Nat.lt_of_lt_of_le hHeld.2.2.2.2 hb.size⟩
    clear hK K hHeld
    have hHeld := hHeld2
    clear hHeld2
    try simp only [Array.reduceGetElem, Act.put, List.setIfInBounds_toArray, List.set_cons_zero, List.set_cons_succ]
    first
    | (refine wpAnyH_take (i := 6) (v := ?v37x6) rfl (by kernel_rfl) (by kernel_rfl) (by kernel_rfl) (fun _ _ _ h => h) (Or.inl ⟨by rfl, ?hy37x6⟩) hHeld ?rest37x6
       case hy37x6 => (intro w hSw; (try dsimp only at hSw); go_simp <;> with_reducible rfl)
       try simp only [Array.reduceGetElem, Act.put, List.setIfInBounds_toArray, List.set_cons_zero, List.set_cons_succ])
    | (refine wpAnyH_take (i := 6) rfl (by kernel_rfl) (by kernel_rfl) (by kernel_rfl) (fun _ _ _ h => h) (Or.inr ⟨by rfl, rfl⟩) hHeld ?rest37x6
       try simp only [Array.reduceGetElem, Act.put, List.setIfInBounds_toArray, List.set_cons_zero, List.set_cons_succ])
    first
    | (refine wpAnyH_take (i := 7) (v := ?v37x7) rfl (by kernel_rfl) (by kernel_rfl) (by kernel_rfl) (fun _ _ _ h => h) (Or.inl ⟨by rfl, ?hy37x7⟩) hHeld ?rest37x7
       case hy37x7 => (intro w hSw; (try dsimp only at hSw); go_simp <;> with_reducible rfl)
       try simp only [Array.reduceGetElem, Act.put, List.setIfInBounds_toArray, List.set_cons_zero, List.set_cons_succ])
    | (refine wpAnyH_take (i := 7) rfl (by kernel_rfl) (by kernel_rfl) (by kernel_rfl) (fun _ _ _ h => h) (Or.inr ⟨by rfl, rfl⟩) hHeld ?rest37x7
       try simp only [Array.reduceGetElem, Act.put, List.setIfInBounds_toArray, List.set_cons_zero, List.set_cons_succ])
    first
    | (refine wpAnyH_take (i := 8) (v := ?v37x8) rfl (by kernel_rfl) (by kernel_rfl) (by kernel_rfl) (fun _ _ _ h => h) (Or.inl ⟨by rfl, ?hy37x8⟩) hHeld ?rest37x8
       case hy37x8 => (intro w hSw; (try dsimp only at hSw); go_simp <;> with_reducible rfl)
       try simp only [Array.reduceGetElem, Act.put, List.setIfInBounds_toArray, List.set_cons_zero, List.set_cons_succ])
    | (refine wpAnyH_take (i := 8) rfl (by kernel_rfl) (by kernel_rfl) (by kernel_rfl) (fun _ _ _ h => h) (Or.inr ⟨by rfl, rfl⟩) hHeld ?rest37x8
       try simp only [Array.reduceGetElem, Act.put, List.setIfInBounds_toArray, List.set_cons_zero, List.set_cons_succ])
    refine wpAnyH_ready (rs := [9]) (by kernel_rfl) (by simp) ?_
    refine AllReadyH.cons rfl (fun K hK => ?_) AllReadyH.nil
    go_simp
    go_at_call 16; refine (awake_any _ (HE.out.below hHeld.2.2.2.1)).mono ?_; rintro e y2 ⟨rfl, hb⟩; go_wp2_with fail
    refine hK.out _ _ ?_ (fun hHeld2 => ?_)
    · exact ⟨(hb.cell (by exact hHeld.2.2.2.2)).trans hHeld.1, (hb.cell (by exact hHeld.2.2.2.2)).trans hHeld.2.1, (hb.cell (by exact hHeld.2.2.2.2)).trans hHeld.2.2.1, two hHeld.2.2.2.1 hb, Nat.lt_of_lt_of_le hHeld.2.2.2.2 hb.size⟩
    clear hK K hHeld
    have hHeld := hHeld2
    clear hHeld2
    try simp only [Array.reduceGetElem, Act.put, List.setIfInBounds_toArray, List.set_cons_zero, List.set_cons_succ]
    first
    | (refine wpAnyH_take (i := 10) (v := ?v37x10) rfl (by kernel_rfl) (by kernel_rfl) (by kernel_rfl) (fun _ _ _ h => h) (Or.inl ⟨by rfl, ?hy37x10⟩) hHeld ?rest37x10
       case hy37x10 => (intro w hSw; (try dsimp only at hSw); go_simp <;> with_reducible rfl)
       try simp only [Array.reduceGetElem, Act.put, List.setIfInBounds_toArray, List.set_cons_zero, List.set_cons_succ])
    | (refine wpAnyH_take (i := 10) rfl (by kernel_rfl) (by kernel_rfl) (by kernel_rfl) (fun _ _ _ h => h) (Or.inr ⟨by rfl, rfl⟩) hHeld ?rest37x10
       try simp only [Array.reduceGetElem, Act.put, List.setIfInBounds_toArray, List.set_cons_zero, List.set_cons_succ])
    first
    | (refine wpAnyH_take (i := 11) (v := ?v37x11) rfl (by kernel_rfl) (by kernel_rfl) (by kernel_rfl) (fun _ _ _ h => h) (Or.inl ⟨by rfl, ?hy37x11⟩) hHeld ?rest37x11
       case hy37x11 => (intro w hSw; (try dsimp only at hSw); go_simp <;> with_reducible rfl)
       try simp only [Array.reduceGetElem, Act.put, List.setIfInBounds_toArray, List.set_cons_zero, List.set_cons_succ])
    | (refine wpAnyH_take (i := 11) rfl (by kernel_rfl) (by kernel_rfl) (by kernel_rfl) (fun _ _ _ h => h) (Or.inr ⟨by rfl, rfl⟩) hHeld ?rest37x11
       try simp only [Array.reduceGetElem, Act.put, List.setIfInBounds_toArray, List.set_cons_zero, List.set_cons_succ])
    refine wpAnyH_done (by kernel_rfl) ?_ _
    go_wp2_with fail
    go_ret
    exact ⟨rfl, hHeld.2.2.2.1⟩

set_option maxRecDepth 100000 in
set_option maxHeartbeats 1600000 in
theorem sums_pu (a b : Int) (w : World) (a0 : -9223372036854775808 ≤ a) (a1 : a ≤ 9223372036854775807) (b0 : -9223372036854775808 ≤ b) (b1 : b ≤ 9223372036854775807) (hb : 0 < b) (ho : a + b ≤ 9223372036854775807) (hu : a - b < -9223372036854775808) (hE : Env w) :
    Calls Tryd.prog 4 #[.int .i64 a, .int .i64 b] w fun e w' => e = .returned (.bool true) ∧ Below w.heap.size w w' := by
  have HE := Lib.hid hE
  clear hE
  have HA : Hid (Numbers 43 1 a ⟨#[]⟩ 1 b ⟨#[]⟩ (a + b)) := arith_ok 43 1 a ⟨#[]⟩ 1 b ⟨#[]⟩ _ (by decide) (by decide) (.inl rfl) (by decide) (by decide) (by decide) (by decide) (fun _ => ⟨by decide, by decide⟩) (add_ok ⟨a0, a1⟩ ⟨b0, b1⟩ (by unfold In64; omega))
  have HS : Hid (Refused 45 1 a ⟨#[]⟩ 1 b ⟨#[]⟩ 10) := arith_no 45 1 a ⟨#[]⟩ 1 b ⟨#[]⟩ _ (by decide) (by decide) (.inr (.inl rfl)) (by decide) (by decide) (by decide) (by decide) (fun _ => ⟨by decide, by decide⟩) (sub_no ⟨a0, a1⟩ ⟨b0, b1⟩ (by unfold In64; omega))
  have HB : Hid (Numbers 45 1 (a + b) ⟨#[]⟩ 1 b ⟨#[]⟩ a) := arith_ok 45 1 (a + b) ⟨#[]⟩ 1 b ⟨#[]⟩ _ (by decide) (by decide) (.inr (.inl rfl)) (by decide) (by decide) (by decide) (by decide) (fun _ => ⟨by decide, by decide⟩) (by have := sub_ok (a := a + b) (b := b) ⟨by omega, by omega⟩ ⟨b0, b1⟩ (by unfold In64; omega); rwa [show a + b - b = a by omega] at this)
  go_enter Tryd.func4, Tryd.ntmps4
  go_wp2_with fail
  refine (of_any a _).mono ?_
  rintro e w1 ⟨rfl, bb1⟩
  go_wp2_with fail
  refine (of_any b _).mono ?_
  rintro e w2 ⟨rfl, hb⟩
  have bb2 := two bb1 hb
  clear hb
  go_wp2_with fail
  refine (HA.out _).mono ?_
  rintro e w3 ⟨rfl, hb⟩
  have bb3 := two bb2 hb
  have z3 := bb3.size
  clear hb
  go_wp2_with fail
  refine (of_any a _).mono ?_
  rintro e w4 ⟨rfl, hb4⟩
  go_wp2_with fail
  refine (of_any b _).mono ?_
  rintro e w5 ⟨rfl, hb⟩
  have hb5 := two hb4 hb
  clear hb
  go_wp2_with fail
  refine (HS.out _).mono ?_
  rintro e w6 ⟨rfl, hb⟩
  have hb6 := two hb5 hb
  clear hb hb4 hb5
  have z6 := hb6.size
  simp only [World.size_alloc] at z6
  have zz : w3.heap.size < w6.heap.size := by omega
  have c0 : w6.cell? ⟨w3.heap.size, 0, none⟩ = some (.int .i64 1) := box hb6 (by simp) 0
  have c1 : w6.cell? ⟨w3.heap.size, 1, none⟩ = some (.int .i64 (a + b)) := box hb6 (by simp) 1
  have c2 : w6.cell? ⟨w3.heap.size, 2, none⟩ = some (.string ⟨#[]⟩) := box hb6 (by simp) 2
  have bb6 := next (w := w) (B := w.heap.size) (bb3.alloc z3 _) hb6 (Nat.le_refl _)
  have z66 := bb6.size
  have b7 : Below w.heap.size w (w6.alloc (.cells #[.int .i64 0, .int .i64 0, .string ⟨#[]⟩] 23)) := bb6.alloc z66 _
  have hd6 : Below w6.heap.size w6 (w6.alloc (.cells #[.int .i64 0, .int .i64 0, .string ⟨#[]⟩] 23)) := by go_grown
  have HM : Hid (∀ W, Below (w6.alloc (.cells #[.int .i64 0, .int .i64 0, .string ⟨#[]⟩] 23)).heap.size (w6.alloc (.cells #[.int .i64 0, .int .i64 0, .string ⟨#[]⟩] 23)) W → W.cell? ⟨w3.heap.size, 0, none⟩ = some (.int .i64 1) ∧ W.cell? ⟨w3.heap.size, 1, none⟩ = some (.int .i64 (a + b)) ∧ W.cell? ⟨w3.heap.size, 2, none⟩ = some (.string ⟨#[]⟩) ∧ W.cell? ⟨w6.heap.size, 0, none⟩ = some (.int .i64 0) ∧ W.cell? ⟨w6.heap.size, 1, none⟩ = some (.int .i64 0) ∧ W.cell? ⟨w6.heap.size, 2, none⟩ = some (.string ⟨#[]⟩) ∧ Below (w6.alloc (.cells #[.int .i64 0, .int .i64 0, .string ⟨#[]⟩] 23)).heap.size (w6.alloc (.cells #[.int .i64 0, .int .i64 0, .string ⟨#[]⟩] 23)) W) := fun W h =>
    ⟨(h.cell (by simp; omega)).trans ((hd6.cell (by exact zz)).trans c0), (h.cell (by simp; omega)).trans ((hd6.cell (by exact zz)).trans c1), (h.cell (by simp; omega)).trans ((hd6.cell (by exact zz)).trans c2), (h.cell (by simp)).trans (by simp), (h.cell (by simp)).trans (by simp), (h.cell (by simp)).trans (by simp), h⟩
  have hwa : IntKind.i64.wrap (a + b) = a + b := IntWalk.i64_in _ (by omega)
  have hws : IntKind.i64.wrap (a - b) = wrap64 (a - b) := IntWalk.i64_left _
  clear hb6
  go_wp2_with fail
  refine wp_region_held_drew (S := (fun w' => w'.cell? ⟨w3.heap.size, 0, none⟩ = some (.int .i64 1) ∧ w'.cell? ⟨w3.heap.size, 1, none⟩ = some (.int .i64 (a + b)) ∧ w'.cell? ⟨w3.heap.size, 2, none⟩ = some (.string ⟨#[]⟩) ∧ w'.cell? ⟨w6.heap.size, 0, none⟩ = some (.int .i64 0) ∧ w'.cell? ⟨w6.heap.size, 1, none⟩ = some (.int .i64 0) ∧ w'.cell? ⟨w6.heap.size, 2, none⟩ = some (.string ⟨#[]⟩) ∧ Below (w6.alloc (.cells #[.int .i64 0, .int .i64 0, .string ⟨#[]⟩] 23)).heap.size (w6.alloc (.cells #[.int .i64 0, .int .i64 0, .string ⟨#[]⟩] 23)) w')) (by kernel_rfl) (by exact HM.out _ (Below.drew (by go_grown))) (fun hHeld => ?_)
  first
  | (refine wpAnyH_take (i := 0) (v := ?v2x0) rfl (by kernel_rfl) (by kernel_rfl) (by kernel_rfl) (fun _ _ _ h => h) (Or.inl ⟨by rfl, ?hy2x0⟩) hHeld ?rest2x0
     case hy2x0 => (intro w hSw; (try dsimp only at hSw); go_simp <;> with_reducible rfl)
     try simp only [Array.reduceGetElem, Act.put, List.setIfInBounds_toArray, List.set_cons_zero, List.set_cons_succ])
  | (refine wpAnyH_take (i := 0) rfl (by kernel_rfl) (by kernel_rfl) (by kernel_rfl) (fun _ _ _ h => h) (Or.inr ⟨by rfl, rfl⟩) hHeld ?rest2x0
     try simp only [Array.reduceGetElem, Act.put, List.setIfInBounds_toArray, List.set_cons_zero, List.set_cons_succ])
  first
  | (refine wpAnyH_take (i := 1) (v := ?v2x1) rfl (by kernel_rfl) (by kernel_rfl) (by kernel_rfl) (fun _ _ _ h => h) (Or.inl ⟨by rfl, ?hy2x1⟩) hHeld ?rest2x1
     case hy2x1 => (intro w hSw; (try dsimp only at hSw); go_simp <;> with_reducible rfl)
     try simp only [Array.reduceGetElem, Act.put, List.setIfInBounds_toArray, List.set_cons_zero, List.set_cons_succ])
  | (refine wpAnyH_take (i := 1) rfl (by kernel_rfl) (by kernel_rfl) (by kernel_rfl) (fun _ _ _ h => h) (Or.inr ⟨by rfl, rfl⟩) hHeld ?rest2x1
     try simp only [Array.reduceGetElem, Act.put, List.setIfInBounds_toArray, List.set_cons_zero, List.set_cons_succ])
  first
  | (refine wpAnyH_take (i := 2) (v := ?v2x2) rfl (by kernel_rfl) (by kernel_rfl) (by kernel_rfl) (fun _ _ _ h => h) (Or.inl ⟨by rfl, ?hy2x2⟩) hHeld ?rest2x2
     case hy2x2 => (intro w hSw; (try dsimp only at hSw); go_simp <;> with_reducible rfl)
     try simp only [Array.reduceGetElem, Act.put, List.setIfInBounds_toArray, List.set_cons_zero, List.set_cons_succ])
  | (refine wpAnyH_take (i := 2) rfl (by kernel_rfl) (by kernel_rfl) (by kernel_rfl) (fun _ _ _ h => h) (Or.inr ⟨by rfl, rfl⟩) hHeld ?rest2x2
     try simp only [Array.reduceGetElem, Act.put, List.setIfInBounds_toArray, List.set_cons_zero, List.set_cons_succ])
  first
  | (refine wpAnyH_take (i := 3) (v := ?v2x3) rfl (by kernel_rfl) (by kernel_rfl) (by kernel_rfl) (fun _ _ _ h => h) (Or.inl ⟨by rfl, ?hy2x3⟩) hHeld ?rest2x3
     case hy2x3 => (intro w hSw; (try dsimp only at hSw); go_simp <;> with_reducible rfl)
     try simp only [Array.reduceGetElem, Act.put, List.setIfInBounds_toArray, List.set_cons_zero, List.set_cons_succ])
  | (refine wpAnyH_take (i := 3) rfl (by kernel_rfl) (by kernel_rfl) (by kernel_rfl) (fun _ _ _ h => h) (Or.inr ⟨by rfl, rfl⟩) hHeld ?rest2x3
     try simp only [Array.reduceGetElem, Act.put, List.setIfInBounds_toArray, List.set_cons_zero, List.set_cons_succ])
  first
  | (refine wpAnyH_take (i := 4) (v := ?v2x4) rfl (by kernel_rfl) (by kernel_rfl) (by kernel_rfl) (fun _ _ _ h => h) (Or.inl ⟨by rfl, ?hy2x4⟩) hHeld ?rest2x4
     case hy2x4 => (intro w hSw; (try dsimp only at hSw); go_simp <;> with_reducible rfl)
     try simp only [Array.reduceGetElem, Act.put, List.setIfInBounds_toArray, List.set_cons_zero, List.set_cons_succ])
  | (refine wpAnyH_take (i := 4) rfl (by kernel_rfl) (by kernel_rfl) (by kernel_rfl) (fun _ _ _ h => h) (Or.inr ⟨by rfl, rfl⟩) hHeld ?rest2x4
     try simp only [Array.reduceGetElem, Act.put, List.setIfInBounds_toArray, List.set_cons_zero, List.set_cons_succ])
  first
  | (refine wpAnyH_take (i := 5) (v := ?v2x5) rfl (by kernel_rfl) (by kernel_rfl) (by kernel_rfl) (fun _ _ _ h => h) (Or.inl ⟨by rfl, ?hy2x5⟩) hHeld ?rest2x5
     case hy2x5 => (intro w hSw; (try dsimp only at hSw); go_simp <;> with_reducible rfl)
     try simp only [Array.reduceGetElem, Act.put, List.setIfInBounds_toArray, List.set_cons_zero, List.set_cons_succ])
  | (refine wpAnyH_take (i := 5) rfl (by kernel_rfl) (by kernel_rfl) (by kernel_rfl) (fun _ _ _ h => h) (Or.inr ⟨by rfl, rfl⟩) hHeld ?rest2x5
     try simp only [Array.reduceGetElem, Act.put, List.setIfInBounds_toArray, List.set_cons_zero, List.set_cons_succ])
  first
  | (refine wpAnyH_take (i := 6) (v := ?v2x6) rfl (by kernel_rfl) (by kernel_rfl) (by kernel_rfl) (fun _ _ _ h => h) (Or.inl ⟨by rfl, ?hy2x6⟩) hHeld ?rest2x6
     case hy2x6 => (intro w hSw; (try dsimp only at hSw); go_simp <;> with_reducible rfl)
     try simp only [Array.reduceGetElem, Act.put, List.setIfInBounds_toArray, List.set_cons_zero, List.set_cons_succ])
  | (refine wpAnyH_take (i := 6) rfl (by kernel_rfl) (by kernel_rfl) (by kernel_rfl) (fun _ _ _ h => h) (Or.inr ⟨by rfl, rfl⟩) hHeld ?rest2x6
     try simp only [Array.reduceGetElem, Act.put, List.setIfInBounds_toArray, List.set_cons_zero, List.set_cons_succ])
  first
  | (refine wpAnyH_take (i := 7) (v := ?v2x7) rfl (by kernel_rfl) (by kernel_rfl) (by kernel_rfl) (fun _ _ _ h => h) (Or.inl ⟨by rfl, ?hy2x7⟩) hHeld ?rest2x7
     case hy2x7 => (intro w hSw; (try dsimp only at hSw); go_simp <;> with_reducible rfl)
     try simp only [Array.reduceGetElem, Act.put, List.setIfInBounds_toArray, List.set_cons_zero, List.set_cons_succ])
  | (refine wpAnyH_take (i := 7) rfl (by kernel_rfl) (by kernel_rfl) (by kernel_rfl) (fun _ _ _ h => h) (Or.inr ⟨by rfl, rfl⟩) hHeld ?rest2x7
     try simp only [Array.reduceGetElem, Act.put, List.setIfInBounds_toArray, List.set_cons_zero, List.set_cons_succ])
  first
  | (refine wpAnyH_take (i := 8) (v := ?v2x8) rfl (by kernel_rfl) (by kernel_rfl) (by kernel_rfl) (fun _ _ _ h => h) (Or.inl ⟨by rfl, ?hy2x8⟩) hHeld ?rest2x8
     case hy2x8 => (intro w hSw; (try dsimp only at hSw); go_simp <;> with_reducible rfl)
     try simp only [Array.reduceGetElem, Act.put, List.setIfInBounds_toArray, List.set_cons_zero, List.set_cons_succ])
  | (refine wpAnyH_take (i := 8) rfl (by kernel_rfl) (by kernel_rfl) (by kernel_rfl) (fun _ _ _ h => h) (Or.inr ⟨by rfl, rfl⟩) hHeld ?rest2x8
     try simp only [Array.reduceGetElem, Act.put, List.setIfInBounds_toArray, List.set_cons_zero, List.set_cons_succ])
  first
  | (refine wpAnyH_take (i := 9) (v := ?v2x9) rfl (by kernel_rfl) (by kernel_rfl) (by kernel_rfl) (fun _ _ _ h => h) (Or.inl ⟨by rfl, ?hy2x9⟩) hHeld ?rest2x9
     case hy2x9 => (intro w hSw; (try dsimp only at hSw); go_simp <;> with_reducible rfl)
     try simp only [Array.reduceGetElem, Act.put, List.setIfInBounds_toArray, List.set_cons_zero, List.set_cons_succ])
  | (refine wpAnyH_take (i := 9) rfl (by kernel_rfl) (by kernel_rfl) (by kernel_rfl) (fun _ _ _ h => h) (Or.inr ⟨by rfl, rfl⟩) hHeld ?rest2x9
     try simp only [Array.reduceGetElem, Act.put, List.setIfInBounds_toArray, List.set_cons_zero, List.set_cons_succ])
  refine wpAnyH_ready (rs := [10]) (by kernel_rfl) (by simp) ?_
  refine AllReadyH.cons rfl (fun K hK => ?_) AllReadyH.nil
  go_simp
  go_at_call 13; refine (of_any _ _).mono ?_; rintro e w8 ⟨rfl, hb⟩; go_wp2_with fail
  refine hK.out _ _ ?_ (fun hHeld2 => ?_)
  · exact HM.out _ (two hHeld.2.2.2.2.2.2 hb)
  clear hK K hHeld
  have hHeld := hHeld2
  clear hHeld2
  try simp only [Array.reduceGetElem, Act.put, List.setIfInBounds_toArray, List.set_cons_zero, List.set_cons_succ]
  first
  | (refine wpAnyH_take (i := 11) (v := ?v2x11) rfl (by kernel_rfl) (by kernel_rfl) (by kernel_rfl) (fun _ _ _ h => h) (Or.inl ⟨by rfl, ?hy2x11⟩) hHeld ?rest2x11
     case hy2x11 => (intro w hSw; (try dsimp only at hSw); go_simp <;> with_reducible rfl)
     try simp only [Array.reduceGetElem, Act.put, List.setIfInBounds_toArray, List.set_cons_zero, List.set_cons_succ])
  | (refine wpAnyH_take (i := 11) rfl (by kernel_rfl) (by kernel_rfl) (by kernel_rfl) (fun _ _ _ h => h) (Or.inr ⟨by rfl, rfl⟩) hHeld ?rest2x11
     try simp only [Array.reduceGetElem, Act.put, List.setIfInBounds_toArray, List.set_cons_zero, List.set_cons_succ])
  first
  | (refine wpAnyH_take (i := 12) (v := ?v2x12) rfl (by kernel_rfl) (by kernel_rfl) (by kernel_rfl) (fun _ _ _ h => h) (Or.inl ⟨by rfl, ?hy2x12⟩) hHeld ?rest2x12
     case hy2x12 => (intro w hSw; (try dsimp only at hSw); go_simp <;> with_reducible rfl)
     try simp only [Array.reduceGetElem, Act.put, List.setIfInBounds_toArray, List.set_cons_zero, List.set_cons_succ])
  | (refine wpAnyH_take (i := 12) rfl (by kernel_rfl) (by kernel_rfl) (by kernel_rfl) (fun _ _ _ h => h) (Or.inr ⟨by rfl, rfl⟩) hHeld ?rest2x12
     try simp only [Array.reduceGetElem, Act.put, List.setIfInBounds_toArray, List.set_cons_zero, List.set_cons_succ])
  first
  | (refine wpAnyH_take (i := 13) (v := ?v2x13) rfl (by kernel_rfl) (by kernel_rfl) (by kernel_rfl) (fun _ _ _ h => h) (Or.inl ⟨by rfl, ?hy2x13⟩) hHeld ?rest2x13
     case hy2x13 => (intro w hSw; (try dsimp only at hSw); go_simp <;> with_reducible rfl)
     try simp only [Array.reduceGetElem, Act.put, List.setIfInBounds_toArray, List.set_cons_zero, List.set_cons_succ])
  | (refine wpAnyH_take (i := 13) rfl (by kernel_rfl) (by kernel_rfl) (by kernel_rfl) (fun _ _ _ h => h) (Or.inr ⟨by rfl, rfl⟩) hHeld ?rest2x13
     try simp only [Array.reduceGetElem, Act.put, List.setIfInBounds_toArray, List.set_cons_zero, List.set_cons_succ])
  first
  | (refine wpAnyH_take (i := 14) (v := ?v2x14) rfl (by kernel_rfl) (by kernel_rfl) (by kernel_rfl) (fun _ _ _ h => h) (Or.inl ⟨by rfl, ?hy2x14⟩) hHeld ?rest2x14
     case hy2x14 => (intro w hSw; (try dsimp only at hSw); go_simp <;> with_reducible rfl)
     try simp only [Array.reduceGetElem, Act.put, List.setIfInBounds_toArray, List.set_cons_zero, List.set_cons_succ])
  | (refine wpAnyH_take (i := 14) rfl (by kernel_rfl) (by kernel_rfl) (by kernel_rfl) (fun _ _ _ h => h) (Or.inr ⟨by rfl, rfl⟩) hHeld ?rest2x14
     try simp only [Array.reduceGetElem, Act.put, List.setIfInBounds_toArray, List.set_cons_zero, List.set_cons_succ])
  first
  | (refine wpAnyH_take (i := 15) (v := ?v2x15) rfl (by kernel_rfl) (by kernel_rfl) (by kernel_rfl) (fun _ _ _ h => h) (Or.inl ⟨by rfl, ?hy2x15⟩) hHeld ?rest2x15
     case hy2x15 => (intro w hSw; (try dsimp only at hSw); go_simp <;> with_reducible rfl)
     try simp only [Array.reduceGetElem, Act.put, List.setIfInBounds_toArray, List.set_cons_zero, List.set_cons_succ])
  | (refine wpAnyH_take (i := 15) rfl (by kernel_rfl) (by kernel_rfl) (by kernel_rfl) (fun _ _ _ h => h) (Or.inr ⟨by rfl, rfl⟩) hHeld ?rest2x15
     try simp only [Array.reduceGetElem, Act.put, List.setIfInBounds_toArray, List.set_cons_zero, List.set_cons_succ])
  first
  | (refine wpAnyH_take (i := 16) (v := ?v2x16) rfl (by kernel_rfl) (by kernel_rfl) (by kernel_rfl) (fun _ _ _ h => h) (Or.inl ⟨by rfl, ?hy2x16⟩) hHeld ?rest2x16
     case hy2x16 => (intro w hSw; (try dsimp only at hSw); go_simp <;> with_reducible rfl)
     try simp only [Array.reduceGetElem, Act.put, List.setIfInBounds_toArray, List.set_cons_zero, List.set_cons_succ])
  | (refine wpAnyH_take (i := 16) rfl (by kernel_rfl) (by kernel_rfl) (by kernel_rfl) (fun _ _ _ h => h) (Or.inr ⟨by rfl, rfl⟩) hHeld ?rest2x16
     try simp only [Array.reduceGetElem, Act.put, List.setIfInBounds_toArray, List.set_cons_zero, List.set_cons_succ])
  first
  | (refine wpAnyH_take (i := 17) (v := ?v2x17) rfl (by kernel_rfl) (by kernel_rfl) (by kernel_rfl) (fun _ _ _ h => h) (Or.inl ⟨by rfl, ?hy2x17⟩) hHeld ?rest2x17
     case hy2x17 => (intro w hSw; (try dsimp only at hSw); go_simp <;> with_reducible rfl)
     try simp only [Array.reduceGetElem, Act.put, List.setIfInBounds_toArray, List.set_cons_zero, List.set_cons_succ])
  | (refine wpAnyH_take (i := 17) rfl (by kernel_rfl) (by kernel_rfl) (by kernel_rfl) (fun _ _ _ h => h) (Or.inr ⟨by rfl, rfl⟩) hHeld ?rest2x17
     try simp only [Array.reduceGetElem, Act.put, List.setIfInBounds_toArray, List.set_cons_zero, List.set_cons_succ])
  first
  | (refine wpAnyH_take (i := 18) (v := ?v2x18) rfl (by kernel_rfl) (by kernel_rfl) (by kernel_rfl) (fun _ _ _ h => h) (Or.inl ⟨by rfl, ?hy2x18⟩) hHeld ?rest2x18
     case hy2x18 => (intro w hSw; (try dsimp only at hSw); go_simp <;> with_reducible rfl)
     try simp only [Array.reduceGetElem, Act.put, List.setIfInBounds_toArray, List.set_cons_zero, List.set_cons_succ])
  | (refine wpAnyH_take (i := 18) rfl (by kernel_rfl) (by kernel_rfl) (by kernel_rfl) (fun _ _ _ h => h) (Or.inr ⟨by rfl, rfl⟩) hHeld ?rest2x18
     try simp only [Array.reduceGetElem, Act.put, List.setIfInBounds_toArray, List.set_cons_zero, List.set_cons_succ])
  first
  | (refine wpAnyH_take (i := 19) (v := ?v2x19) rfl (by kernel_rfl) (by kernel_rfl) (by kernel_rfl) (fun _ _ _ h => h) (Or.inl ⟨by rfl, ?hy2x19⟩) hHeld ?rest2x19
     case hy2x19 => (intro w hSw; (try dsimp only at hSw); go_simp <;> with_reducible rfl)
     try simp only [Array.reduceGetElem, Act.put, List.setIfInBounds_toArray, List.set_cons_zero, List.set_cons_succ])
  | (refine wpAnyH_take (i := 19) rfl (by kernel_rfl) (by kernel_rfl) (by kernel_rfl) (fun _ _ _ h => h) (Or.inr ⟨by rfl, rfl⟩) hHeld ?rest2x19
     try simp only [Array.reduceGetElem, Act.put, List.setIfInBounds_toArray, List.set_cons_zero, List.set_cons_succ])
  first
  | (refine wpAnyH_take (i := 20) (v := ?v2x20) rfl (by kernel_rfl) (by kernel_rfl) (by kernel_rfl) (fun _ _ _ h => h) (Or.inl ⟨by rfl, ?hy2x20⟩) hHeld ?rest2x20
     case hy2x20 => (intro w hSw; (try dsimp only at hSw); go_simp <;> with_reducible rfl)
     try simp only [Array.reduceGetElem, Act.put, List.setIfInBounds_toArray, List.set_cons_zero, List.set_cons_succ])
  | (refine wpAnyH_take (i := 20) rfl (by kernel_rfl) (by kernel_rfl) (by kernel_rfl) (fun _ _ _ h => h) (Or.inr ⟨by rfl, rfl⟩) hHeld ?rest2x20
     try simp only [Array.reduceGetElem, Act.put, List.setIfInBounds_toArray, List.set_cons_zero, List.set_cons_succ])
  first
  | (refine wpAnyH_take (i := 21) (v := ?v2x21) rfl (by kernel_rfl) (by kernel_rfl) (by kernel_rfl) (fun _ _ _ h => h) (Or.inl ⟨by rfl, ?hy2x21⟩) hHeld ?rest2x21
     case hy2x21 => (intro w hSw; (try dsimp only at hSw); go_simp <;> with_reducible rfl)
     try simp only [Array.reduceGetElem, Act.put, List.setIfInBounds_toArray, List.set_cons_zero, List.set_cons_succ])
  | (refine wpAnyH_take (i := 21) rfl (by kernel_rfl) (by kernel_rfl) (by kernel_rfl) (fun _ _ _ h => h) (Or.inr ⟨by rfl, rfl⟩) hHeld ?rest2x21
     try simp only [Array.reduceGetElem, Act.put, List.setIfInBounds_toArray, List.set_cons_zero, List.set_cons_succ])
  first
  | (refine wpAnyH_take (i := 22) (v := ?v2x22) rfl (by kernel_rfl) (by kernel_rfl) (by kernel_rfl) (fun _ _ _ h => h) (Or.inl ⟨by rfl, ?hy2x22⟩) hHeld ?rest2x22
     case hy2x22 => (intro w hSw; (try dsimp only at hSw); go_simp <;> with_reducible rfl)
     try simp only [Array.reduceGetElem, Act.put, List.setIfInBounds_toArray, List.set_cons_zero, List.set_cons_succ])
  | (refine wpAnyH_take (i := 22) rfl (by kernel_rfl) (by kernel_rfl) (by kernel_rfl) (fun _ _ _ h => h) (Or.inr ⟨by rfl, rfl⟩) hHeld ?rest2x22
     try simp only [Array.reduceGetElem, Act.put, List.setIfInBounds_toArray, List.set_cons_zero, List.set_cons_succ])
  first
  | (refine wpAnyH_take (i := 23) (v := ?v2x23) rfl (by kernel_rfl) (by kernel_rfl) (by kernel_rfl) (fun _ _ _ h => h) (Or.inl ⟨by rfl, ?hy2x23⟩) hHeld ?rest2x23
     case hy2x23 => (intro w hSw; (try dsimp only at hSw); go_simp <;> with_reducible rfl)
     try simp only [Array.reduceGetElem, Act.put, List.setIfInBounds_toArray, List.set_cons_zero, List.set_cons_succ])
  | (refine wpAnyH_take (i := 23) rfl (by kernel_rfl) (by kernel_rfl) (by kernel_rfl) (fun _ _ _ h => h) (Or.inr ⟨by rfl, rfl⟩) hHeld ?rest2x23
     try simp only [Array.reduceGetElem, Act.put, List.setIfInBounds_toArray, List.set_cons_zero, List.set_cons_succ])
  first
  | (refine wpAnyH_take (i := 24) (v := ?v2x24) rfl (by kernel_rfl) (by kernel_rfl) (by kernel_rfl) (fun _ _ _ h => h) (Or.inl ⟨by rfl, ?hy2x24⟩) hHeld ?rest2x24
     case hy2x24 => (intro w hSw; (try dsimp only at hSw); go_simp <;> with_reducible rfl)
     try simp only [Array.reduceGetElem, Act.put, List.setIfInBounds_toArray, List.set_cons_zero, List.set_cons_succ])
  | (refine wpAnyH_take (i := 24) rfl (by kernel_rfl) (by kernel_rfl) (by kernel_rfl) (fun _ _ _ h => h) (Or.inr ⟨by rfl, rfl⟩) hHeld ?rest2x24
     try simp only [Array.reduceGetElem, Act.put, List.setIfInBounds_toArray, List.set_cons_zero, List.set_cons_succ])
  first
  | (refine wpAnyH_take (i := 25) (v := ?v2x25) rfl (by kernel_rfl) (by kernel_rfl) (by kernel_rfl) (fun _ _ _ h => h) (Or.inl ⟨by rfl, ?hy2x25⟩) hHeld ?rest2x25
     case hy2x25 => (intro w hSw; (try dsimp only at hSw); go_simp <;> with_reducible rfl)
     try simp only [Array.reduceGetElem, Act.put, List.setIfInBounds_toArray, List.set_cons_zero, List.set_cons_succ])
  | (refine wpAnyH_take (i := 25) rfl (by kernel_rfl) (by kernel_rfl) (by kernel_rfl) (fun _ _ _ h => h) (Or.inr ⟨by rfl, rfl⟩) hHeld ?rest2x25
     try simp only [Array.reduceGetElem, Act.put, List.setIfInBounds_toArray, List.set_cons_zero, List.set_cons_succ])
  first
  | (refine wpAnyH_take (i := 26) (v := ?v2x26) rfl (by kernel_rfl) (by kernel_rfl) (by kernel_rfl) (fun _ _ _ h => h) (Or.inl ⟨by rfl, ?hy2x26⟩) hHeld ?rest2x26
     case hy2x26 => (intro w hSw; (try dsimp only at hSw); go_simp <;> with_reducible rfl)
     try simp only [Array.reduceGetElem, Act.put, List.setIfInBounds_toArray, List.set_cons_zero, List.set_cons_succ])
  | (refine wpAnyH_take (i := 26) rfl (by kernel_rfl) (by kernel_rfl) (by kernel_rfl) (fun _ _ _ h => h) (Or.inr ⟨by rfl, rfl⟩) hHeld ?rest2x26
     try simp only [Array.reduceGetElem, Act.put, List.setIfInBounds_toArray, List.set_cons_zero, List.set_cons_succ])
  first
  | (refine wpAnyH_take (i := 27) (v := ?v2x27) rfl (by kernel_rfl) (by kernel_rfl) (by kernel_rfl) (fun _ _ _ h => h) (Or.inl ⟨by rfl, ?hy2x27⟩) hHeld ?rest2x27
     case hy2x27 => (intro w hSw; (try dsimp only at hSw); go_simp <;> with_reducible rfl)
     try simp only [Array.reduceGetElem, Act.put, List.setIfInBounds_toArray, List.set_cons_zero, List.set_cons_succ])
  | (refine wpAnyH_take (i := 27) rfl (by kernel_rfl) (by kernel_rfl) (by kernel_rfl) (fun _ _ _ h => h) (Or.inr ⟨by rfl, rfl⟩) hHeld ?rest2x27
     try simp only [Array.reduceGetElem, Act.put, List.setIfInBounds_toArray, List.set_cons_zero, List.set_cons_succ])
  first
  | (refine wpAnyH_take (i := 28) (v := ?v2x28) rfl (by kernel_rfl) (by kernel_rfl) (by kernel_rfl) (fun _ _ _ h => h) (Or.inl ⟨by rfl, ?hy2x28⟩) hHeld ?rest2x28
     case hy2x28 => (intro w hSw; (try dsimp only at hSw); go_simp <;> with_reducible rfl)
     try simp only [Array.reduceGetElem, Act.put, List.setIfInBounds_toArray, List.set_cons_zero, List.set_cons_succ])
  | (refine wpAnyH_take (i := 28) rfl (by kernel_rfl) (by kernel_rfl) (by kernel_rfl) (fun _ _ _ h => h) (Or.inr ⟨by rfl, rfl⟩) hHeld ?rest2x28
     try simp only [Array.reduceGetElem, Act.put, List.setIfInBounds_toArray, List.set_cons_zero, List.set_cons_succ])
  first
  | (refine wpAnyH_take (i := 29) (v := ?v2x29) rfl (by kernel_rfl) (by kernel_rfl) (by kernel_rfl) (fun _ _ _ h => h) (Or.inl ⟨by rfl, ?hy2x29⟩) hHeld ?rest2x29
     case hy2x29 => (intro w hSw; (try dsimp only at hSw); go_simp <;> with_reducible rfl)
     try simp only [Array.reduceGetElem, Act.put, List.setIfInBounds_toArray, List.set_cons_zero, List.set_cons_succ])
  | (refine wpAnyH_take (i := 29) rfl (by kernel_rfl) (by kernel_rfl) (by kernel_rfl) (fun _ _ _ h => h) (Or.inr ⟨by rfl, rfl⟩) hHeld ?rest2x29
     try simp only [Array.reduceGetElem, Act.put, List.setIfInBounds_toArray, List.set_cons_zero, List.set_cons_succ])
  refine wpAnyH_done (by kernel_rfl) ?_ _
  clear hwa hws
  clear c0 c1 c2
  have hk := two b7 hHeld.2.2.2.2.2.2
  obtain ⟨c0, c1, c2, _, _, _, h7⟩ := hHeld
  have z8 : w3.heap.size < w8.heap.size := by have := h7.size; simp at this; omega
  have HM2 : Hid (∀ W, Below w8.heap.size w8 W → W.cell? ⟨w3.heap.size, 0, none⟩ = some (.int .i64 1) ∧ W.cell? ⟨w3.heap.size, 1, none⟩ = some (.int .i64 (a + b)) ∧ W.cell? ⟨w3.heap.size, 2, none⟩ = some (.string ⟨#[]⟩) ∧ Below w8.heap.size w8 W) := fun W h =>
    ⟨(h.cell (by exact z8)).trans c0, (h.cell (by exact z8)).trans c1, (h.cell (by exact z8)).trans c2, h⟩
  clear c0 c1 c2
  go_wp2_with fail
  refine wp_region_held_drew (S := (fun w' => w'.cell? ⟨w3.heap.size, 0, none⟩ = some (.int .i64 1) ∧ w'.cell? ⟨w3.heap.size, 1, none⟩ = some (.int .i64 (a + b)) ∧ w'.cell? ⟨w3.heap.size, 2, none⟩ = some (.string ⟨#[]⟩) ∧ Below w8.heap.size w8 w')) (by kernel_rfl) (by exact HM2.out _ (Below.drew (by go_grown))) (fun hHeld => ?_)
  refine wpAnyH_take (i := 0) (v := ?v3y0) rfl (by kernel_rfl) (by kernel_rfl) (by kernel_rfl) (fun _ _ _ h => h) (Or.inl ⟨by rfl, ?hy3y0⟩) hHeld ?rest3y0
  case hy3y0 => (intro w hSw; (try dsimp only at hSw); go_simp <;> with_reducible rfl)
  try simp only [Array.reduceGetElem, Act.put, List.setIfInBounds_toArray, List.set_cons_zero, List.set_cons_succ]
  refine wpAnyH_take (i := 1) (v := ?v4y1) rfl (by kernel_rfl) (by kernel_rfl) (by kernel_rfl) (fun _ _ _ h => h) (Or.inl ⟨by rfl, ?hy4y1⟩) hHeld ?rest4y1
  case hy4y1 => (intro w hSw; (try dsimp only at hSw); go_simp <;> with_reducible rfl)
  try simp only [Array.reduceGetElem, Act.put, List.setIfInBounds_toArray, List.set_cons_zero, List.set_cons_succ]
  refine wpAnyH_ready (rs := [2, 7]) (by kernel_rfl) (by simp) ?_
  refine AllReadyH.cons rfl (fun K hK => ?_) (AllReadyH.cons rfl (fun K hK => ?_) AllReadyH.nil)
  · go_simp
    go_at_call 13
    refine (of_any _ _).mono ?_
    rintro e x1 ⟨rfl, hbx1⟩
    go_wp2_with fail
    refine hK.out _ _ ?_ (fun hHeld2 => ?_)
    · exact HM2.out _ (two hHeld.2.2.2 hbx1)
    clear hK K hHeld
    have hHeld := hHeld2
    clear hHeld2
    try simp only [Array.reduceGetElem, Act.put, List.setIfInBounds_toArray, List.set_cons_zero, List.set_cons_succ]
    refine wpAnyH_ready (rs := [3, 7]) (by kernel_rfl) (by simp) ?_
    refine AllReadyH.cons rfl (fun K hK => ?_) (AllReadyH.cons rfl (fun K hK => ?_) AllReadyH.nil)
    · go_simp
      go_at_call 17
      refine (HB.out _).mono ?_
      rintro e x2 ⟨rfl, hbx2⟩
      go_wp2_with fail
      refine hK.out _ _ ?_ (fun hHeld2 => ?_)
      · exact HM2.out _ (two hHeld.2.2.2 hbx2)
      clear hK K hHeld
      have hHeld := hHeld2
      clear hHeld2
      try simp only [Array.reduceGetElem, Act.put, List.setIfInBounds_toArray, List.set_cons_zero, List.set_cons_succ]
      refine wpAnyH_take (i := 4) (v := ?v5y4) rfl (by kernel_rfl) (by kernel_rfl) (by kernel_rfl) (fun _ _ _ h => h) (Or.inl ⟨by rfl, ?hy5y4⟩) hHeld ?rest5y4
      case hy5y4 => (intro w hSw; (try dsimp only at hSw); go_simp <;> with_reducible rfl)
      try simp only [Array.reduceGetElem, Act.put, List.setIfInBounds_toArray, List.set_cons_zero, List.set_cons_succ]
      refine wpAnyH_take (i := 5) (v := ?v6y5) rfl (by kernel_rfl) (by kernel_rfl) (by kernel_rfl) (fun _ _ _ h => h) (Or.inl ⟨by rfl, ?hy6y5⟩) hHeld ?rest6y5
      case hy6y5 => (intro w hSw; (try dsimp only at hSw); go_simp <;> with_reducible rfl)
      try simp only [Array.reduceGetElem, Act.put, List.setIfInBounds_toArray, List.set_cons_zero, List.set_cons_succ]
      refine wpAnyH_take (i := 6) (v := ?v7y6) rfl (by kernel_rfl) (by kernel_rfl) (by kernel_rfl) (fun _ _ _ h => h) (Or.inl ⟨by rfl, ?hy7y6⟩) hHeld ?rest7y6
      case hy7y6 => (intro w hSw; (try dsimp only at hSw); go_simp <;> with_reducible rfl)
      try simp only [Array.reduceGetElem, Act.put, List.setIfInBounds_toArray, List.set_cons_zero, List.set_cons_succ]
      refine wpAnyH_ready (rs := [7]) (by kernel_rfl) (by simp) ?_
      refine AllReadyH.cons rfl (fun K hK => ?_) AllReadyH.nil
      have hP := hHeld.2.2.2
      have zA := hHeld.2.2.2.size
      have hA := hHeld.2.2.2.alloc zA (.cells #[.int .i64 0, .int .i64 0, .string ⟨#[]⟩] 23)
      go_simp
      refine hK.out _ _ ?_ (fun hHeld2 => ?_)
      · exact HM2.out _ hA
      clear hK K hHeld
      have hHeld := hHeld2
      clear hHeld2
      try simp only [Array.reduceGetElem, Act.put, List.setIfInBounds_toArray, List.set_cons_zero, List.set_cons_succ]
      refine wpAnyH_ready (rs := [8]) (by kernel_rfl) (by simp) ?_
      refine AllReadyH.cons rfl (fun K hK => ?_) AllReadyH.nil
      have hQ := hHeld.2.2.2
      go_simp
      refine hK.out _ _ ?_ (fun hHeld2 => ?_)
      · exact HM2.out _ (hP.alloc zA _)
      clear hK K hHeld
      have hHeld := hHeld2
      clear hHeld2
      try simp only [Array.reduceGetElem, Act.put, List.setIfInBounds_toArray, List.set_cons_zero, List.set_cons_succ]
      refine wpAnyH_take (i := 9) (v := ?v8y9) rfl (by kernel_rfl) (by kernel_rfl) (by kernel_rfl) (fun _ _ _ h => h) (Or.inl ⟨by rfl, ?hy8y9⟩) hHeld ?rest8y9
      case hy8y9 => (intro w hSw; (try dsimp only at hSw); go_simp <;> with_reducible rfl)
      try simp only [Array.reduceGetElem, Act.put, List.setIfInBounds_toArray, List.set_cons_zero, List.set_cons_succ]
      refine wpAnyH_done (by kernel_rfl) ?_ _
      go_wp2_with fail
      refine wp_region_held_drew (S := (fun W => W.cell? ⟨x2.heap.size, 0, none⟩ = some (.int .i64 1) ∧ W.cell? ⟨x2.heap.size, 1, none⟩ = some (.int .i64 a) ∧ W.cell? ⟨x2.heap.size, 2, none⟩ = some (.string ⟨#[]⟩) ∧ Below w.heap.size w W ∧ x2.heap.size < W.heap.size)) (by kernel_rfl) (by exact ⟨by simp, by simp, by simp, Below.drew (two hk hHeld.2.2.2), by simp⟩) (fun hHeld => ?_)
      first
      | (refine wpAnyH_take (i := 0) (v := ?v9x0) rfl (by kernel_rfl) (by kernel_rfl) (by kernel_rfl) (fun _ _ _ h => h) (Or.inl ⟨by rfl, ?hy9x0⟩) hHeld ?rest9x0
         case hy9x0 => (intro w hSw; (try dsimp only at hSw); go_simp <;> with_reducible rfl)
         try simp only [Array.reduceGetElem, Act.put, List.setIfInBounds_toArray, List.set_cons_zero, List.set_cons_succ])
      | (refine wpAnyH_take (i := 0) rfl (by kernel_rfl) (by kernel_rfl) (by kernel_rfl) (fun _ _ _ h => h) (Or.inr ⟨by rfl, rfl⟩) hHeld ?rest9x0
         try simp only [Array.reduceGetElem, Act.put, List.setIfInBounds_toArray, List.set_cons_zero, List.set_cons_succ])
      first
      | (refine wpAnyH_take (i := 1) (v := ?v9x1) rfl (by kernel_rfl) (by kernel_rfl) (by kernel_rfl) (fun _ _ _ h => h) (Or.inl ⟨by rfl, ?hy9x1⟩) hHeld ?rest9x1
         case hy9x1 => (intro w hSw; (try dsimp only at hSw); go_simp <;> with_reducible rfl)
         try simp only [Array.reduceGetElem, Act.put, List.setIfInBounds_toArray, List.set_cons_zero, List.set_cons_succ])
      | (refine wpAnyH_take (i := 1) rfl (by kernel_rfl) (by kernel_rfl) (by kernel_rfl) (fun _ _ _ h => h) (Or.inr ⟨by rfl, rfl⟩) hHeld ?rest9x1
         try simp only [Array.reduceGetElem, Act.put, List.setIfInBounds_toArray, List.set_cons_zero, List.set_cons_succ])
      first
      | (refine wpAnyH_take (i := 2) (v := ?v9x2) rfl (by kernel_rfl) (by kernel_rfl) (by kernel_rfl) (fun _ _ _ h => h) (Or.inl ⟨by rfl, ?hy9x2⟩) hHeld ?rest9x2
         case hy9x2 => (intro w hSw; (try dsimp only at hSw); go_simp <;> with_reducible rfl)
         try simp only [Array.reduceGetElem, Act.put, List.setIfInBounds_toArray, List.set_cons_zero, List.set_cons_succ])
      | (refine wpAnyH_take (i := 2) rfl (by kernel_rfl) (by kernel_rfl) (by kernel_rfl) (fun _ _ _ h => h) (Or.inr ⟨by rfl, rfl⟩) hHeld ?rest9x2
         try simp only [Array.reduceGetElem, Act.put, List.setIfInBounds_toArray, List.set_cons_zero, List.set_cons_succ])
      first
      | (refine wpAnyH_take (i := 3) (v := ?v9x3) rfl (by kernel_rfl) (by kernel_rfl) (by kernel_rfl) (fun _ _ _ h => h) (Or.inl ⟨by rfl, ?hy9x3⟩) hHeld ?rest9x3
         case hy9x3 => (intro w hSw; (try dsimp only at hSw); go_simp <;> with_reducible rfl)
         try simp only [Array.reduceGetElem, Act.put, List.setIfInBounds_toArray, List.set_cons_zero, List.set_cons_succ])
      | (refine wpAnyH_take (i := 3) rfl (by kernel_rfl) (by kernel_rfl) (by kernel_rfl) (fun _ _ _ h => h) (Or.inr ⟨by rfl, rfl⟩) hHeld ?rest9x3
         try simp only [Array.reduceGetElem, Act.put, List.setIfInBounds_toArray, List.set_cons_zero, List.set_cons_succ])
      first
      | (refine wpAnyH_take (i := 4) (v := ?v9x4) rfl (by kernel_rfl) (by kernel_rfl) (by kernel_rfl) (fun _ _ _ h => h) (Or.inl ⟨by rfl, ?hy9x4⟩) hHeld ?rest9x4
         case hy9x4 => (intro w hSw; (try dsimp only at hSw); go_simp <;> with_reducible rfl)
         try simp only [Array.reduceGetElem, Act.put, List.setIfInBounds_toArray, List.set_cons_zero, List.set_cons_succ])
      | (refine wpAnyH_take (i := 4) rfl (by kernel_rfl) (by kernel_rfl) (by kernel_rfl) (fun _ _ _ h => h) (Or.inr ⟨by rfl, rfl⟩) hHeld ?rest9x4
         try simp only [Array.reduceGetElem, Act.put, List.setIfInBounds_toArray, List.set_cons_zero, List.set_cons_succ])
      refine wpAnyH_ready (rs := [5]) (by kernel_rfl) (by simp) ?_
      refine AllReadyH.cons rfl (fun K hK => ?_) AllReadyH.nil
      go_simp
      go_at_call 13; refine (of_any _ _).mono ?_; rintro e y1 ⟨rfl, hb⟩; go_wp2_with fail
      refine hK.out _ _ ?_ (fun hHeld2 => ?_)
      · exact ⟨(hb.cell (by exact hHeld.2.2.2.2)).trans hHeld.1, (hb.cell (by exact hHeld.2.2.2.2)).trans hHeld.2.1, (hb.cell (by exact hHeld.2.2.2.2)).trans hHeld.2.2.1, two hHeld.2.2.2.1 hb, Nat.lt_of_lt_of_le hHeld.2.2.2.2 hb.size⟩
      clear hK K hHeld
      have hHeld := hHeld2
      clear hHeld2
      try simp only [Array.reduceGetElem, Act.put, List.setIfInBounds_toArray, List.set_cons_zero, List.set_cons_succ]
      first
      | (refine wpAnyH_take (i := 6) (v := ?v9x6) rfl (by kernel_rfl) (by kernel_rfl) (by kernel_rfl) (fun _ _ _ h => h) (Or.inl ⟨by rfl, ?hy9x6⟩) hHeld ?rest9x6
         case hy9x6 => (intro w hSw; (try dsimp only at hSw); go_simp <;> with_reducible rfl)
         try simp only [Array.reduceGetElem, Act.put, List.setIfInBounds_toArray, List.set_cons_zero, List.set_cons_succ])
      | (refine wpAnyH_take (i := 6) rfl (by kernel_rfl) (by kernel_rfl) (by kernel_rfl) (fun _ _ _ h => h) (Or.inr ⟨by rfl, rfl⟩) hHeld ?rest9x6
         try simp only [Array.reduceGetElem, Act.put, List.setIfInBounds_toArray, List.set_cons_zero, List.set_cons_succ])
      first
      | (refine wpAnyH_take (i := 7) (v := ?v9x7) rfl (by kernel_rfl) (by kernel_rfl) (by kernel_rfl) (fun _ _ _ h => h) (Or.inl ⟨by rfl, ?hy9x7⟩) hHeld ?rest9x7
         case hy9x7 => (intro w hSw; (try dsimp only at hSw); go_simp <;> with_reducible rfl)
         try simp only [Array.reduceGetElem, Act.put, List.setIfInBounds_toArray, List.set_cons_zero, List.set_cons_succ])
      | (refine wpAnyH_take (i := 7) rfl (by kernel_rfl) (by kernel_rfl) (by kernel_rfl) (fun _ _ _ h => h) (Or.inr ⟨by rfl, rfl⟩) hHeld ?rest9x7
         try simp only [Array.reduceGetElem, Act.put, List.setIfInBounds_toArray, List.set_cons_zero, List.set_cons_succ])
      first
      | (refine wpAnyH_take (i := 8) (v := ?v9x8) rfl (by kernel_rfl) (by kernel_rfl) (by kernel_rfl) (fun _ _ _ h => h) (Or.inl ⟨by rfl, ?hy9x8⟩) hHeld ?rest9x8
         case hy9x8 => (intro w hSw; (try dsimp only at hSw); go_simp <;> with_reducible rfl)
         try simp only [Array.reduceGetElem, Act.put, List.setIfInBounds_toArray, List.set_cons_zero, List.set_cons_succ])
      | (refine wpAnyH_take (i := 8) rfl (by kernel_rfl) (by kernel_rfl) (by kernel_rfl) (fun _ _ _ h => h) (Or.inr ⟨by rfl, rfl⟩) hHeld ?rest9x8
         try simp only [Array.reduceGetElem, Act.put, List.setIfInBounds_toArray, List.set_cons_zero, List.set_cons_succ])
      refine wpAnyH_ready (rs := [9]) (by kernel_rfl) (by simp) ?_
      refine AllReadyH.cons rfl (fun K hK => ?_) AllReadyH.nil
      go_simp
      go_at_call 16; refine (awake_any _ (HE.out.below hHeld.2.2.2.1)).mono ?_; rintro e y2 ⟨rfl, hb⟩; go_wp2_with fail
      refine hK.out _ _ ?_ (fun hHeld2 => ?_)
      · exact ⟨(hb.cell (by exact hHeld.2.2.2.2)).trans hHeld.1, (hb.cell (by exact hHeld.2.2.2.2)).trans hHeld.2.1, (hb.cell (by exact hHeld.2.2.2.2)).trans hHeld.2.2.1, two hHeld.2.2.2.1 hb, Nat.lt_of_lt_of_le hHeld.2.2.2.2 hb.size⟩
      clear hK K hHeld
      have hHeld := hHeld2
      clear hHeld2
      try simp only [Array.reduceGetElem, Act.put, List.setIfInBounds_toArray, List.set_cons_zero, List.set_cons_succ]
      first
      | (refine wpAnyH_take (i := 10) (v := ?v9x10) rfl (by kernel_rfl) (by kernel_rfl) (by kernel_rfl) (fun _ _ _ h => h) (Or.inl ⟨by rfl, ?hy9x10⟩) hHeld ?rest9x10
         case hy9x10 => (intro w hSw; (try dsimp only at hSw); go_simp <;> with_reducible rfl)
         try simp only [Array.reduceGetElem, Act.put, List.setIfInBounds_toArray, List.set_cons_zero, List.set_cons_succ])
      | (refine wpAnyH_take (i := 10) rfl (by kernel_rfl) (by kernel_rfl) (by kernel_rfl) (fun _ _ _ h => h) (Or.inr ⟨by rfl, rfl⟩) hHeld ?rest9x10
         try simp only [Array.reduceGetElem, Act.put, List.setIfInBounds_toArray, List.set_cons_zero, List.set_cons_succ])
      first
      | (refine wpAnyH_take (i := 11) (v := ?v9x11) rfl (by kernel_rfl) (by kernel_rfl) (by kernel_rfl) (fun _ _ _ h => h) (Or.inl ⟨by rfl, ?hy9x11⟩) hHeld ?rest9x11
         case hy9x11 => (intro w hSw; (try dsimp only at hSw); go_simp <;> with_reducible rfl)
         try simp only [Array.reduceGetElem, Act.put, List.setIfInBounds_toArray, List.set_cons_zero, List.set_cons_succ])
      | (refine wpAnyH_take (i := 11) rfl (by kernel_rfl) (by kernel_rfl) (by kernel_rfl) (fun _ _ _ h => h) (Or.inr ⟨by rfl, rfl⟩) hHeld ?rest9x11
         try simp only [Array.reduceGetElem, Act.put, List.setIfInBounds_toArray, List.set_cons_zero, List.set_cons_succ])
      refine wpAnyH_done (by kernel_rfl) ?_ _
      go_wp2_with fail
      go_ret
      exact ⟨rfl, hHeld.2.2.2.1⟩
    · have hP := hHeld.2.2.2
      have zA := hHeld.2.2.2.size
      have hA := hHeld.2.2.2.alloc zA (.cells #[.int .i64 0, .int .i64 0, .string ⟨#[]⟩] 23)
      go_simp
      refine hK.out _ _ ?_ (fun hHeld2 => ?_)
      · exact HM2.out _ hA
      clear hK K hHeld
      have hHeld := hHeld2
      clear hHeld2
      try simp only [Array.reduceGetElem, Act.put, List.setIfInBounds_toArray, List.set_cons_zero, List.set_cons_succ]
      refine wpAnyH_ready (rs := [3]) (by kernel_rfl) (by simp) ?_
      refine AllReadyH.cons rfl (fun K hK => ?_) AllReadyH.nil
      go_simp
      go_at_call 17
      refine (HB.out _).mono ?_
      rintro e x2 ⟨rfl, hbx2⟩
      go_wp2_with fail
      refine hK.out _ _ ?_ (fun hHeld2 => ?_)
      · exact HM2.out _ (two hHeld.2.2.2 hbx2)
      clear hK K hHeld
      have hHeld := hHeld2
      clear hHeld2
      try simp only [Array.reduceGetElem, Act.put, List.setIfInBounds_toArray, List.set_cons_zero, List.set_cons_succ]
      refine wpAnyH_take (i := 4) (v := ?v10y4) rfl (by kernel_rfl) (by kernel_rfl) (by kernel_rfl) (fun _ _ _ h => h) (Or.inl ⟨by rfl, ?hy10y4⟩) hHeld ?rest10y4
      case hy10y4 => (intro w hSw; (try dsimp only at hSw); go_simp <;> with_reducible rfl)
      try simp only [Array.reduceGetElem, Act.put, List.setIfInBounds_toArray, List.set_cons_zero, List.set_cons_succ]
      refine wpAnyH_take (i := 5) (v := ?v11y5) rfl (by kernel_rfl) (by kernel_rfl) (by kernel_rfl) (fun _ _ _ h => h) (Or.inl ⟨by rfl, ?hy11y5⟩) hHeld ?rest11y5
      case hy11y5 => (intro w hSw; (try dsimp only at hSw); go_simp <;> with_reducible rfl)
      try simp only [Array.reduceGetElem, Act.put, List.setIfInBounds_toArray, List.set_cons_zero, List.set_cons_succ]
      refine wpAnyH_take (i := 6) (v := ?v12y6) rfl (by kernel_rfl) (by kernel_rfl) (by kernel_rfl) (fun _ _ _ h => h) (Or.inl ⟨by rfl, ?hy12y6⟩) hHeld ?rest12y6
      case hy12y6 => (intro w hSw; (try dsimp only at hSw); go_simp <;> with_reducible rfl)
      try simp only [Array.reduceGetElem, Act.put, List.setIfInBounds_toArray, List.set_cons_zero, List.set_cons_succ]
      have k0 := box (hbx2) (by simp) 0
      have k1 := box (hbx2) (by simp) 1
      have k2 := box (hbx2) (by simp) 2
      have q0 := boxf (hbx2) (by simp) 0
      have q1 := boxf (hbx2) (by simp) 1
      have q2 := boxf (hbx2) (by simp) 2
      have zx := (hbx2).size
      simp only [World.size_alloc] at zx
      simp only [List.getElem?_toArray, List.getElem?_cons_zero, List.getElem?_cons_succ] at k0 k1 k2
      refine wpAnyH_ready (rs := [8]) (by kernel_rfl) (by simp) ?_
      refine AllReadyH.cons rfl (fun K hK => ?_) AllReadyH.nil
      have hQ := hHeld.2.2.2
      go_simp
      refine hK.out _ _ ?_ (fun hHeld2 => ?_)
      · exact HM2.out _ (by go_grown)
      clear hK K hHeld
      have hHeld := hHeld2
      clear hHeld2
      try simp only [Array.reduceGetElem, Act.put, List.setIfInBounds_toArray, List.set_cons_zero, List.set_cons_succ]
      refine wpAnyH_take (i := 9) (v := ?v13y9) rfl (by kernel_rfl) (by kernel_rfl) (by kernel_rfl) (fun _ _ _ h => h) (Or.inl ⟨by rfl, ?hy13y9⟩) hHeld ?rest13y9
      case hy13y9 => (intro w hSw; (try dsimp only at hSw); go_simp <;> with_reducible rfl)
      try simp only [Array.reduceGetElem, Act.put, List.setIfInBounds_toArray, List.set_cons_zero, List.set_cons_succ]
      refine wpAnyH_done (by kernel_rfl) ?_ _
      go_wp2_with fail
      refine wp_region_held_drew (S := (fun W => W.cell? ⟨x1.heap.size, 0, none⟩ = some (.int .i64 1) ∧ W.cell? ⟨x1.heap.size, 1, none⟩ = some (.int .i64 a) ∧ W.cell? ⟨x1.heap.size, 2, none⟩ = some (.string ⟨#[]⟩) ∧ Below w.heap.size w W ∧ x1.heap.size < W.heap.size)) (by kernel_rfl) (by exact ⟨(set3 _ _ _ k0 k1 k2).1, (set3 _ _ _ k0 k1 k2).2.1, (set3 _ _ _ k0 k1 k2).2.2, Below.drew (two hk hHeld.2.2.2), by simp; omega⟩) (fun hHeld => ?_)
      first
      | (refine wpAnyH_take (i := 0) (v := ?v14x0) rfl (by kernel_rfl) (by kernel_rfl) (by kernel_rfl) (fun _ _ _ h => h) (Or.inl ⟨by rfl, ?hy14x0⟩) hHeld ?rest14x0
         case hy14x0 => (intro w hSw; (try dsimp only at hSw); go_simp <;> with_reducible rfl)
         try simp only [Array.reduceGetElem, Act.put, List.setIfInBounds_toArray, List.set_cons_zero, List.set_cons_succ])
      | (refine wpAnyH_take (i := 0) rfl (by kernel_rfl) (by kernel_rfl) (by kernel_rfl) (fun _ _ _ h => h) (Or.inr ⟨by rfl, rfl⟩) hHeld ?rest14x0
         try simp only [Array.reduceGetElem, Act.put, List.setIfInBounds_toArray, List.set_cons_zero, List.set_cons_succ])
      first
      | (refine wpAnyH_take (i := 1) (v := ?v14x1) rfl (by kernel_rfl) (by kernel_rfl) (by kernel_rfl) (fun _ _ _ h => h) (Or.inl ⟨by rfl, ?hy14x1⟩) hHeld ?rest14x1
         case hy14x1 => (intro w hSw; (try dsimp only at hSw); go_simp <;> with_reducible rfl)
         try simp only [Array.reduceGetElem, Act.put, List.setIfInBounds_toArray, List.set_cons_zero, List.set_cons_succ])
      | (refine wpAnyH_take (i := 1) rfl (by kernel_rfl) (by kernel_rfl) (by kernel_rfl) (fun _ _ _ h => h) (Or.inr ⟨by rfl, rfl⟩) hHeld ?rest14x1
         try simp only [Array.reduceGetElem, Act.put, List.setIfInBounds_toArray, List.set_cons_zero, List.set_cons_succ])
      first
      | (refine wpAnyH_take (i := 2) (v := ?v14x2) rfl (by kernel_rfl) (by kernel_rfl) (by kernel_rfl) (fun _ _ _ h => h) (Or.inl ⟨by rfl, ?hy14x2⟩) hHeld ?rest14x2
         case hy14x2 => (intro w hSw; (try dsimp only at hSw); go_simp <;> with_reducible rfl)
         try simp only [Array.reduceGetElem, Act.put, List.setIfInBounds_toArray, List.set_cons_zero, List.set_cons_succ])
      | (refine wpAnyH_take (i := 2) rfl (by kernel_rfl) (by kernel_rfl) (by kernel_rfl) (fun _ _ _ h => h) (Or.inr ⟨by rfl, rfl⟩) hHeld ?rest14x2
         try simp only [Array.reduceGetElem, Act.put, List.setIfInBounds_toArray, List.set_cons_zero, List.set_cons_succ])
      first
      | (refine wpAnyH_take (i := 3) (v := ?v14x3) rfl (by kernel_rfl) (by kernel_rfl) (by kernel_rfl) (fun _ _ _ h => h) (Or.inl ⟨by rfl, ?hy14x3⟩) hHeld ?rest14x3
         case hy14x3 => (intro w hSw; (try dsimp only at hSw); go_simp <;> with_reducible rfl)
         try simp only [Array.reduceGetElem, Act.put, List.setIfInBounds_toArray, List.set_cons_zero, List.set_cons_succ])
      | (refine wpAnyH_take (i := 3) rfl (by kernel_rfl) (by kernel_rfl) (by kernel_rfl) (fun _ _ _ h => h) (Or.inr ⟨by rfl, rfl⟩) hHeld ?rest14x3
         try simp only [Array.reduceGetElem, Act.put, List.setIfInBounds_toArray, List.set_cons_zero, List.set_cons_succ])
      first
      | (refine wpAnyH_take (i := 4) (v := ?v14x4) rfl (by kernel_rfl) (by kernel_rfl) (by kernel_rfl) (fun _ _ _ h => h) (Or.inl ⟨by rfl, ?hy14x4⟩) hHeld ?rest14x4
         case hy14x4 => (intro w hSw; (try dsimp only at hSw); go_simp <;> with_reducible rfl)
         try simp only [Array.reduceGetElem, Act.put, List.setIfInBounds_toArray, List.set_cons_zero, List.set_cons_succ])
      | (refine wpAnyH_take (i := 4) rfl (by kernel_rfl) (by kernel_rfl) (by kernel_rfl) (fun _ _ _ h => h) (Or.inr ⟨by rfl, rfl⟩) hHeld ?rest14x4
         try simp only [Array.reduceGetElem, Act.put, List.setIfInBounds_toArray, List.set_cons_zero, List.set_cons_succ])
      refine wpAnyH_ready (rs := [5]) (by kernel_rfl) (by simp) ?_
      refine AllReadyH.cons rfl (fun K hK => ?_) AllReadyH.nil
      go_simp
      go_at_call 13; refine (of_any _ _).mono ?_; rintro e y1 ⟨rfl, hb⟩; go_wp2_with fail
      refine hK.out _ _ ?_ (fun hHeld2 => ?_)
      · exact ⟨(hb.cell (by exact hHeld.2.2.2.2)).trans hHeld.1, (hb.cell (by exact hHeld.2.2.2.2)).trans hHeld.2.1, (hb.cell (by exact hHeld.2.2.2.2)).trans hHeld.2.2.1, two hHeld.2.2.2.1 hb, Nat.lt_of_lt_of_le hHeld.2.2.2.2 hb.size⟩
      clear hK K hHeld
      have hHeld := hHeld2
      clear hHeld2
      try simp only [Array.reduceGetElem, Act.put, List.setIfInBounds_toArray, List.set_cons_zero, List.set_cons_succ]
      first
      | (refine wpAnyH_take (i := 6) (v := ?v14x6) rfl (by kernel_rfl) (by kernel_rfl) (by kernel_rfl) (fun _ _ _ h => h) (Or.inl ⟨by rfl, ?hy14x6⟩) hHeld ?rest14x6
         case hy14x6 => (intro w hSw; (try dsimp only at hSw); go_simp <;> with_reducible rfl)
         try simp only [Array.reduceGetElem, Act.put, List.setIfInBounds_toArray, List.set_cons_zero, List.set_cons_succ])
      | (refine wpAnyH_take (i := 6) rfl (by kernel_rfl) (by kernel_rfl) (by kernel_rfl) (fun _ _ _ h => h) (Or.inr ⟨by rfl, rfl⟩) hHeld ?rest14x6
         try simp only [Array.reduceGetElem, Act.put, List.setIfInBounds_toArray, List.set_cons_zero, List.set_cons_succ])
      first
      | (refine wpAnyH_take (i := 7) (v := ?v14x7) rfl (by kernel_rfl) (by kernel_rfl) (by kernel_rfl) (fun _ _ _ h => h) (Or.inl ⟨by rfl, ?hy14x7⟩) hHeld ?rest14x7
         case hy14x7 => (intro w hSw; (try dsimp only at hSw); go_simp <;> with_reducible rfl)
         try simp only [Array.reduceGetElem, Act.put, List.setIfInBounds_toArray, List.set_cons_zero, List.set_cons_succ])
      | (refine wpAnyH_take (i := 7) rfl (by kernel_rfl) (by kernel_rfl) (by kernel_rfl) (fun _ _ _ h => h) (Or.inr ⟨by rfl, rfl⟩) hHeld ?rest14x7
         try simp only [Array.reduceGetElem, Act.put, List.setIfInBounds_toArray, List.set_cons_zero, List.set_cons_succ])
      first
      | (refine wpAnyH_take (i := 8) (v := ?v14x8) rfl (by kernel_rfl) (by kernel_rfl) (by kernel_rfl) (fun _ _ _ h => h) (Or.inl ⟨by rfl, ?hy14x8⟩) hHeld ?rest14x8
         case hy14x8 => (intro w hSw; (try dsimp only at hSw); go_simp <;> with_reducible rfl)
         try simp only [Array.reduceGetElem, Act.put, List.setIfInBounds_toArray, List.set_cons_zero, List.set_cons_succ])
      | (refine wpAnyH_take (i := 8) rfl (by kernel_rfl) (by kernel_rfl) (by kernel_rfl) (fun _ _ _ h => h) (Or.inr ⟨by rfl, rfl⟩) hHeld ?rest14x8
         try simp only [Array.reduceGetElem, Act.put, List.setIfInBounds_toArray, List.set_cons_zero, List.set_cons_succ])
      refine wpAnyH_ready (rs := [9]) (by kernel_rfl) (by simp) ?_
      refine AllReadyH.cons rfl (fun K hK => ?_) AllReadyH.nil
      go_simp
      go_at_call 16; refine (awake_any _ (HE.out.below hHeld.2.2.2.1)).mono ?_; rintro e y2 ⟨rfl, hb⟩; go_wp2_with fail
      refine hK.out _ _ ?_ (fun hHeld2 => ?_)
      · exact ⟨(hb.cell (by exact hHeld.2.2.2.2)).trans hHeld.1, (hb.cell (by exact hHeld.2.2.2.2)).trans hHeld.2.1, (hb.cell (by exact hHeld.2.2.2.2)).trans hHeld.2.2.1, two hHeld.2.2.2.1 hb, Nat.lt_of_lt_of_le hHeld.2.2.2.2 hb.size⟩
      clear hK K hHeld
      have hHeld := hHeld2
      clear hHeld2
      try simp only [Array.reduceGetElem, Act.put, List.setIfInBounds_toArray, List.set_cons_zero, List.set_cons_succ]
      first
      | (refine wpAnyH_take (i := 10) (v := ?v14x10) rfl (by kernel_rfl) (by kernel_rfl) (by kernel_rfl) (fun _ _ _ h => h) (Or.inl ⟨by rfl, ?hy14x10⟩) hHeld ?rest14x10
         case hy14x10 => (intro w hSw; (try dsimp only at hSw); go_simp <;> with_reducible rfl)
         try simp only [Array.reduceGetElem, Act.put, List.setIfInBounds_toArray, List.set_cons_zero, List.set_cons_succ])
      | (refine wpAnyH_take (i := 10) rfl (by kernel_rfl) (by kernel_rfl) (by kernel_rfl) (fun _ _ _ h => h) (Or.inr ⟨by rfl, rfl⟩) hHeld ?rest14x10
         try simp only [Array.reduceGetElem, Act.put, List.setIfInBounds_toArray, List.set_cons_zero, List.set_cons_succ])
      first
      | (refine wpAnyH_take (i := 11) (v := ?v14x11) rfl (by kernel_rfl) (by kernel_rfl) (by kernel_rfl) (fun _ _ _ h => h) (Or.inl ⟨by rfl, ?hy14x11⟩) hHeld ?rest14x11
         case hy14x11 => (intro w hSw; (try dsimp only at hSw); go_simp <;> with_reducible rfl)
         try simp only [Array.reduceGetElem, Act.put, List.setIfInBounds_toArray, List.set_cons_zero, List.set_cons_succ])
      | (refine wpAnyH_take (i := 11) rfl (by kernel_rfl) (by kernel_rfl) (by kernel_rfl) (fun _ _ _ h => h) (Or.inr ⟨by rfl, rfl⟩) hHeld ?rest14x11
         try simp only [Array.reduceGetElem, Act.put, List.setIfInBounds_toArray, List.set_cons_zero, List.set_cons_succ])
      refine wpAnyH_done (by kernel_rfl) ?_ _
      go_wp2_with fail
      go_ret
      exact ⟨rfl, hHeld.2.2.2.1⟩
  · have hP := hHeld.2.2.2
    have zA := hHeld.2.2.2.size
    have hA := hHeld.2.2.2.alloc zA (.cells #[.int .i64 0, .int .i64 0, .string ⟨#[]⟩] 23)
    go_simp
    refine hK.out _ _ ?_ (fun hHeld2 => ?_)
    · exact HM2.out _ hA
    clear hK K hHeld
    have hHeld := hHeld2
    clear hHeld2
    try simp only [Array.reduceGetElem, Act.put, List.setIfInBounds_toArray, List.set_cons_zero, List.set_cons_succ]
    refine wpAnyH_ready (rs := [2]) (by kernel_rfl) (by simp) ?_
    refine AllReadyH.cons rfl (fun K hK => ?_) AllReadyH.nil
    go_simp
    go_at_call 13
    refine (of_any _ _).mono ?_
    rintro e x1 ⟨rfl, hbx1⟩
    go_wp2_with fail
    refine hK.out _ _ ?_ (fun hHeld2 => ?_)
    · exact HM2.out _ (two hHeld.2.2.2 hbx1)
    clear hK K hHeld
    have hHeld := hHeld2
    clear hHeld2
    try simp only [Array.reduceGetElem, Act.put, List.setIfInBounds_toArray, List.set_cons_zero, List.set_cons_succ]
    refine wpAnyH_ready (rs := [3]) (by kernel_rfl) (by simp) ?_
    refine AllReadyH.cons rfl (fun K hK => ?_) AllReadyH.nil
    go_simp
    go_at_call 17
    refine (HB.out _).mono ?_
    rintro e x2 ⟨rfl, hbx2⟩
    go_wp2_with fail
    refine hK.out _ _ ?_ (fun hHeld2 => ?_)
    · exact HM2.out _ (two hHeld.2.2.2 hbx2)
    clear hK K hHeld
    have hHeld := hHeld2
    clear hHeld2
    try simp only [Array.reduceGetElem, Act.put, List.setIfInBounds_toArray, List.set_cons_zero, List.set_cons_succ]
    refine wpAnyH_take (i := 4) (v := ?v15y4) rfl (by kernel_rfl) (by kernel_rfl) (by kernel_rfl) (fun _ _ _ h => h) (Or.inl ⟨by rfl, ?hy15y4⟩) hHeld ?rest15y4
    case hy15y4 => (intro w hSw; (try dsimp only at hSw); go_simp <;> with_reducible rfl)
    try simp only [Array.reduceGetElem, Act.put, List.setIfInBounds_toArray, List.set_cons_zero, List.set_cons_succ]
    refine wpAnyH_take (i := 5) (v := ?v16y5) rfl (by kernel_rfl) (by kernel_rfl) (by kernel_rfl) (fun _ _ _ h => h) (Or.inl ⟨by rfl, ?hy16y5⟩) hHeld ?rest16y5
    case hy16y5 => (intro w hSw; (try dsimp only at hSw); go_simp <;> with_reducible rfl)
    try simp only [Array.reduceGetElem, Act.put, List.setIfInBounds_toArray, List.set_cons_zero, List.set_cons_succ]
    refine wpAnyH_take (i := 6) (v := ?v17y6) rfl (by kernel_rfl) (by kernel_rfl) (by kernel_rfl) (fun _ _ _ h => h) (Or.inl ⟨by rfl, ?hy17y6⟩) hHeld ?rest17y6
    case hy17y6 => (intro w hSw; (try dsimp only at hSw); go_simp <;> with_reducible rfl)
    try simp only [Array.reduceGetElem, Act.put, List.setIfInBounds_toArray, List.set_cons_zero, List.set_cons_succ]
    have k0 := box (two (undrew hbx1) hbx2) (by simp) 0
    have k1 := box (two (undrew hbx1) hbx2) (by simp) 1
    have k2 := box (two (undrew hbx1) hbx2) (by simp) 2
    have q0 := boxf (two (undrew hbx1) hbx2) (by simp) 0
    have q1 := boxf (two (undrew hbx1) hbx2) (by simp) 1
    have q2 := boxf (two (undrew hbx1) hbx2) (by simp) 2
    have zx := (two (undrew hbx1) hbx2).size
    simp only [World.size_alloc] at zx
    simp only [List.getElem?_toArray, List.getElem?_cons_zero, List.getElem?_cons_succ] at k0 k1 k2
    refine wpAnyH_ready (rs := [8]) (by kernel_rfl) (by simp) ?_
    refine AllReadyH.cons rfl (fun K hK => ?_) AllReadyH.nil
    have hQ := hHeld.2.2.2
    go_simp
    refine hK.out _ _ ?_ (fun hHeld2 => ?_)
    · exact HM2.out _ (by go_grown)
    clear hK K hHeld
    have hHeld := hHeld2
    clear hHeld2
    try simp only [Array.reduceGetElem, Act.put, List.setIfInBounds_toArray, List.set_cons_zero, List.set_cons_succ]
    refine wpAnyH_take (i := 9) (v := ?v18y9) rfl (by kernel_rfl) (by kernel_rfl) (by kernel_rfl) (fun _ _ _ h => h) (Or.inl ⟨by rfl, ?hy18y9⟩) hHeld ?rest18y9
    case hy18y9 => (intro w hSw; (try dsimp only at hSw); go_simp <;> with_reducible rfl)
    try simp only [Array.reduceGetElem, Act.put, List.setIfInBounds_toArray, List.set_cons_zero, List.set_cons_succ]
    refine wpAnyH_done (by kernel_rfl) ?_ _
    go_wp2_with fail
    refine wp_region_held_drew (S := (fun W => W.cell? ⟨w8.heap.size, 0, none⟩ = some (.int .i64 1) ∧ W.cell? ⟨w8.heap.size, 1, none⟩ = some (.int .i64 a) ∧ W.cell? ⟨w8.heap.size, 2, none⟩ = some (.string ⟨#[]⟩) ∧ Below w.heap.size w W ∧ w8.heap.size < W.heap.size)) (by kernel_rfl) (by exact ⟨(set3 _ _ _ k0 k1 k2).1, (set3 _ _ _ k0 k1 k2).2.1, (set3 _ _ _ k0 k1 k2).2.2, Below.drew (two hk hHeld.2.2.2), by simp; omega⟩) (fun hHeld => ?_)
    first
    | (refine wpAnyH_take (i := 0) (v := ?v19x0) rfl (by kernel_rfl) (by kernel_rfl) (by kernel_rfl) (fun _ _ _ h => h) (Or.inl ⟨by rfl, ?hy19x0⟩) hHeld ?rest19x0
       case hy19x0 => (intro w hSw; (try dsimp only at hSw); go_simp <;> with_reducible rfl)
       try simp only [Array.reduceGetElem, Act.put, List.setIfInBounds_toArray, List.set_cons_zero, List.set_cons_succ])
    | (refine wpAnyH_take (i := 0) rfl (by kernel_rfl) (by kernel_rfl) (by kernel_rfl) (fun _ _ _ h => h) (Or.inr ⟨by rfl, rfl⟩) hHeld ?rest19x0
       try simp only [Array.reduceGetElem, Act.put, List.setIfInBounds_toArray, List.set_cons_zero, List.set_cons_succ])
    first
    | (refine wpAnyH_take (i := 1) (v := ?v19x1) rfl (by kernel_rfl) (by kernel_rfl) (by kernel_rfl) (fun _ _ _ h => h) (Or.inl ⟨by rfl, ?hy19x1⟩) hHeld ?rest19x1
       case hy19x1 => (intro w hSw; (try dsimp only at hSw); go_simp <;> with_reducible rfl)
       try simp only [Array.reduceGetElem, Act.put, List.setIfInBounds_toArray, List.set_cons_zero, List.set_cons_succ])
    | (refine wpAnyH_take (i := 1) rfl (by kernel_rfl) (by kernel_rfl) (by kernel_rfl) (fun _ _ _ h => h) (Or.inr ⟨by rfl, rfl⟩) hHeld ?rest19x1
       try simp only [Array.reduceGetElem, Act.put, List.setIfInBounds_toArray, List.set_cons_zero, List.set_cons_succ])
    first
    | (refine wpAnyH_take (i := 2) (v := ?v19x2) rfl (by kernel_rfl) (by kernel_rfl) (by kernel_rfl) (fun _ _ _ h => h) (Or.inl ⟨by rfl, ?hy19x2⟩) hHeld ?rest19x2
       case hy19x2 => (intro w hSw; (try dsimp only at hSw); go_simp <;> with_reducible rfl)
       try simp only [Array.reduceGetElem, Act.put, List.setIfInBounds_toArray, List.set_cons_zero, List.set_cons_succ])
    | (refine wpAnyH_take (i := 2) rfl (by kernel_rfl) (by kernel_rfl) (by kernel_rfl) (fun _ _ _ h => h) (Or.inr ⟨by rfl, rfl⟩) hHeld ?rest19x2
       try simp only [Array.reduceGetElem, Act.put, List.setIfInBounds_toArray, List.set_cons_zero, List.set_cons_succ])
    first
    | (refine wpAnyH_take (i := 3) (v := ?v19x3) rfl (by kernel_rfl) (by kernel_rfl) (by kernel_rfl) (fun _ _ _ h => h) (Or.inl ⟨by rfl, ?hy19x3⟩) hHeld ?rest19x3
       case hy19x3 => (intro w hSw; (try dsimp only at hSw); go_simp <;> with_reducible rfl)
       try simp only [Array.reduceGetElem, Act.put, List.setIfInBounds_toArray, List.set_cons_zero, List.set_cons_succ])
    | (refine wpAnyH_take (i := 3) rfl (by kernel_rfl) (by kernel_rfl) (by kernel_rfl) (fun _ _ _ h => h) (Or.inr ⟨by rfl, rfl⟩) hHeld ?rest19x3
       try simp only [Array.reduceGetElem, Act.put, List.setIfInBounds_toArray, List.set_cons_zero, List.set_cons_succ])
    first
    | (refine wpAnyH_take (i := 4) (v := ?v19x4) rfl (by kernel_rfl) (by kernel_rfl) (by kernel_rfl) (fun _ _ _ h => h) (Or.inl ⟨by rfl, ?hy19x4⟩) hHeld ?rest19x4
       case hy19x4 => (intro w hSw; (try dsimp only at hSw); go_simp <;> with_reducible rfl)
       try simp only [Array.reduceGetElem, Act.put, List.setIfInBounds_toArray, List.set_cons_zero, List.set_cons_succ])
    | (refine wpAnyH_take (i := 4) rfl (by kernel_rfl) (by kernel_rfl) (by kernel_rfl) (fun _ _ _ h => h) (Or.inr ⟨by rfl, rfl⟩) hHeld ?rest19x4
       try simp only [Array.reduceGetElem, Act.put, List.setIfInBounds_toArray, List.set_cons_zero, List.set_cons_succ])
    refine wpAnyH_ready (rs := [5]) (by kernel_rfl) (by simp) ?_
    refine AllReadyH.cons rfl (fun K hK => ?_) AllReadyH.nil
    go_simp
    go_at_call 13; refine (of_any _ _).mono ?_; rintro e y1 ⟨rfl, hb⟩; go_wp2_with fail
    refine hK.out _ _ ?_ (fun hHeld2 => ?_)
    · exact ⟨(hb.cell (by exact hHeld.2.2.2.2)).trans hHeld.1, (hb.cell (by exact hHeld.2.2.2.2)).trans hHeld.2.1, (hb.cell (by exact hHeld.2.2.2.2)).trans hHeld.2.2.1, two hHeld.2.2.2.1 hb, Nat.lt_of_lt_of_le hHeld.2.2.2.2 hb.size⟩
    clear hK K hHeld
    have hHeld := hHeld2
    clear hHeld2
    try simp only [Array.reduceGetElem, Act.put, List.setIfInBounds_toArray, List.set_cons_zero, List.set_cons_succ]
    first
    | (refine wpAnyH_take (i := 6) (v := ?v19x6) rfl (by kernel_rfl) (by kernel_rfl) (by kernel_rfl) (fun _ _ _ h => h) (Or.inl ⟨by rfl, ?hy19x6⟩) hHeld ?rest19x6
       case hy19x6 => (intro w hSw; (try dsimp only at hSw); go_simp <;> with_reducible rfl)
       try simp only [Array.reduceGetElem, Act.put, List.setIfInBounds_toArray, List.set_cons_zero, List.set_cons_succ])
    | (refine wpAnyH_take (i := 6) rfl (by kernel_rfl) (by kernel_rfl) (by kernel_rfl) (fun _ _ _ h => h) (Or.inr ⟨by rfl, rfl⟩) hHeld ?rest19x6
       try simp only [Array.reduceGetElem, Act.put, List.setIfInBounds_toArray, List.set_cons_zero, List.set_cons_succ])
    first
    | (refine wpAnyH_take (i := 7) (v := ?v19x7) rfl (by kernel_rfl) (by kernel_rfl) (by kernel_rfl) (fun _ _ _ h => h) (Or.inl ⟨by rfl, ?hy19x7⟩) hHeld ?rest19x7
       case hy19x7 => (intro w hSw; (try dsimp only at hSw); go_simp <;> with_reducible rfl)
       try simp only [Array.reduceGetElem, Act.put, List.setIfInBounds_toArray, List.set_cons_zero, List.set_cons_succ])
    | (refine wpAnyH_take (i := 7) rfl (by kernel_rfl) (by kernel_rfl) (by kernel_rfl) (fun _ _ _ h => h) (Or.inr ⟨by rfl, rfl⟩) hHeld ?rest19x7
       try simp only [Array.reduceGetElem, Act.put, List.setIfInBounds_toArray, List.set_cons_zero, List.set_cons_succ])
    first
    | (refine wpAnyH_take (i := 8) (v := ?v19x8) rfl (by kernel_rfl) (by kernel_rfl) (by kernel_rfl) (fun _ _ _ h => h) (Or.inl ⟨by rfl, ?hy19x8⟩) hHeld ?rest19x8
       case hy19x8 => (intro w hSw; (try dsimp only at hSw); go_simp <;> with_reducible rfl)
       try simp only [Array.reduceGetElem, Act.put, List.setIfInBounds_toArray, List.set_cons_zero, List.set_cons_succ])
    | (refine wpAnyH_take (i := 8) rfl (by kernel_rfl) (by kernel_rfl) (by kernel_rfl) (fun _ _ _ h => h) (Or.inr ⟨by rfl, rfl⟩) hHeld ?rest19x8
       try simp only [Array.reduceGetElem, Act.put, List.setIfInBounds_toArray, List.set_cons_zero, List.set_cons_succ])
    refine wpAnyH_ready (rs := [9]) (by kernel_rfl) (by simp) ?_
    refine AllReadyH.cons rfl (fun K hK => ?_) AllReadyH.nil
    go_simp
    go_at_call 16; refine (awake_any _ (HE.out.below hHeld.2.2.2.1)).mono ?_; rintro e y2 ⟨rfl, hb⟩; go_wp2_with fail
    refine hK.out _ _ ?_ (fun hHeld2 => ?_)
    · exact ⟨(hb.cell (by exact hHeld.2.2.2.2)).trans hHeld.1, (hb.cell (by exact hHeld.2.2.2.2)).trans hHeld.2.1, (hb.cell (by exact hHeld.2.2.2.2)).trans hHeld.2.2.1, two hHeld.2.2.2.1 hb, Nat.lt_of_lt_of_le hHeld.2.2.2.2 hb.size⟩
    clear hK K hHeld
    have hHeld := hHeld2
    clear hHeld2
    try simp only [Array.reduceGetElem, Act.put, List.setIfInBounds_toArray, List.set_cons_zero, List.set_cons_succ]
    first
    | (refine wpAnyH_take (i := 10) (v := ?v19x10) rfl (by kernel_rfl) (by kernel_rfl) (by kernel_rfl) (fun _ _ _ h => h) (Or.inl ⟨by rfl, ?hy19x10⟩) hHeld ?rest19x10
       case hy19x10 => (intro w hSw; (try dsimp only at hSw); go_simp <;> with_reducible rfl)
       try simp only [Array.reduceGetElem, Act.put, List.setIfInBounds_toArray, List.set_cons_zero, List.set_cons_succ])
    | (refine wpAnyH_take (i := 10) rfl (by kernel_rfl) (by kernel_rfl) (by kernel_rfl) (fun _ _ _ h => h) (Or.inr ⟨by rfl, rfl⟩) hHeld ?rest19x10
       try simp only [Array.reduceGetElem, Act.put, List.setIfInBounds_toArray, List.set_cons_zero, List.set_cons_succ])
    first
    | (refine wpAnyH_take (i := 11) (v := ?v19x11) rfl (by kernel_rfl) (by kernel_rfl) (by kernel_rfl) (fun _ _ _ h => h) (Or.inl ⟨by rfl, ?hy19x11⟩) hHeld ?rest19x11
       case hy19x11 => (intro w hSw; (try dsimp only at hSw); go_simp <;> with_reducible rfl)
       try simp only [Array.reduceGetElem, Act.put, List.setIfInBounds_toArray, List.set_cons_zero, List.set_cons_succ])
    | (refine wpAnyH_take (i := 11) rfl (by kernel_rfl) (by kernel_rfl) (by kernel_rfl) (fun _ _ _ h => h) (Or.inr ⟨by rfl, rfl⟩) hHeld ?rest19x11
       try simp only [Array.reduceGetElem, Act.put, List.setIfInBounds_toArray, List.set_cons_zero, List.set_cons_succ])
    refine wpAnyH_done (by kernel_rfl) ?_ _
    go_wp2_with fail
    go_ret
    exact ⟨rfl, hHeld.2.2.2.1⟩

end Go.Proofs.YtedpgeilamhipaaDoor.Va
