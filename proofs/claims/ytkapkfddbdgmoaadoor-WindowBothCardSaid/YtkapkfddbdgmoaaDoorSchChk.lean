/- The law on right schemes and their partitions. -/
import Derived.Test.YtkapkfddbdgmoaaDoorSchWin
set_option linter.unusedVariables false
set_option linter.unusedSimpArgs false
namespace Go.Proofs.YtkapkfddbdgmoaaDoor.Sc
open Go.RowKit Go Go.Sort Ba
open Cal hiding ret_int ret_bool lt_of_cell

/-- A row of ints that the call owns, from world to world. -/
theorem own_next {w w' : World} {base : Nat} {e : TypeId} {size : Nat} {v : Value} {n : Nat} {xs : List Value} (h : w.ownsRow base e size v n xs) (hb : Below w.heap.size w w') : w'.ownsRow base e size v n xs := own_below h hb (Nat.le_refl _)
/-- What a row of ints of the call's own is: nothing, or a block's head. -/
theorem ints_shape {w : World} {base : Nat} {v : Value} {n : Nat} {L : List Int} (h : w.ownsRow base 3 1 v n (L.map (Value.int .i64))) (hn : n = L.length) (hpos : 0 < n) :
    ∃ g cap, v = .slice (some ⟨g, 0, none⟩) n cap ∧ g < w.heap.size ∧ base ≤ g ∧ ∀ j x, L[j]? = some x → w.cell? ⟨g, j, none⟩ = some (.int .i64 x) := by
  have h' := h
  obtain ⟨h1, h2⟩ := h
  rcases h2 with ⟨rfl, h2⟩ | ⟨g, cap, cur, rfl, hg, hh, r⟩
  · omega
  · refine ⟨g, cap, rfl, (h'.lt g rfl).2, hg, fun j x hx => ?_⟩
    have hj : j < n := by rw [hn]; exact (List.getElem?_eq_some_iff.1 hx).1
    have := h'.cellAt j (by omega)
    rw [this, List.getElem?_map, hx]; rfl

set_option maxRecDepth 100000 in
set_option maxHeartbeats 3200000 in
theorem checks_no (k f l i : Int) (w : World) (b0 : -9223372036854775808 ≤ f) (b1 : l ≤ 9223372036854775807) (hE : EnvS w) (hr : rightS k f l = false) :
    Calls Tryd.prog 6 #[.agg #[.int .i64 k, .int .i64 f, .int .i64 l], .int .i64 i] w fun e w' => e = .returned (.bool true) ∧ Below w.heap.size w w' := by
  have HE := Lib.hid hE
  have bw : Below w.heap.size w (w.alloc (.cells #[.int .i64 k, .int .i64 f, .int .i64 l] 23)) := by go_grown
  have V := Box.new w [.int .i64 k, .int .i64 f, .int .i64 l] 23
  have HR := Lib.hid hr
  clear hE hr
  go_enter Tryd.func6, Tryd.ntmps6
  go_wp2_with fail
  refine (ref_is k f l _).mono ?_
  rintro e w1 ⟨rfl, hb⟩
  have bw := two bw hb
  have V := V.next hb
  clear hb
  go_wp2_with fail
  refine (refRight_is k f l false _ b0 b1 HR.out).mono ?_
  rintro e w2 ⟨rfl, hb⟩
  have bw := two bw hb
  have V := V.next hb
  clear hb
  obtain ⟨x0, x1, x2, p0, p1, p2⟩ := V.three
  go_wp2_with fail
  refine (check_is k f l false _ (HE.out.below bw).len b0 b1 HR.out).mono ?_
  rintro e w3 ⟨rfl, hb⟩
  have bw := two bw hb
  clear hb x0 x1 x2 p0 p1 p2
  go_wp2_with fail
  refine (awake_any _ (HE.out.below bw)).mono ?_
  rintro e w9 ⟨rfl, hb9⟩
  go_wp2_with fail
  go_ret
  exact ⟨rfl, two bw hb9⟩
set_option maxRecDepth 100000 in
set_option maxHeartbeats 3200000 in
theorem checks_yes (k f l i : Int) (r : Bool) (w : World) (b0 : -9223372036854775808 ≤ f) (b1 : l ≤ 9223372036854775807) (hE : EnvS w) (hr : rightS k f l = true) (hi : decide (f ≤ i ∧ i ≤ l) = r) :
    Calls Tryd.prog 6 #[.agg #[.int .i64 k, .int .i64 f, .int .i64 l], .int .i64 i] w fun e w' => e = .returned (.bool true) ∧ Below w.heap.size w w' := by
  have HE := Lib.hid hE
  have bw : Below w.heap.size w (w.alloc (.cells #[.int .i64 k, .int .i64 f, .int .i64 l] 23)) := by go_grown
  have V := Box.new w [.int .i64 k, .int .i64 f, .int .i64 l] 23
  obtain ⟨k1, k5, f0, fl, lf, _, lfar, _⟩ := rs_iff hr
  have HR := Lib.hid hr
  obtain ⟨n, hn⟩ : ∃ n : Nat, (l - f + 1).toNat = n := ⟨_, rfl⟩
  have hn' : (n : Int) = l - f + 1 := by omega
  have hn0 : 0 < n := by omega
  have HN := Lib.hid hn
  have hP := fun W => parts_is k f l W f0 fl lf (by omega)
  rw [hn] at hP
  have HP := Lib.hid hP
  have HC : Hid (l - f + 1 = (n : Int)) := hn'.symm
  have HI : Hid (decide (f ≤ i ∧ i ≤ l) = r) := hi
  have hw1 : IntKind.i64.wrap (l - f) = l - f := IntWalk.i64_in _ (by omega)
  have hw2 : IntKind.i64.wrap (l - f + 1) = (n : Int) := by rw [HC.out]; exact IntWalk.i64_in _ (by omega)
  have HTest : Hid ((decide (f ≤ i) && decide (i ≤ l)) = r) := by
    show (decide (f ≤ i) && decide (i ≤ l)) = r
    rw [← HI.out, Bool.eq_iff_iff]; simp
  clear hE hr hn hP hi
  by_cases c1 : f ≤ i
  · by_cases c2 : i ≤ l
    · obtain rfl : r = true := by rw [← HI.out]; exact decide_eq_true ⟨c1, c2⟩
      go_enter Tryd.func6, Tryd.ntmps6
      go_wp2_with fail
      refine (ref_is k f l _).mono ?_
      rintro e w1 ⟨rfl, hb⟩
      have bw := two bw hb
      have V := V.next hb
      clear hb
      go_wp2_with fail
      refine (refRight_is k f l true _ b0 b1 HR.out).mono ?_
      rintro e w2 ⟨rfl, hb⟩
      have bw := two bw hb
      have V := V.next hb
      clear hb
      obtain ⟨x0, x1, x2, p0, p1, p2⟩ := V.three
      go_wp2_with fail
      refine (HP.out _).mono ?_
      rintro e w3 ⟨v, rfl, hown, hb⟩
      clear x0 x1 x2 p0 p1 p2
      have bw := two bw hb
      have V := V.next hb
      clear hb
      rw [parts_len] at hown
      obtain ⟨g, cap, hv, hg1, hg2, hcl⟩ := ints_shape hown (parts_len f n).symm hn0
      rw [hv]
      have HCL := Lib.hid hcl
      clear hv hown hcl
      obtain ⟨x0, x1, x2, p0, p1, p2⟩ := V.three
      go_wp2_with fail
      have x0 := cell_regrown x0
      have x1 := cell_regrown x1
      have x2 := cell_regrown x2
      have cA := qcall (w := w3) fun W' hb => check_is k f l true W' (HE.out.below (two bw hb)).len b0 b1 HR.out
      have cB := qcall (w := w3) fun W' hb => count_is k f l n W' f0 fl (by omega) HC.out
      have cC := qcall (w := w3) fun W' hb => has_is k f l i true W' HI.out
      refine wp_region_quiet_below (by kernel_rfl) (by kernel_rfl) ?_
      repeat (go_big_quiet_step (with_reducible (first | exact cA _ _ | exact cB _ _ | exact cC _ _)))
      refine wpQuiet_nil ?_
      intro _ hw'
      obtain ⟨⟨dq1, os1⟩, hw''⟩ := hw'
      subst hw''
      clear x0 x1 x2 p0 p1 p2 cA cB cC
      have bg := below_regrown w3 dq1 os1
      have V := V.next bg
      have bw := two bw bg
      have HCL2 : Hid (∀ j x, (partsL f n)[j]? = some x → (grow (redrawn w3 dq1) os1).cell? ⟨g, j, none⟩ = some (.int .i64 x)) := fun j x hx => (bg.cell (by exact hg1)).trans (HCL.out j x hx)
      clear bg
      generalize grow (redrawn w3 dq1) os1 = w4 at *
      obtain ⟨x0, x1, x2, p0, p1, p2⟩ := V.three
      go_wp2_with fail
      go_loop [59] (fun t => ∃ j : Nat, j ≤ n ∧ t = .int .i64 j) (fun t => n - (intOf t).toNat)
      case atStart => exact ⟨0, Nat.zero_le _, rfl⟩
      case round =>
        obtain ⟨j, hj, rfl⟩ := hrel
        by_cases hlt : j < n
        · have hc := HCL2.out j _ (parts_at f n j hlt)
          have hfj : f + (j : Int) ≤ 2147483648 := by omega
          go_wp2_with fail
          go_round
          case rel => exact ⟨j + 1, by omega, by go_num⟩
          case measure => simp [intOf]; omega
        · have hjn : j = n := by omega
          have HJ := Lib.hid hjn
          clear hjn
          go_wp2_with fail
          refine (awake_any _ (HE.out.below bw)).mono ?_
          rintro e w9 ⟨rfl, hb9⟩
          clear x0 x1 x2 p0 p1 p2
          go_wp2_with fail
          go_ret
          exact ⟨rfl, two bw hb9⟩
    · obtain rfl : r = false := by rw [← HI.out]; exact decide_eq_false (by omega)
      go_enter Tryd.func6, Tryd.ntmps6
      go_wp2_with fail
      refine (ref_is k f l _).mono ?_
      rintro e w1 ⟨rfl, hb⟩
      have bw := two bw hb
      have V := V.next hb
      clear hb
      go_wp2_with fail
      refine (refRight_is k f l true _ b0 b1 HR.out).mono ?_
      rintro e w2 ⟨rfl, hb⟩
      have bw := two bw hb
      have V := V.next hb
      clear hb
      obtain ⟨x0, x1, x2, p0, p1, p2⟩ := V.three
      go_wp2_with fail
      refine (HP.out _).mono ?_
      rintro e w3 ⟨v, rfl, hown, hb⟩
      clear x0 x1 x2 p0 p1 p2
      have bw := two bw hb
      have V := V.next hb
      clear hb
      rw [parts_len] at hown
      obtain ⟨g, cap, hv, hg1, hg2, hcl⟩ := ints_shape hown (parts_len f n).symm hn0
      rw [hv]
      have HCL := Lib.hid hcl
      clear hv hown hcl
      obtain ⟨x0, x1, x2, p0, p1, p2⟩ := V.three
      go_wp2_with fail
      have x0 := cell_regrown x0
      have x1 := cell_regrown x1
      have x2 := cell_regrown x2
      have cA := qcall (w := w3) fun W' hb => check_is k f l true W' (HE.out.below (two bw hb)).len b0 b1 HR.out
      have cB := qcall (w := w3) fun W' hb => count_is k f l n W' f0 fl (by omega) HC.out
      have cC := qcall (w := w3) fun W' hb => has_is k f l i false W' HI.out
      refine wp_region_quiet_below (by kernel_rfl) (by kernel_rfl) ?_
      repeat (go_big_quiet_step (with_reducible (first | exact cA _ _ | exact cB _ _ | exact cC _ _)))
      refine wpQuiet_nil ?_
      intro _ hw'
      obtain ⟨⟨dq1, os1⟩, hw''⟩ := hw'
      subst hw''
      clear x0 x1 x2 p0 p1 p2 cA cB cC
      have bg := below_regrown w3 dq1 os1
      have V := V.next bg
      have bw := two bw bg
      have HCL2 : Hid (∀ j x, (partsL f n)[j]? = some x → (grow (redrawn w3 dq1) os1).cell? ⟨g, j, none⟩ = some (.int .i64 x)) := fun j x hx => (bg.cell (by exact hg1)).trans (HCL.out j x hx)
      clear bg
      generalize grow (redrawn w3 dq1) os1 = w4 at *
      obtain ⟨x0, x1, x2, p0, p1, p2⟩ := V.three
      go_wp2_with fail
      go_loop [59] (fun t => ∃ j : Nat, j ≤ n ∧ t = .int .i64 j) (fun t => n - (intOf t).toNat)
      case atStart => exact ⟨0, Nat.zero_le _, rfl⟩
      case round =>
        obtain ⟨j, hj, rfl⟩ := hrel
        by_cases hlt : j < n
        · have hc := HCL2.out j _ (parts_at f n j hlt)
          have hfj : f + (j : Int) ≤ 2147483648 := by omega
          go_wp2_with fail
          go_round
          case rel => exact ⟨j + 1, by omega, by go_num⟩
          case measure => simp [intOf]; omega
        · have hjn : j = n := by omega
          have HJ := Lib.hid hjn
          clear hjn
          go_wp2_with fail
          refine (awake_any _ (HE.out.below bw)).mono ?_
          rintro e w9 ⟨rfl, hb9⟩
          clear x0 x1 x2 p0 p1 p2
          go_wp2_with fail
          go_ret
          exact ⟨rfl, two bw hb9⟩
  · obtain rfl : r = false := by rw [← HI.out]; exact decide_eq_false (by omega)
    have hdc : decide (f ≤ i) = false := decide_eq_false c1
    go_enter Tryd.func6, Tryd.ntmps6
    go_wp2_with fail
    refine (ref_is k f l _).mono ?_
    rintro e w1 ⟨rfl, hb⟩
    have bw := two bw hb
    have V := V.next hb
    clear hb
    go_wp2_with fail
    refine (refRight_is k f l true _ b0 b1 HR.out).mono ?_
    rintro e w2 ⟨rfl, hb⟩
    have bw := two bw hb
    have V := V.next hb
    clear hb
    obtain ⟨x0, x1, x2, p0, p1, p2⟩ := V.three
    go_wp2_with fail
    refine (HP.out _).mono ?_
    rintro e w3 ⟨v, rfl, hown, hb⟩
    clear x0 x1 x2 p0 p1 p2
    have bw := two bw hb
    have V := V.next hb
    clear hb
    rw [parts_len] at hown
    obtain ⟨g, cap, hv, hg1, hg2, hcl⟩ := ints_shape hown (parts_len f n).symm hn0
    rw [hv]
    have HCL := Lib.hid hcl
    clear hv hown hcl
    obtain ⟨x0, x1, x2, p0, p1, p2⟩ := V.three
    go_wp2_with fail
    have x0 := cell_regrown x0
    have x1 := cell_regrown x1
    have x2 := cell_regrown x2
    have cA := qcall (w := w3) fun W' hb => check_is k f l true W' (HE.out.below (two bw hb)).len b0 b1 HR.out
    have cB := qcall (w := w3) fun W' hb => count_is k f l n W' f0 fl (by omega) HC.out
    have cC := qcall (w := w3) fun W' hb => has_is k f l i false W' HI.out
    refine wp_region_quiet_below (by kernel_rfl) (by kernel_rfl) ?_
    repeat (go_big_quiet_step (with_reducible (first | exact cA _ _ | exact cB _ _ | exact cC _ _)))
    refine wpQuiet_nil ?_
    intro _ hw'
    obtain ⟨⟨dq1, os1⟩, hw''⟩ := hw'
    subst hw''
    clear x0 x1 x2 p0 p1 p2 cA cB cC
    have bg := below_regrown w3 dq1 os1
    have V := V.next bg
    have bw := two bw bg
    have HCL2 : Hid (∀ j x, (partsL f n)[j]? = some x → (grow (redrawn w3 dq1) os1).cell? ⟨g, j, none⟩ = some (.int .i64 x)) := fun j x hx => (bg.cell (by exact hg1)).trans (HCL.out j x hx)
    clear bg
    generalize grow (redrawn w3 dq1) os1 = w4 at *
    obtain ⟨x0, x1, x2, p0, p1, p2⟩ := V.three
    go_wp2_with fail
    go_loop [59] (fun t => ∃ j : Nat, j ≤ n ∧ t = .int .i64 j) (fun t => n - (intOf t).toNat)
    case atStart => exact ⟨0, Nat.zero_le _, rfl⟩
    case round =>
      obtain ⟨j, hj, rfl⟩ := hrel
      by_cases hlt : j < n
      · have hc := HCL2.out j _ (parts_at f n j hlt)
        have hfj : f + (j : Int) ≤ 2147483648 := by omega
        go_wp2_with fail
        go_round
        case rel => exact ⟨j + 1, by omega, by go_num⟩
        case measure => simp [intOf]; omega
      · have hjn : j = n := by omega
        have HJ := Lib.hid hjn
        clear hjn
        go_wp2_with fail
        refine (awake_any _ (HE.out.below bw)).mono ?_
        rintro e w9 ⟨rfl, hb9⟩
        clear x0 x1 x2 p0 p1 p2
        go_wp2_with fail
        go_ret
        exact ⟨rfl, two bw hb9⟩
theorem checks_law (k f l i : Int) (w : World) (b0 : -9223372036854775808 ≤ f) (b1 : l ≤ 9223372036854775807) (hE : EnvS w) :
    Calls Tryd.prog 6 #[.agg #[.int .i64 k, .int .i64 f, .int .i64 l], .int .i64 i] w fun e w' => e = .returned (.bool true) ∧ Below w.heap.size w w' := by
  cases hr : rightS k f l
  · exact checks_no k f l i w b0 b1 hE hr
  · exact checks_yes k f l i _ w b0 b1 hE hr rfl
end Go.Proofs.YtkapkfddbdgmoaaDoor.Sc
