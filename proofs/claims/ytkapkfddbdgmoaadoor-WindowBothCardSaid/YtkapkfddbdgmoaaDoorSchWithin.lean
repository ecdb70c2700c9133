/- Walks: the partitions within a stretch, by the library's DeleteFunc. -/
import Derived.Test.YtkapkfddbdgmoaaDoorWinBack
import Derived.Lib.LazyBuf
import Derived.Lib.SliceRun
set_option linter.unusedVariables false
set_option linter.unusedSimpArgs false
namespace Go.Proofs.YtkapkfddbdgmoaaDoor.Wi
open Go.RowKit Go Go.Sort Ba Sc
open Cal hiding ret_int ret_bool lt_of_cell

set_option maxHeartbeats 800000 in
/-- The test that is handed to DeleteFunc. -/
theorem within1_is (k f l h a b A B : Int) (r : Bool) (sB aB bB : Nat) (W : World) (S : Box W sB [.int .i64 k, .int .i64 f, .int .i64 l]) (M : Box W aB [.int .i64 a]) (N : Box W bB [.int .i64 b]) (hL : Len W) (h0 : 0 ≤ h) (h1 : h + 1 ≤ 2147483648) (hA : startV k h = A) (hB : startV k (h + 1) = B) (hr : decide (A < a ∨ b < B) = r) :
    Calls Tryd.prog 50 #[.int .i64 h, .pointer (some ⟨sB, 0, none⟩), .pointer (some ⟨aB, 0, none⟩), .pointer (some ⟨bB, 0, none⟩)] W fun e w' => e = .returned (.bool r) ∧ Below W.heap.size W w' := by
  obtain ⟨x0, x1, x2, _, _, _⟩ := S.three
  have y0 := M.cl 0 _ rfl
  have z0 := N.cl 0 _ rfl
  have HL := Lib.hid hL
  have HA := Lib.hid hA
  have HB := Lib.hid hB
  have HR := Lib.hid hr
  have hw1 : IntKind.i64.wrap (h + 1) = h + 1 := IntWalk.i64_in _ (by omega)
  clear hL hA hB hr
  have x0 := cell_regrown x0
  have x1 := cell_regrown x1
  have x2 := cell_regrown x2
  have y0 := cell_regrown y0
  have z0 := cell_regrown z0
  have cA := qcall (P := Tryd.prog) (w := W) fun W' hb => start_is k f l h A W' (Len.below HL.out hb) h0 (by omega) HA.out
  have cB := qcall (P := Tryd.prog) (w := W) fun W' hb => start_is k f l (h + 1) B W' (Len.below HL.out hb) (by omega) h1 HB.out
  by_cases c : A < a
  · obtain rfl : r = true := by rw [← HR.out]; exact decide_eq_true (.inl c)
    go_enter Tryd.func50, Tryd.ntmps50
    go_wp2_with fail
    refine wp_region_quiet_below (by kernel_rfl) (by kernel_rfl) ?_
    repeat (go_big_quiet_step (with_reducible (first | exact cA _ _ | exact cB _ _)))
    refine wpQuiet_nil ?_
    intro _ hw'
    obtain ⟨⟨dq1, os1⟩, hw''⟩ := hw'
    subst hw''
    go_wp2_with fail
    go_ret
    exact ⟨rfl, below_regrown _ _ _⟩
  · have d : decide (A < a) = false := decide_eq_false c
    have HQ : Hid (decide (b < B) = r) := by show decide (b < B) = r; rw [← HR.out, Bool.eq_iff_iff]; simp only [decide_eq_true_eq]; omega
    go_enter Tryd.func50, Tryd.ntmps50
    go_wp2_with fail
    refine wp_region_quiet_below (by kernel_rfl) (by kernel_rfl) ?_
    repeat (go_big_quiet_step (with_reducible (first | exact cA _ _ | exact cB _ _)))
    refine wpQuiet_nil ?_
    intro _ hw'
    obtain ⟨⟨dq1, os1⟩, hw''⟩ := hw'
    subst hw''
    go_wp2_with fail
    go_ret
    exact ⟨ret_bool (by rw [← HQ.out]; try rfl), below_regrown _ _ _⟩
/-- The three that the test keeps. -/
structure Three (W : World) (sB aB bB : Nat) (k f l a b : Int) : Prop where
  s : Box W sB [.int .i64 k, .int .i64 f, .int .i64 l]
  a : Box W aB [.int .i64 a]
  b : Box W bB [.int .i64 b]
  len : Len W
theorem Three.next {W W' : World} {sB aB bB : Nat} {k f l a b : Int} (h : Three W sB aB bB k f l a b) (hb : Below W.heap.size W W') : Three W' sB aB bB k f l a b := ⟨h.s.next hb, h.a.next hb, h.b.next hb, Len.below h.len hb⟩
theorem test_is {W : World} {sB aB bB : Nat} {k f l a b h : Int} (T : Three W sB aB bB k f l a b) (q : Bool) (h0 : 0 ≤ h) (h1 : h + 1 ≤ 2147483648) (hq : decide (startV k h < a ∨ b < startV k (h + 1)) = q) :
    Calls Tryd.prog 50 #[.int .i64 h, .pointer (some ⟨sB, 0, none⟩), .pointer (some ⟨aB, 0, none⟩), .pointer (some ⟨bB, 0, none⟩)] W fun e w' => e = .returned (.bool q) ∧ Below W.heap.size W w' :=
  within1_is k f l h a b _ _ q sB aB bB W T.s T.a T.b T.len h0 h1 rfl rfl hq
/-- Where the first one stands that is to go. -/
def First (p : Nat → Bool) (n : Nat) (w : World) (e : Ending) (w' : World) : Prop := ∃ r : Int, ((r = -1 ∧ ∀ t, t < n → p t = false) ∨ ∃ s : Nat, r = s ∧ s < n ∧ p s = true ∧ ∀ t, t < s → p t = false) ∧ e = .returned (.int .i64 r) ∧ Below w.heap.size w w'
set_option maxHeartbeats 1600000 in
theorem first_is (k f l a b : Int) (n cap : Nat) (p : Nat → Bool) (g sB aB bB : Nat) (w : World) (T : Three w sB aB bB k f l a b) (G : Box w g ((partsL f n).map (Value.int .i64))) (f0 : 0 ≤ f) (h1 : f + n ≤ 2147483648)
    (hp : ∀ t : Nat, t < n → decide (startV k (f + t) < a ∨ b < startV k (f + t + 1)) = p t) :
    Calls Tryd.prog 62 #[.slice (some ⟨g, 0, none⟩) n cap, .func (.func 50) #[] #[.pointer (some ⟨sB, 0, none⟩), .pointer (some ⟨aB, 0, none⟩), .pointer (some ⟨bB, 0, none⟩)]] w (First p n w) := by
  have HT := Lib.hid T
  have HG := Lib.hid G
  have HP := Lib.hid hp
  clear T G hp
  go_enter Tryd.func62, Tryd.ntmps62
  go_wp2_with fail
  go_loopw [8] (fun t wr => ∃ s : Nat, s ≤ n ∧ t = .int .i64 s ∧ Hid (∀ u, u < s → p u = false) ∧ Hid (Below w.heap.size w wr)) (fun t _ => n - (intOf t).toNat)
  case atStart => exact ⟨0, Nat.zero_le _, rfl, fun u hu => absurd hu (Nat.not_lt_zero _), Below.refl _ _⟩
  case round =>
    obtain ⟨s, hs, rfl, I, HB⟩ := hrel
    by_cases hlt : s < n
    · have x0 := (HG.out.next HB.out).cl s (.int .i64 (f + s)) (by rw [List.getElem?_map, parts_at f n s hlt]; rfl)
      have hc := test_is (HT.out.next HB.out) (p s) (h := f + s) (by omega) (by omega) (HP.out s hlt)
      have HC := Lib.hid hc
      clear hc
      cases hp : p s <;> rw [hp] at HC
      · have HPF := Lib.hid hp
        clear hp
        go_wp2_with (go_at_call 50; refine HC.out.mono ?_; rintro e w' ⟨rfl, hb⟩)
        have b2 : Hid (Below w.heap.size w w') := two HB.out hb
        clear hb x0
        go_roundw
        case rel => exact ⟨s + 1, by omega, by go_num, (fun u hu => by
            rcases Nat.lt_or_ge u s with h | h
            · exact I.out u h
            · obtain rfl : u = s := by omega
              exact HPF.out), b2⟩
        case measure => simp [intOf]; omega
      · have HPT := Lib.hid hp
        clear hp
        go_wp2_with (go_at_call 50; refine HC.out.mono ?_; rintro e w' ⟨rfl, hb⟩)
        have b2 : Hid (Below w.heap.size w w') := two HB.out hb
        clear hb x0
        go_ret
        exact ⟨_, .inr ⟨s, rfl, hlt, HPT.out, I.out⟩, rfl, b2.out⟩
    · have hsn : s = n := by omega
      subst hsn
      go_wp2_with fail
      go_ret
      exact ⟨_, .inl ⟨rfl, I.out⟩, rfl, HB.out⟩
end Go.Proofs.YtkapkfddbdgmoaaDoor.Wi
