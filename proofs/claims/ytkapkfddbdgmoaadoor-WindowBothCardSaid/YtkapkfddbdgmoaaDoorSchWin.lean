/- The law on windows of partitions. -/
import Derived.Test.YtkapkfddbdgmoaaDoorSchWalk5
set_option linter.unusedVariables false
set_option linter.unusedSimpArgs false
namespace Go.Proofs.YtkapkfddbdgmoaaDoor.Sc
open Go.RowKit Go Go.Sort Ba
open Cal hiding ret_int ret_bool lt_of_cell

theorem md_step (a : Int) (h : 0 ≤ a) : md a + 28 ≤ md (a + 1) := by
  have := md_succ (a + 1) (by omega)
  rw [show a + 1 - 1 = a from by omega] at this
  have := dim_lo (2000 + a / 12) (a % 12 + 1) (by omega) (by omega)
  omega
theorem md_mono (a : Int) (n : Nat) (h : 0 ≤ a) : md a + 28 * n ≤ md (a + n) := by
  induction n with
  | zero => simp
  | succ n ih =>
    have := md_step (a + n) (by omega)
    rw [show a + ((n + 1 : Nat) : Int) = a + n + 1 from by omega]
    omega
theorem md_le {a b : Int} (h : 0 ≤ a) (hab : a ≤ b) : md a + 28 * (b - a) ≤ md b := by
  have := md_mono a (b - a).toNat h
  rw [show a + (((b - a).toNat : Nat) : Int) = b from by omega] at this
  omega
theorem sv_four {k : Int} (h1 : 1 ≤ k) (h5 : k ≤ 5) (hn : k ≠ 5) : k = 1 ∨ k = 2 ∨ k = 3 ∨ k = 4 := by omega
theorem sv_mono {k i j : Int} (h1 : 1 ≤ k) (h5 : k ≤ 5) (hn : k ≠ 5) (h0 : 0 ≤ i) (hij : i ≤ j) (hj : 0 ≤ startV k j) : 0 ≤ startV k i ∧ startV k i ≤ startV k j ∧ (i < j → startV k i < startV k j) := by
  have lp : ∀ x, 0 ≤ lim x → x < 2147483648 := fun x h => by unfold lim at h; split at h <;> omega
  rcases sv_four h1 h5 hn with rfl | rfl | rfl | rfl
  · rw [sv1] at hj ⊢; rw [sv1]
    have := lp _ hj
    rw [lim_lo (by omega), lim_lo (by omega)]; omega
  · rw [sv2] at hj ⊢; rw [sv2]
    have := lp _ hj
    rw [lim_lo (by omega), lim_lo (by omega)]; omega
  · rw [sv3] at hj ⊢; rw [sv3]
    have := lp _ hj
    rw [lim_lo (by omega), lim_lo (by omega)]; omega
  · rw [sv4] at hj ⊢; rw [sv4]
    have hm := md_le h0 hij
    have hb := md_bd i h0
    split at hj
    · rename_i c
      rw [if_pos c, if_pos ⟨h0, by omega, by omega⟩]
      omega
    · omega

set_option maxRecDepth 100000 in
set_option maxHeartbeats 3200000 in
theorem windows_law (k f l i : Int) (w : World) (b0 : -9223372036854775808 ≤ f) (b1 : l ≤ 9223372036854775807) (hE : EnvS w) :
    Calls Tryd.prog 3 #[.agg #[.int .i64 k, .int .i64 f, .int .i64 l], .int .i64 i] w fun e w' => e = .returned (.bool true) ∧ Below w.heap.size w w' := by
  have HE := Lib.hid hE
  have bw : Below w.heap.size w (w.alloc (.cells #[.int .i64 k, .int .i64 f, .int .i64 l] 23)) := by go_grown
  have V := Box.new w [.int .i64 k, .int .i64 f, .int .i64 l] 23
  clear hE
  cases hr : rightS k f l
  · have HR := Lib.hid hr
    clear hr
    go_enter Tryd.func3, Tryd.ntmps3
    go_wp2_with fail
    refine (ref_is k f l _).mono ?_
    rintro e w1 ⟨rfl, hb⟩
    have bw := two bw hb
    clear hb
    go_wp2_with fail
    refine (refRight_is k f l false _ b0 b1 HR.out).mono ?_
    rintro e w2 ⟨rfl, hb⟩
    have bw := two bw hb
    clear hb
    go_wp2_with fail
    refine (awake_any _ (HE.out.below bw)).mono ?_
    rintro e w9 ⟨rfl, hb9⟩
    go_wp2_with fail
    go_ret
    exact ⟨rfl, two bw hb9⟩
  obtain ⟨k1, k5, f0, fl, lf, lst, lfar, lend⟩ := rs_iff hr
  have HR := Lib.hid hr
  clear hr lst
  by_cases c1 : i < f
  · have HW : Hid (WinV k f l i 0 0 30) := .inl ⟨by omega, rfl, rfl, rfl⟩
    go_enter Tryd.func3, Tryd.ntmps3
    go_wp2_with fail
    refine (ref_is k f l _).mono ?_
    rintro e w1 ⟨rfl, hb⟩
    have bw := two bw hb
    have V := V.next hb
    clear hb
    go_wp2_with fail
    refine (refRight_is k f l true _ b0 b1 HR.out).mono ?_
    rintro e w2 ⟨rfl, hb⟩
    have bw := two bw hb
    have V := V.next hb
    clear hb
    obtain ⟨x0, x1, x2, p0, p1, p2⟩ := V.three
    go_wp2_with fail
    refine (window_is k f l i _ _ _ _ (HE.out.below bw).len f0 lfar HW.out).mono ?_
    rintro e w3 ⟨rfl, hb⟩
    clear x0 x1 x2 p0 p1 p2
    have bw := two bw hb
    have V := V.next hb
    clear hb
    obtain ⟨x0, x1, x2, p0, p1, p2⟩ := V.three
    go_wp2_with fail
    refine (awake_any _ (HE.out.below bw)).mono ?_
    rintro e w9 ⟨rfl, hb9⟩
    clear x0 x1 x2 p0 p1 p2
    go_wp2_with fail
    go_ret
    exact ⟨rfl, two bw hb9⟩
  by_cases c2 : l < i
  · have HW : Hid (WinV k f l i 0 0 30) := .inl ⟨by omega, rfl, rfl, rfl⟩
    go_enter Tryd.func3, Tryd.ntmps3
    go_wp2_with fail
    refine (ref_is k f l _).mono ?_
    rintro e w1 ⟨rfl, hb⟩
    have bw := two bw hb
    have V := V.next hb
    clear hb
    go_wp2_with fail
    refine (refRight_is k f l true _ b0 b1 HR.out).mono ?_
    rintro e w2 ⟨rfl, hb⟩
    have bw := two bw hb
    have V := V.next hb
    clear hb
    obtain ⟨x0, x1, x2, p0, p1, p2⟩ := V.three
    go_wp2_with fail
    refine (window_is k f l i _ _ _ _ (HE.out.below bw).len f0 lfar HW.out).mono ?_
    rintro e w3 ⟨rfl, hb⟩
    clear x0 x1 x2 p0 p1 p2
    have bw := two bw hb
    have V := V.next hb
    clear hb
    obtain ⟨x0, x1, x2, p0, p1, p2⟩ := V.three
    go_wp2_with fail
    refine (awake_any _ (HE.out.below bw)).mono ?_
    rintro e w9 ⟨rfl, hb9⟩
    clear x0 x1 x2 p0 p1 p2
    go_wp2_with fail
    go_ret
    exact ⟨rfl, two bw hb9⟩
  by_cases c5 : k = 5
  · have HW : Hid (WinV k f l i 0 0 54) := .inr (.inl ⟨by omega, c5, rfl, rfl, rfl⟩)
    subst c5
    go_enter Tryd.func3, Tryd.ntmps3
    go_wp2_with fail
    refine (ref_is 5 f l _).mono ?_
    rintro e w1 ⟨rfl, hb⟩
    have bw := two bw hb
    have V := V.next hb
    clear hb
    go_wp2_with fail
    refine (refRight_is 5 f l true _ b0 b1 HR.out).mono ?_
    rintro e w2 ⟨rfl, hb⟩
    have bw := two bw hb
    have V := V.next hb
    clear hb
    obtain ⟨x0, x1, x2, p0, p1, p2⟩ := V.three
    go_wp2_with fail
    refine (window_is 5 f l i _ _ _ _ (HE.out.below bw).len f0 lfar HW.out).mono ?_
    rintro e w3 ⟨rfl, hb⟩
    clear x0 x1 x2 p0 p1 p2
    have bw := two bw hb
    have V := V.next hb
    clear hb
    obtain ⟨x0, x1, x2, p0, p1, p2⟩ := V.three
    go_wp2_with fail
    refine (awake_any _ (HE.out.below bw)).mono ?_
    rintro e w9 ⟨rfl, hb9⟩
    clear x0 x1 x2 p0 p1 p2
    go_wp2_with fail
    go_ret
    exact ⟨rfl, two bw hb9⟩
  obtain ⟨a, ha⟩ : ∃ a, startV k i = a := ⟨_, rfl⟩
  obtain ⟨b, hb0⟩ : ∃ b, startV k (i + 1) = b := ⟨_, rfl⟩
  have HW : Hid (WinV k f l i a b 0) := .inr (.inr ⟨by omega, c5, ha, hb0, rfl⟩)
  have hmon := sv_mono k1 k5 c5 (show 0 ≤ i by omega) (show i ≤ i + 1 by omega) (sv_mono k1 k5 c5 (show 0 ≤ i + 1 by omega) (show i + 1 ≤ l + 1 by omega) (lend c5)).1
  rw [ha, hb0] at hmon
  have hab : a < b := hmon.2.2 (by omega)
  have HA := Lib.hid ha
  have HB := Lib.hid hb0
  have e5 : (k == 5) = false := by simpa using c5
  clear hmon ha hb0 lend c5
  go_enter Tryd.func3, Tryd.ntmps3
  go_wp2_with fail
  refine (ref_is k f l _).mono ?_
  rintro e w1 ⟨rfl, hb⟩
  have bw := two bw hb
  have V := V.next hb
  clear hb
  go_wp2_with fail
  refine (refRight_is k f l true _ b0 b1 HR.out).mono ?_
  rintro e w2 ⟨rfl, hb⟩
  have bw := two bw hb
  have V := V.next hb
  clear hb
  obtain ⟨x0, x1, x2, p0, p1, p2⟩ := V.three
  go_wp2_with fail
  refine (window_is k f l i _ _ _ _ (HE.out.below bw).len f0 lfar HW.out).mono ?_
  rintro e w3 ⟨rfl, hb⟩
  clear x0 x1 x2 p0 p1 p2
  have bw := two bw hb
  have V := V.next hb
  clear hb
  obtain ⟨x0, x1, x2, p0, p1, p2⟩ := V.three
  go_wp2_with fail
  refine (refStart_is k i a _ (by omega) (by omega) HA.out).mono ?_
  rintro e w4 ⟨rfl, rfl⟩
  go_wp2_with fail
  refine (refStart_is k (i + 1) b _ (by omega) (by omega) HB.out).mono ?_
  rintro e w5 ⟨rfl, rfl⟩
  go_wp2_with fail
  refine (awake_any _ (HE.out.below bw)).mono ?_
  rintro e w9 ⟨rfl, hb9⟩
  clear x0 x1 x2 p0 p1 p2
  go_wp2_with fail
  go_ret
  exact ⟨rfl, two bw hb9⟩
end Go.Proofs.YtkapkfddbdgmoaaDoor.Sc
