/- The law on the partition of any minute. -/
import Derived.Test.YtkapkfddbdgmoaaDoorSchAt
set_option linter.unusedVariables false
set_option linter.unusedSimpArgs false
namespace Go.Proofs.YtkapkfddbdgmoaaDoor.Sc
open Go.RowKit Go Go.Sort Ba
open Cal hiding ret_int ret_bool lt_of_cell

set_option maxRecDepth 100000 in
set_option maxHeartbeats 6400000 in
theorem tiles_no (k f l : Int) (m : Int) (w : World) (b0 : -9223372036854775808 ≤ f) (b1 : l ≤ 9223372036854775807) (hE : EnvS w) (hr : rightS k f l = false) :
    Calls Tryd.prog 7 #[.agg #[.int .i64 k, .int .i64 f, .int .i64 l], .int .i64 m] w fun e w' => e = .returned (.bool true) ∧ Below w.heap.size w w' := by
  have HE := Lib.hid hE
  have bw : Below w.heap.size w (w.alloc (.cells #[.int .i64 k, .int .i64 f, .int .i64 l] 23)) := by go_grown
  have V := Box.new w [.int .i64 k, .int .i64 f, .int .i64 l] 23
  have HR := Lib.hid hr
  clear hE hr
  go_enter Tryd.func7, Tryd.ntmps7
  go_wp2_with fail
  refine (ref_is k f l _).mono ?_
  rintro e w1 ⟨rfl, hb⟩
  have bw := two bw hb
  have V := V.next hb
  clear hb
  go_wp2_with fail
  refine (refRight_is k f l false _ b0 b1 HR.out).mono ?_
  rintro e w2 ⟨rfl, hb⟩
  have bw := two bw hb
  have V := V.next hb
  clear hb
  go_wp2_with fail
  refine (awake_any _ (HE.out.below bw)).mono ?_
  rintro e w9 ⟨rfl, hb9⟩
  go_wp2_with fail
  go_ret
  exact ⟨rfl, two bw hb9⟩
set_option maxRecDepth 100000 in
set_option maxHeartbeats 6400000 in
theorem tiles_none (f l : Int) (m : Int) (w : World) (b0 : -9223372036854775808 ≤ f) (b1 : l ≤ 9223372036854775807) (hE : EnvS w) (hr : rightS 5 f l = true) :
    Calls Tryd.prog 7 #[.agg #[.int .i64 5, .int .i64 f, .int .i64 l], .int .i64 m] w fun e w' => e = .returned (.bool true) ∧ Below w.heap.size w w' := by
  have HE := Lib.hid hE
  have bw : Below w.heap.size w (w.alloc (.cells #[.int .i64 5, .int .i64 f, .int .i64 l] 23)) := by go_grown
  have V := Box.new w [.int .i64 5, .int .i64 f, .int .i64 l] 23
  have HR := Lib.hid hr
  clear hE hr
  go_enter Tryd.func7, Tryd.ntmps7
  go_wp2_with fail
  refine (ref_is 5 f l _).mono ?_
  rintro e w1 ⟨rfl, hb⟩
  have bw := two bw hb
  have V := V.next hb
  clear hb
  go_wp2_with fail
  refine (refRight_is 5 f l true _ b0 b1 HR.out).mono ?_
  rintro e w2 ⟨rfl, hb⟩
  have bw := two bw hb
  have V := V.next hb
  clear hb
  obtain ⟨x0, x1, x2, p0, p1, p2⟩ := V.three
  go_wp2_with fail
  refine (at_none f l m _).mono ?_
  rintro e w3 ⟨rfl, hb⟩
  clear x0 x1 x2 p0 p1 p2
  have bw := two bw hb
  have V := V.next hb
  clear hb
  obtain ⟨x0, x1, x2, p0, p1, p2⟩ := V.three
  go_wp2_with fail
  refine (awake_any _ (HE.out.below bw)).mono ?_
  rintro e w9 ⟨rfl, hb9⟩
  go_wp2_with fail
  go_ret
  exact ⟨rfl, two bw hb9⟩
set_option maxRecDepth 100000 in
set_option maxHeartbeats 6400000 in
theorem tiles_yes (k f l : Int) (m : Int) (w : World) (b0 : -9223372036854775808 ≤ f) (b1 : l ≤ 9223372036854775807) (hE : EnvS w) (hr : rightS k f l = true) (h5 : k ≠ 5) :
    Calls Tryd.prog 7 #[.agg #[.int .i64 k, .int .i64 f, .int .i64 l], .int .i64 m] w fun e w' => e = .returned (.bool true) ∧ Below w.heap.size w w' := by
  have HE := Lib.hid hE
  have bw : Below w.heap.size w (w.alloc (.cells #[.int .i64 k, .int .i64 f, .int .i64 l] 23)) := by go_grown
  have V := Box.new w [.int .i64 k, .int .i64 f, .int .i64 l] 23
  have HR := Lib.hid hr
  obtain ⟨k1, k5, f0, fl, lf, lst, lfar, lend⟩ := rs_iff hr
  have le := lend h5
  obtain ⟨A, hA⟩ : ∃ a, startV k f = a := ⟨_, rfl⟩
  obtain ⟨B, hB⟩ : ∃ a, startV k (f + 1) = a := ⟨_, rfl⟩
  obtain ⟨C, hC⟩ : ∃ a, startV k l = a := ⟨_, rfl⟩
  obtain ⟨D, hD⟩ : ∃ a, startV k (l + 1) = a := ⟨_, rfl⟩
  obtain ⟨G, hG⟩ : ∃ a, startV k (f + 2) = a := ⟨_, rfl⟩
  have HWf : Hid (WinV k f l f A B 0) := .inr (.inr ⟨by omega, h5, hA, hB, rfl⟩)
  have HWl : Hid (WinV k f l l C D 0) := .inr (.inr ⟨by omega, h5, hC, hD, rfl⟩)
  have HA := Lib.hid hA
  have HD := Lib.hid hD
  have HB := Lib.hid hB
  have HG := Lib.hid hG
  have HLE := Lib.hid le
  have H5 := Lib.hid h5
  have HRR := Lib.hid hr
  have e5 : (k == 5) = false := by simpa using h5
  clear hE hr hA hB hC hD hG lst lend le h5
  go_enter Tryd.func7, Tryd.ntmps7
  go_wp2_with fail
  refine (ref_is k f l _).mono ?_
  rintro e w1 ⟨rfl, hb⟩
  have bw := two bw hb
  have V := V.next hb
  clear hb
  go_wp2_with fail
  refine (refRight_is k f l true _ b0 b1 HR.out).mono ?_
  rintro e w2 ⟨rfl, hb⟩
  have bw := two bw hb
  have V := V.next hb
  clear hb
  obtain ⟨x0, x1, x2, p0, p1, p2⟩ := V.three
  go_wp2_with fail
  refine (at_is k f l m _ (HE.out.below bw).len HRR.out H5.out).mono ?_
  rintro e w3 ⟨i, ok, hav, rfl, hb⟩
  clear x0 x1 x2 p0 p1 p2
  have bw := two bw hb
  have V := V.next hb
  clear hb
  rcases hav with ⟨rfl, i0, i1, hi, hj⟩ | ⟨rfl, rfl, hout⟩
  · obtain ⟨I, hI⟩ : ∃ a, startV k i = a := ⟨_, rfl⟩
    obtain ⟨J, hJ⟩ : ∃ a, startV k (i + 1) = a := ⟨_, rfl⟩
    have sI := sv_mono k1 k5 H5.out (i := f) (j := i) (by omega) i0 (sv_mono k1 k5 H5.out (i := i) (j := l + 1) (by omega) (by omega) HLE.out).1
    have sJ := sv_mono k1 k5 H5.out (i := i + 1) (j := l + 1) (by omega) (by omega) HLE.out
    rw [HA.out, hI] at sI
    rw [hJ, HD.out] at sJ
    rw [hI] at hi
    rw [hJ] at hj
    have HWi : Hid (WinV k f l i I J 0) := .inr (.inr ⟨by omega, H5.out, hI, hJ, rfl⟩)
    have d1 : A ≤ m := by omega
    have d2 : m < D := by omega
    clear hI hJ sI sJ
    by_cases c : f < l
    · have HWg : Hid (WinV k f l (f + 1) B G 0) := .inr (.inr ⟨by omega, H5.out, HB.out, (by rw [show f + 1 + 1 = f + 2 from by omega]; exact HG.out), rfl⟩)
      obtain ⟨x0, x1, x2, p0, p1, p2⟩ := V.three
      go_wp2_with fail
      refine (window_is k f l f A B 0 _ (HE.out.below bw).len f0 lfar HWf.out).mono ?_
      rintro e w4 ⟨rfl, hb⟩
      clear x0 x1 x2 p0 p1 p2
      have bw := two bw hb
      have V := V.next hb
      clear hb
      obtain ⟨x0, x1, x2, p0, p1, p2⟩ := V.three
      go_wp2_with fail
      refine (window_is k f l l C D 0 _ (HE.out.below bw).len f0 lfar HWl.out).mono ?_
      rintro e w4 ⟨rfl, hb⟩
      clear x0 x1 x2 p0 p1 p2
      have bw := two bw hb
      have V := V.next hb
      clear hb
      obtain ⟨x0, x1, x2, p0, p1, p2⟩ := V.three
      go_wp2_with fail
      refine (window_is k f l f A B 0 _ (HE.out.below bw).len f0 lfar HWf.out).mono ?_
      rintro e w4 ⟨rfl, hb⟩
      clear x0 x1 x2 p0 p1 p2
      have bw := two bw hb
      have V := V.next hb
      clear hb
      obtain ⟨x0, x1, x2, p0, p1, p2⟩ := V.three
      go_wp2_with fail
      refine (window_is k f l (f + 1) B G 0 _ (HE.out.below bw).len f0 lfar HWg.out).mono ?_
      rintro e w4 ⟨rfl, hb⟩
      clear x0 x1 x2 p0 p1 p2
      have bw := two bw hb
      have V := V.next hb
      clear hb
      obtain ⟨x0, x1, x2, p0, p1, p2⟩ := V.three
      go_wp2_with fail
      refine (window_is k f l i I J 0 _ (HE.out.below bw).len f0 lfar HWi.out).mono ?_
      rintro e w4 ⟨rfl, hb⟩
      clear x0 x1 x2 p0 p1 p2
      have bw := two bw hb
      have V := V.next hb
      clear hb
      obtain ⟨x0, x1, x2, p0, p1, p2⟩ := V.three
      go_wp2_with fail
      refine (awake_any _ (HE.out.below bw)).mono ?_
      rintro e w9 ⟨rfl, hb9⟩
      go_wp2_with fail
      go_ret
      exact ⟨rfl, two bw hb9⟩
    · have c' : decide (f < l) = false := decide_eq_false c
      obtain ⟨x0, x1, x2, p0, p1, p2⟩ := V.three
      go_wp2_with fail
      refine (window_is k f l f A B 0 _ (HE.out.below bw).len f0 lfar HWf.out).mono ?_
      rintro e w4 ⟨rfl, hb⟩
      clear x0 x1 x2 p0 p1 p2
      have bw := two bw hb
      have V := V.next hb
      clear hb
      obtain ⟨x0, x1, x2, p0, p1, p2⟩ := V.three
      go_wp2_with fail
      refine (window_is k f l l C D 0 _ (HE.out.below bw).len f0 lfar HWl.out).mono ?_
      rintro e w4 ⟨rfl, hb⟩
      clear x0 x1 x2 p0 p1 p2
      have bw := two bw hb
      have V := V.next hb
      clear hb
      obtain ⟨x0, x1, x2, p0, p1, p2⟩ := V.three
      go_wp2_with fail
      refine (window_is k f l i I J 0 _ (HE.out.below bw).len f0 lfar HWi.out).mono ?_
      rintro e w4 ⟨rfl, hb⟩
      clear x0 x1 x2 p0 p1 p2
      have bw := two bw hb
      have V := V.next hb
      clear hb
      obtain ⟨x0, x1, x2, p0, p1, p2⟩ := V.three
      go_wp2_with fail
      refine (awake_any _ (HE.out.below bw)).mono ?_
      rintro e w9 ⟨rfl, hb9⟩
      go_wp2_with fail
      go_ret
      exact ⟨rfl, two bw hb9⟩
  · by_cases d1 : A ≤ m
    · have d2 : decide (m < D) = false := decide_eq_false (by
        rcases hout with h | h
        · rw [HA.out] at h; omega
        · rw [HD.out] at h; omega)
      clear hout
      by_cases c : f < l
      · have HWg : Hid (WinV k f l (f + 1) B G 0) := .inr (.inr ⟨by omega, H5.out, HB.out, (by rw [show f + 1 + 1 = f + 2 from by omega]; exact HG.out), rfl⟩)
        obtain ⟨x0, x1, x2, p0, p1, p2⟩ := V.three
        go_wp2_with fail
        refine (window_is k f l f A B 0 _ (HE.out.below bw).len f0 lfar HWf.out).mono ?_
        rintro e w4 ⟨rfl, hb⟩
        clear x0 x1 x2 p0 p1 p2
        have bw := two bw hb
        have V := V.next hb
        clear hb
        obtain ⟨x0, x1, x2, p0, p1, p2⟩ := V.three
        go_wp2_with fail
        refine (window_is k f l l C D 0 _ (HE.out.below bw).len f0 lfar HWl.out).mono ?_
        rintro e w4 ⟨rfl, hb⟩
        clear x0 x1 x2 p0 p1 p2
        have bw := two bw hb
        have V := V.next hb
        clear hb
        obtain ⟨x0, x1, x2, p0, p1, p2⟩ := V.three
        go_wp2_with fail
        refine (window_is k f l f A B 0 _ (HE.out.below bw).len f0 lfar HWf.out).mono ?_
        rintro e w4 ⟨rfl, hb⟩
        clear x0 x1 x2 p0 p1 p2
        have bw := two bw hb
        have V := V.next hb
        clear hb
        obtain ⟨x0, x1, x2, p0, p1, p2⟩ := V.three
        go_wp2_with fail
        refine (window_is k f l (f + 1) B G 0 _ (HE.out.below bw).len f0 lfar HWg.out).mono ?_
        rintro e w4 ⟨rfl, hb⟩
        clear x0 x1 x2 p0 p1 p2
        have bw := two bw hb
        have V := V.next hb
        clear hb
        obtain ⟨x0, x1, x2, p0, p1, p2⟩ := V.three
        go_wp2_with fail
        refine (awake_any _ (HE.out.below bw)).mono ?_
        rintro e w9 ⟨rfl, hb9⟩
        go_wp2_with fail
        go_ret
        exact ⟨rfl, two bw hb9⟩
      · have c' : decide (f < l) = false := decide_eq_false c
        obtain ⟨x0, x1, x2, p0, p1, p2⟩ := V.three
        go_wp2_with fail
        refine (window_is k f l f A B 0 _ (HE.out.below bw).len f0 lfar HWf.out).mono ?_
        rintro e w4 ⟨rfl, hb⟩
        clear x0 x1 x2 p0 p1 p2
        have bw := two bw hb
        have V := V.next hb
        clear hb
        obtain ⟨x0, x1, x2, p0, p1, p2⟩ := V.three
        go_wp2_with fail
        refine (window_is k f l l C D 0 _ (HE.out.below bw).len f0 lfar HWl.out).mono ?_
        rintro e w4 ⟨rfl, hb⟩
        clear x0 x1 x2 p0 p1 p2
        have bw := two bw hb
        have V := V.next hb
        clear hb
        obtain ⟨x0, x1, x2, p0, p1, p2⟩ := V.three
        go_wp2_with fail
        refine (awake_any _ (HE.out.below bw)).mono ?_
        rintro e w9 ⟨rfl, hb9⟩
        go_wp2_with fail
        go_ret
        exact ⟨rfl, two bw hb9⟩
    · have d1' : decide (A ≤ m) = false := decide_eq_false d1
      clear hout
      by_cases c : f < l
      · have HWg : Hid (WinV k f l (f + 1) B G 0) := .inr (.inr ⟨by omega, H5.out, HB.out, (by rw [show f + 1 + 1 = f + 2 from by omega]; exact HG.out), rfl⟩)
        obtain ⟨x0, x1, x2, p0, p1, p2⟩ := V.three
        go_wp2_with fail
        refine (window_is k f l f A B 0 _ (HE.out.below bw).len f0 lfar HWf.out).mono ?_
        rintro e w4 ⟨rfl, hb⟩
        clear x0 x1 x2 p0 p1 p2
        have bw := two bw hb
        have V := V.next hb
        clear hb
        obtain ⟨x0, x1, x2, p0, p1, p2⟩ := V.three
        go_wp2_with fail
        refine (window_is k f l l C D 0 _ (HE.out.below bw).len f0 lfar HWl.out).mono ?_
        rintro e w4 ⟨rfl, hb⟩
        clear x0 x1 x2 p0 p1 p2
        have bw := two bw hb
        have V := V.next hb
        clear hb
        obtain ⟨x0, x1, x2, p0, p1, p2⟩ := V.three
        go_wp2_with fail
        refine (window_is k f l f A B 0 _ (HE.out.below bw).len f0 lfar HWf.out).mono ?_
        rintro e w4 ⟨rfl, hb⟩
        clear x0 x1 x2 p0 p1 p2
        have bw := two bw hb
        have V := V.next hb
        clear hb
        obtain ⟨x0, x1, x2, p0, p1, p2⟩ := V.three
        go_wp2_with fail
        refine (window_is k f l (f + 1) B G 0 _ (HE.out.below bw).len f0 lfar HWg.out).mono ?_
        rintro e w4 ⟨rfl, hb⟩
        clear x0 x1 x2 p0 p1 p2
        have bw := two bw hb
        have V := V.next hb
        clear hb
        obtain ⟨x0, x1, x2, p0, p1, p2⟩ := V.three
        go_wp2_with fail
        refine (awake_any _ (HE.out.below bw)).mono ?_
        rintro e w9 ⟨rfl, hb9⟩
        go_wp2_with fail
        go_ret
        exact ⟨rfl, two bw hb9⟩
      · have c' : decide (f < l) = false := decide_eq_false c
        obtain ⟨x0, x1, x2, p0, p1, p2⟩ := V.three
        go_wp2_with fail
        refine (window_is k f l f A B 0 _ (HE.out.below bw).len f0 lfar HWf.out).mono ?_
        rintro e w4 ⟨rfl, hb⟩
        clear x0 x1 x2 p0 p1 p2
        have bw := two bw hb
        have V := V.next hb
        clear hb
        obtain ⟨x0, x1, x2, p0, p1, p2⟩ := V.three
        go_wp2_with fail
        refine (window_is k f l l C D 0 _ (HE.out.below bw).len f0 lfar HWl.out).mono ?_
        rintro e w4 ⟨rfl, hb⟩
        clear x0 x1 x2 p0 p1 p2
        have bw := two bw hb
        have V := V.next hb
        clear hb
        obtain ⟨x0, x1, x2, p0, p1, p2⟩ := V.three
        go_wp2_with fail
        refine (awake_any _ (HE.out.below bw)).mono ?_
        rintro e w9 ⟨rfl, hb9⟩
        go_wp2_with fail
        go_ret
        exact ⟨rfl, two bw hb9⟩
theorem tiles_law (k f l m : Int) (w : World) (b0 : -9223372036854775808 ≤ f) (b1 : l ≤ 9223372036854775807) (hE : EnvS w) :
    Calls Tryd.prog 7 #[.agg #[.int .i64 k, .int .i64 f, .int .i64 l], .int .i64 m] w fun e w' => e = .returned (.bool true) ∧ Below w.heap.size w w' := by
  cases hr : rightS k f l
  · exact tiles_no k f l m w b0 b1 hE hr
  · by_cases h5 : k = 5
    · subst h5; exact tiles_none f l m w b0 b1 hE hr
    · exact tiles_yes k f l m w b0 b1 hE hr h5
end Go.Proofs.YtkapkfddbdgmoaaDoor.Sc
