/- Walks: the law on texts that are read as dates. -/
import Derived.Test.YtmjcdnlcdkeoaaaDoorDateShow
set_option linter.unusedVariables false
set_option linter.unusedSimpArgs false
namespace Go.Proofs.YtmjcdnlcdkeoaaaDoor.Cal
open Go.RowKit Go Ba Go.Sort

theorem right_day {y m d h i k : Int} (r : Right y m d h i k) : 0 ≤ mn y m d h i ∧ mn y m d h i < 2147483648 ∧ IsDay (mn y m d h i / 1440) y m d ∧ mn y m d h i % 1440 / 60 = h ∧ mn y m d h i % 60 = i ∧ (mn y m d h i / 1440 + 6) % 7 = k :=
  ⟨r.1.lo, r.2.1, r.1.day, r.1.hour, r.1.min, r.2.2⟩
set_option maxHeartbeats 1600000 in
theorem parses_law (s : ByteArray) (w : World) (hE : Env w) (hR : Errs w) :
    Calls Tryd.prog 9 #[.string s] w fun e w' => e = .returned (.bool true) ∧ Below w.heap.size w w' := by
  have HE := Lib.hid hE
  have HRR := Lib.hid hR
  clear hE hR
  by_cases hs : 100 < s.size
  · go_enter Tryd.func9, Tryd.ntmps9
    go_wp2_with fail
    refine (awake_any _ HE.out).mono ?_
    rintro e w9 ⟨rfl, hb⟩
    go_wp2_with fail
    go_ret
    exact ⟨rfl, hb⟩
  go_enter Tryd.func9, Tryd.ntmps9
  go_wp2_with fail
  refine (parse_date s _ HE.out HRR.out).mono ?_
  rintro e w1 ⟨bw, ⟨y, m, d, h, i, k, r, e', rfl⟩ | ⟨rfl, _⟩⟩
  · obtain ⟨z0, z1, z2, z3, z4, z5, z6, z7, z8, z9⟩ := r.bd
    have HRF := fun W => refShow_is y m d h i k W z0 z1 z2 z3 z4 z5 z6 z7 z8 z9
    have hS : (⟨(text y m d h i).toArray⟩ : ByteArray) = s := by rw [e']
    rw [hS] at HRF
    have HRF := Lib.hid HRF
    have hmin := fun W hL => minutes_ok y m d h i k W r.1 r.2.1 r.2.2 hL
    obtain ⟨f0, f1, f2, f3, f4, f5⟩ := right_day r
    obtain ⟨q, hq⟩ : ∃ q, mn y m d h i = q := ⟨_, rfl⟩
    rw [hq] at hmin f0 f1 f2 f3 f4 f5
    have HMIN := Lib.hid hmin
    have HOF := Lib.hid (fun W => refOf_is q y m d h i k W f0 f1 f2 f3 f4 f5)
    clear hS hmin f2 f3 f4 f5 hq r e' z0 z1 z2 z3 z4 z5 z6 z7 z8 z9
    have X := Box.new w1 [.int .i64 y, .int .i64 m, .int .i64 d, .int .i64 h, .int .i64 i, .int .i64 k] 23
    replace bw := bw.alloc bw.size (.cells #[.int .i64 y, .int .i64 m, .int .i64 d, .int .i64 h, .int .i64 i, .int .i64 k] 23)
    go_wp2_with fail
    refine (HMIN.out _ (HE.out.below bw).len).mono ?_
    rintro e w2 ⟨rfl, hb⟩
    replace X := X.next hb
    replace bw := two bw hb
    clear hb
    have heq := arr_same y m d h i k
    have hse : (s.toList == s.toList) = true := by simp
    obtain ⟨x0, x1, x2, x3, x4, x5, p0, p1, p2, p3, p4, p5⟩ := six X
    go_wp2_with fail
    have x0 := cell_regrown x0
    have x1 := cell_regrown x1
    have x2 := cell_regrown x2
    have x3 := cell_regrown x3
    have x4 := cell_regrown x4
    have x5 := cell_regrown x5
    have cA := qcall (w := w2) fun W' hb => HOF.out W'
    have cB := qcall (w := w2) fun W' hb => HRF.out W'
    have cC := qcall (w := w2) fun W' hb => ref_any y m d h i k W'
    have cD := qcall (w := w2) fun W' hb => awake_any W' (HE.out.below (two bw hb))
    refine wp_region_quiet_below (by kernel_rfl) (by kernel_rfl) ?_
    repeat (go_big_quiet_step (with_reducible (first | exact cA _ _ | exact cB _ _ | exact cC _ _ | exact cD _ _)))
    refine wpQuiet_nil ?_
    intro _ hw'
    obtain ⟨⟨dq1, os1⟩, hw''⟩ := hw'
    subst hw''
    have bg := two bw (below_regrown w2 dq1 os1)
    clear x0 x1 x2 x3 x4 x5 p0 p1 p2 p3 p4 p5 cA cB cC cD
    go_wp2_with fail
    go_ret
    exact ⟨rfl, bg⟩
  · unfold zeroD
    have X := Box.new w1 [.int .i64 0, .int .i64 0, .int .i64 0, .int .i64 0, .int .i64 0, .int .i64 0] 23
    replace bw := bw.alloc bw.size (.cells #[.int .i64 0, .int .i64 0, .int .i64 0, .int .i64 0, .int .i64 0, .int .i64 0] 23)
    go_wp2_with fail
    refine (awake_any _ (HE.out.below bw)).mono ?_
    rintro e w9 ⟨rfl, hb⟩
    replace bw := two bw hb
    go_wp2_with fail
    go_ret
    exact ⟨rfl, bw⟩
end Go.Proofs.YtmjcdnlcdkeoaaaDoor.Cal
