/- The walk of the law on minutes, further: right numbers that are no date; right dates. -/
import Derived.Test.YtmjcdnlcdkeoaaaDoorMinutesWalk
set_option linter.unusedVariables false
set_option linter.unusedSimpArgs false
namespace Go.Proofs.YtmjcdnlcdkeoaaaDoor.Cal
open Go.RowKit Go

set_option maxHeartbeats 800000 in
theorem minlaw_far (y m d h i k : Int) (w : World) (n1 : ¬ y < 2000) (n2 : ¬ 6083 < y) (n3 : ¬ m < 1) (n4 : ¬ 12 < m) (n5 : ¬ d < 1) (n6 : ¬ dim y m < d) (n7 : ¬ h < 0) (n8 : ¬ 23 < h) (n9 : ¬ i < 0) (n10 : ¬ 59 < i) (hk : 2147483648 ≤ mn y m d h i) (hE : Env w) (hm : MinErr y m d h i k) :
    Calls Tryd.prog 4 #[.agg #[.int .i64 y, .int .i64 m, .int .i64 d, .int .i64 h, .int .i64 i, .int .i64 k]] w fun e w' => e = .returned (.bool true) ∧ Below w.heap.size w w' := by
  have HE := Lib.hid hE
  have HM := Lib.hid hm
  clear hE hm
  have x1 := dfalse n1
  have x2 := dfalse n2
  have x3 := dfalse n3
  have x4 := dfalse n4
  have x5 := dfalse n5
  have x6 := dfalse n6
  have x7 := dfalse n7
  have x8 := dfalse n8
  have x9 := dfalse n9
  have x10 := dfalse n10
  have HK := Lib.hid hk
  clear hk
  have db := dim_bd y m
  have hd31 : d ≤ 31 := by omega
  clear db
  go_enter Tryd.func4, Tryd.ntmps4
  go_wp2_with fail
  refine (HM.out _ (HE.out.len.below (by go_grown))).mono ?_
  rintro e w1 ⟨rfl, hb⟩
  have b1 := Below.next (B := w.heap.size) (w := w) (by go_grown) hb (Nat.le_refl _)
  have z1 := hb.size
  simp only [World.size_alloc] at z1
  have z3 : w.heap.size < w1.heap.size := by omega
  obtain ⟨c0, c1, c2, c3, c4, c5⟩ := box6 hb (by simp)
  have E1 := Lib.hid (HE.out.below b1)
  clear hb
  go_wp2_with fail
  go_quiet ((go_at_call 15; exact quiet_left (refDays_any _ _ _ (by omega) (by omega))))
  go_wp2_with fail
  go_loop [5, 6] (fun s t => ∃ q : Int, 0 ≤ q ∧ q ≤ y - 2000 ∧ t = .int .i64 (2000 + q) ∧ s = .int .i64 (ys q + d - 1)) (fun _ t => (y + 1 - intOf t).toNat)
  case atStart => exact ⟨0, by omega, by omega, rfl, by rw [ys_zero]; exact congrArg (Value.int .i64) (by omega)⟩
  case round =>
    obtain ⟨q, q0, q1, rfl, rfl⟩ := hrel
    have hb := ys_bd q q0
    obtain ⟨b0, b2⟩ := hb
    by_cases hlt : 2000 + q < y
    · have HS := Lib.hid (ys_succ q q0)
      by_cases hlp : leapB (2000 + q) = true
      · have HP := Lib.hid (show lp (2000 + q) = 1 by simp [lp, hlp])
        go_wp2_with (go_at_call 16; refine (refLeap_any _ _).mono ?_; rintro e w' ⟨rfl, rfl⟩)
        go_round
        case rel => exact ⟨q + 1, by omega, by omega, by rw [Int.add_assoc], by rw [HS.out, HP.out]; exact congrArg (Value.int .i64) (by omega)⟩
        case measure => simp [intOf]; omega
      · have hlp' : leapB (2000 + q) = false := by simpa using hlp
        clear hlp
        have HP := Lib.hid (show lp (2000 + q) = 0 by simp [lp, hlp'])
        go_wp2_with (go_at_call 16; refine (refLeap_any _ _).mono ?_; rintro e w' ⟨rfl, rfl⟩)
        go_round
        case rel => exact ⟨q + 1, by omega, by omega, by rw [Int.add_assoc], by rw [HS.out, HP.out]; exact congrArg (Value.int .i64) (by omega)⟩
        case measure => simp [intOf]; omega
    · have hq : q = y - 2000 := by omega
      have HQ := Lib.hid hq
      clear hq
      go_wp2_with fail
      go_loop [5, 7] (fun s t => ∃ j : Int, 1 ≤ j ∧ j ≤ m ∧ t = .int .i64 j ∧ s = .int .i64 (ys q + cum y j + d - 1)) (fun _ t => (m + 1 - intOf t).toNat)
      case atStart => exact ⟨1, by omega, by omega, rfl, by rw [cum_one]; exact congrArg (Value.int .i64) (by omega)⟩
      case round =>
        obtain ⟨j, j0, j1, rfl, rfl⟩ := hrel
        have hcb := cum_bd y j j0 (by omega)
        obtain ⟨e0, e1⟩ := hcb
        by_cases hjm : j < m
        · have HC := Lib.hid (cum_succ y j j0 (by omega))
          have hd := dim_bd y j
          obtain ⟨g0, g1⟩ := hd
          go_wp2_with (go_at_call 15; refine (refDays_any _ _ _ (by omega) (by omega)).mono ?_; rintro e w' ⟨rfl, rfl⟩)
          go_round
          case rel => exact ⟨j + 1, by omega, by omega, rfl, by rw [HC.out]; exact congrArg (Value.int .i64) (by omega)⟩
          case measure => simp [intOf]; omega
        · have hj : j = m := by omega
          have hmn : mn y m d h i = (ys q + cum y j + d - 1) * 1440 + h * 60 + i := by rw [hj, HQ.out]; rfl
          have hf : 2147483648 ≤ (ys q + cum y j + d - 1) * 1440 + h * 60 + i := by have := HK.out; omega
          clear hj hmn
          go_wp2_with fail
          refine (awake_any _ (E1.out.below (Below.drewN (by go_grown) _))).mono ?_
          rintro e w2 ⟨rfl, hb2⟩
          have b3 := Below.next (B := w.heap.size) (w := w) (Below.drewN b1 _) hb2 (Nat.le_refl _)
          go_wp2_with fail
          go_ret
          exact ⟨rfl, b3⟩
set_option maxHeartbeats 800000 in
theorem minlaw_wd (y m d h i k : Int) (w : World) (n1 : ¬ y < 2000) (n2 : ¬ 6083 < y) (n3 : ¬ m < 1) (n4 : ¬ 12 < m) (n5 : ¬ d < 1) (n6 : ¬ dim y m < d) (n7 : ¬ h < 0) (n8 : ¬ 23 < h) (n9 : ¬ i < 0) (n10 : ¬ 59 < i) (hf : mn y m d h i < 2147483648) (hk : ¬ (mn y m d h i / 1440 + 6) % 7 = k) (hE : Env w) (hm : MinErr y m d h i k) :
    Calls Tryd.prog 4 #[.agg #[.int .i64 y, .int .i64 m, .int .i64 d, .int .i64 h, .int .i64 i, .int .i64 k]] w fun e w' => e = .returned (.bool true) ∧ Below w.heap.size w w' := by
  have HE := Lib.hid hE
  have HM := Lib.hid hm
  clear hE hm
  have x1 := dfalse n1
  have x2 := dfalse n2
  have x3 := dfalse n3
  have x4 := dfalse n4
  have x5 := dfalse n5
  have x6 := dfalse n6
  have x7 := dfalse n7
  have x8 := dfalse n8
  have x9 := dfalse n9
  have x10 := dfalse n10
  have HK := Lib.hid hk
  have HF := Lib.hid hf
  clear hk hf
  have db := dim_bd y m
  have hd31 : d ≤ 31 := by omega
  clear db
  go_enter Tryd.func4, Tryd.ntmps4
  go_wp2_with fail
  refine (HM.out _ (HE.out.len.below (by go_grown))).mono ?_
  rintro e w1 ⟨rfl, hb⟩
  have b1 := Below.next (B := w.heap.size) (w := w) (by go_grown) hb (Nat.le_refl _)
  have z1 := hb.size
  simp only [World.size_alloc] at z1
  have z3 : w.heap.size < w1.heap.size := by omega
  obtain ⟨c0, c1, c2, c3, c4, c5⟩ := box6 hb (by simp)
  have E1 := Lib.hid (HE.out.below b1)
  clear hb
  go_wp2_with fail
  go_quiet ((go_at_call 15; exact quiet_left (refDays_any _ _ _ (by omega) (by omega))))
  go_wp2_with fail
  go_loop [5, 6] (fun s t => ∃ q : Int, 0 ≤ q ∧ q ≤ y - 2000 ∧ t = .int .i64 (2000 + q) ∧ s = .int .i64 (ys q + d - 1)) (fun _ t => (y + 1 - intOf t).toNat)
  case atStart => exact ⟨0, by omega, by omega, rfl, by rw [ys_zero]; exact congrArg (Value.int .i64) (by omega)⟩
  case round =>
    obtain ⟨q, q0, q1, rfl, rfl⟩ := hrel
    have hb := ys_bd q q0
    obtain ⟨b0, b2⟩ := hb
    by_cases hlt : 2000 + q < y
    · have HS := Lib.hid (ys_succ q q0)
      by_cases hlp : leapB (2000 + q) = true
      · have HP := Lib.hid (show lp (2000 + q) = 1 by simp [lp, hlp])
        go_wp2_with (go_at_call 16; refine (refLeap_any _ _).mono ?_; rintro e w' ⟨rfl, rfl⟩)
        go_round
        case rel => exact ⟨q + 1, by omega, by omega, by rw [Int.add_assoc], by rw [HS.out, HP.out]; exact congrArg (Value.int .i64) (by omega)⟩
        case measure => simp [intOf]; omega
      · have hlp' : leapB (2000 + q) = false := by simpa using hlp
        clear hlp
        have HP := Lib.hid (show lp (2000 + q) = 0 by simp [lp, hlp'])
        go_wp2_with (go_at_call 16; refine (refLeap_any _ _).mono ?_; rintro e w' ⟨rfl, rfl⟩)
        go_round
        case rel => exact ⟨q + 1, by omega, by omega, by rw [Int.add_assoc], by rw [HS.out, HP.out]; exact congrArg (Value.int .i64) (by omega)⟩
        case measure => simp [intOf]; omega
    · have hq : q = y - 2000 := by omega
      have HQ := Lib.hid hq
      clear hq
      go_wp2_with fail
      go_loop [5, 7] (fun s t => ∃ j : Int, 1 ≤ j ∧ j ≤ m ∧ t = .int .i64 j ∧ s = .int .i64 (ys q + cum y j + d - 1)) (fun _ t => (m + 1 - intOf t).toNat)
      case atStart => exact ⟨1, by omega, by omega, rfl, by rw [cum_one]; exact congrArg (Value.int .i64) (by omega)⟩
      case round =>
        obtain ⟨j, j0, j1, rfl, rfl⟩ := hrel
        have hcb := cum_bd y j j0 (by omega)
        obtain ⟨e0, e1⟩ := hcb
        by_cases hjm : j < m
        · have HC := Lib.hid (cum_succ y j j0 (by omega))
          have hd := dim_bd y j
          obtain ⟨g0, g1⟩ := hd
          go_wp2_with (go_at_call 15; refine (refDays_any _ _ _ (by omega) (by omega)).mono ?_; rintro e w' ⟨rfl, rfl⟩)
          go_round
          case rel => exact ⟨j + 1, by omega, by omega, rfl, by rw [HC.out]; exact congrArg (Value.int .i64) (by omega)⟩
          case measure => simp [intOf]; omega
        · have hj : j = m := by omega
          have hmn : mn y m d h i = (ys q + cum y j + d - 1) * 1440 + h * 60 + i := by rw [hj, HQ.out]; rfl
          have hf1 : (ys q + cum y j + d - 1) * 1440 + h * 60 + i < 2147483648 := by have := HF.out; omega
          have hx := dfalse (show ¬ 2147483648 ≤ (ys q + cum y j + d - 1) * 1440 + h * 60 + i by omega)
          have hk1 : (k != (ys q + cum y j + d - 1 + 6) % 7) = true := by
            have := HK.out
            rw [hmn, show ((ys q + cum y j + d - 1) * 1440 + h * 60 + i) / 1440 = ys q + cum y j + d - 1 from by omega] at this
            simp only [bne_iff_ne, ne_eq]
            exact fun e => this e.symm
          clear hj hmn
          go_wp2_with fail
          refine (awake_any _ (E1.out.below (Below.drewN (by go_grown) _))).mono ?_
          rintro e w2 ⟨rfl, hb2⟩
          have b3 := Below.next (B := w.heap.size) (w := w) (Below.drewN b1 _) hb2 (Nat.le_refl _)
          go_wp2_with fail
          go_ret
          exact ⟨rfl, b3⟩
end Go.Proofs.YtmjcdnlcdkeoaaaDoor.Cal
