/- Walks: the fixed answer; the document's date of a minute; months and days of a minute. -/
import Derived.Test.YtmjcdnlcdkeoaaaDoorCalWalk6
set_option linter.unusedVariables false
set_option linter.unusedSimpArgs false
namespace Go.Proofs.YtmjcdnlcdkeoaaaDoor.Cal
open Go.RowKit Go

theorem day60 : IsDay 60 2000 3 1 := ⟨by decide, by decide, by decide, by decide, by decide, by decide⟩
theorem ok60 : Ok 2000 3 1 0 0 := ⟨by decide, by decide, by decide, by decide, by decide, by decide, by decide, by decide, by decide, by decide⟩
theorem mn60 : mn 2000 3 1 0 0 = 86400 := by decide
theorem text60 : text 2000 3 1 0 0 = [50, 48, 48, 48, 45, 48, 51, 45, 48, 49, 32, 48, 48, 58, 48, 48] := by decide +kernel
theorem show60 (w : World) (hE : Env w) :
    Calls Tryd.prog 22 #[.agg #[.int .i64 2000, .int .i64 3, .int .i64 1, .int .i64 0, .int .i64 0, .int .i64 3]] w fun e w' => e = .returned (.string ⟨#[50, 48, 48, 48, 45, 48, 51, 45, 48, 49, 32, 48, 48, 58, 48, 48]⟩) ∧ Below w.heap.size w w' := by
  have := show_ok 2000 3 1 0 0 3 86400 w ok60 hE (fun W hW => by
    have h := minutes_ok 2000 3 1 0 0 3 W ok60 (by rw [mn60]; decide) (by rw [mn60]; decide) hW
    rw [mn60] at h; exact h)
  rw [text60] at this
  exact this
set_option maxHeartbeats 400000 in
theorem awake_any (w : World) (hE : Env w) :
    Calls Tryd.prog 11 #[] w fun e w' => e = .returned (.bool true) ∧ Below w.heap.size w w' := by
  have HE := Lib.hid hE
  clear hE
  go_enter Tryd.func11, Tryd.ntmps11
  go_wp2_with fail
  refine (of_is 86400 2000 3 1 0 0 3 _ (by decide) (by decide) HE.out.len day60 (by decide) (by decide) (by decide)).mono ?_
  rintro e w1 ⟨rfl, hb⟩
  have HE1 := Lib.hid (HE.out.below hb)
  have z1 := hb.size
  go_wp2_with fail
  refine (show60 _ (HE1.out.below (by go_grown))).mono ?_
  rintro e w2 ⟨rfl, hb2⟩
  have b2 := Below.next (B := w.heap.size) (w := w) (by go_grown) hb2 (Nat.le_refl _)
  go_wp2_with fail
  go_ret
  exact ⟨rfl, b2⟩

theorem day_any (n : Int) (w : World) :
    Calls Tryd.prog 21 #[.int .i64 n] w fun e w' => e = .returned (.int .i64 (if 0 ≤ n ∧ n < 2147483648 then n / 1440 else 0)) ∧ w = w' := by
  by_cases h : 0 ≤ n ∧ n < 2147483648
  · rw [if_pos h]
    obtain ⟨h0, h1⟩ := h
    go_enter Tryd.func21, Tryd.ntmps21
    go_wp2_with (go_at_call 25; refine (right_yes _ _ h0 h1).mono ?_; rintro e w' ⟨rfl, rfl⟩)
    go_ret
    exact ⟨rfl, rfl⟩
  · rw [if_neg h]
    have H := Lib.hid h
    clear h
    go_enter Tryd.func21, Tryd.ntmps21
    go_wp2_with (go_at_call 25; refine (right_no _ _ H.out).mono ?_; rintro e w' ⟨rfl, rfl⟩)
    go_ret
    exact ⟨rfl, rfl⟩
theorem month_no (n : Int) (w : World) (h : ¬ (0 ≤ n ∧ n < 2147483648)) :
    Calls Tryd.prog 20 #[.int .i64 n] w fun e w' => e = .returned (.int .i64 0) ∧ Below w.heap.size w w' := by
  have H := Lib.hid h
  clear h
  go_enter Tryd.func20, Tryd.ntmps20
  go_wp2_with fail
  refine (of_no _ _ H.out).mono ?_
  rintro e w1 ⟨rfl, hb⟩
  have z1 := hb.size
  go_wp2_with fail
  go_ret
  exact ⟨rfl, by go_grown⟩
theorem month_yes (n y m d : Int) (w : World) (h0 : 0 ≤ n) (h1 : n < 2147483648) (hL : Len w) (hd : IsDay (n / 1440) y m d) (hy : y ≤ 7000) :
    Calls Tryd.prog 20 #[.int .i64 n] w fun e w' => e = .returned (.int .i64 ((y - 2000) * 12 + m - 1)) ∧ Below w.heap.size w w' := by
  have HL := Lib.hid hL
  have HD := Lib.hid hd
  have y0 := hd.y0
  have m1 := hd.m1
  have m2 := hd.m2
  clear hL hd
  go_enter Tryd.func20, Tryd.ntmps20
  go_wp2_with fail
  refine (of_is n y m d _ _ _ _ h0 h1 HL.out HD.out rfl rfl rfl).mono ?_
  rintro e w1 ⟨rfl, hb⟩
  have z1 := hb.size
  go_wp2_with fail
  go_ret
  exact ⟨rfl, by go_grown⟩

set_option maxHeartbeats 400000 in
theorem monthStart_any (mm : Int) (w : World) (hL : Len w) :
    Calls Tryd.prog 19 #[.int .i64 mm] w fun e w' => e = .returned (.int .i64 (if 0 ≤ mm ∧ mm ≤ 60000 ∧ md mm * 1440 < 2147483648 then md mm * 1440 else -1)) ∧ w = w' := by
  have HL := Lib.hid hL
  clear hL
  by_cases h0 : mm < 0
  · rw [if_neg (by omega)]
    go_enter Tryd.func19, Tryd.ntmps19
    go_wp2_with fail
    go_ret
    exact ⟨rfl, rfl⟩
  by_cases h1 : 60000 < mm
  · rw [if_neg (by omega)]
    go_enter Tryd.func19, Tryd.ntmps19
    go_wp2_with fail
    go_ret
    exact ⟨rfl, rfl⟩
  have q0 : 0 ≤ md mm ∧ md mm ≤ 2000000 := by
    have hyb := ys_bd (mm / 12) (by omega)
    have hcb := cum_bd (2000 + mm / 12) (mm % 12 + 1) (by omega) (by omega)
    unfold md; omega
  obtain ⟨q, hq⟩ : ∃ q, md mm = q := ⟨_, rfl⟩
  rw [hq] at q0 ⊢
  have HQ := Lib.hid hq
  clear hq
  obtain ⟨q0, q1⟩ := q0
  by_cases h2 : q * 1440 < 2147483648
  · rw [if_pos ⟨by omega, by omega, h2⟩]
    go_enter Tryd.func19, Tryd.ntmps19
    go_wp2_with (first | (go_at_call 27; refine (monthDay_is _ _ _ (by omega) (by omega) HL.out HQ.out).mono ?_; rintro e w' ⟨rfl, rfl⟩) | (go_at_call 25; refine (right_yes _ _ (by omega) (by omega)).mono ?_; rintro e w' ⟨rfl, rfl⟩))
    go_ret
    exact ⟨rfl, rfl⟩
  · rw [if_neg (by omega)]
    go_enter Tryd.func19, Tryd.ntmps19
    go_wp2_with (first | (go_at_call 27; refine (monthDay_is _ _ _ (by omega) (by omega) HL.out HQ.out).mono ?_; rintro e w' ⟨rfl, rfl⟩) | (go_at_call 25; refine (right_no _ _ (by omega)).mono ?_; rintro e w' ⟨rfl, rfl⟩))
    go_ret
    exact ⟨rfl, rfl⟩

set_option maxHeartbeats 800000 in
theorem refOf_any (n : Int) (w : World) (h0 : 0 ≤ n) (h1 : n < 2147483648) :
    Calls Tryd.prog 14 #[.int .i64 n] w fun e w' => e = .returned (.agg #[.int .i64 (Y (n / 1440)), .int .i64 (M (n / 1440)), .int .i64 (D (n / 1440)), .int .i64 (n % 1440 / 60), .int .i64 (n % 60), .int .i64 ((n / 1440 + 6) % 7)]) ∧ Below w.heap.size w w' := by
  go_enter Tryd.func14, Tryd.ntmps14
  go_wp2_with fail
  go_loop [5, 6] (fun l y => ∃ k : Int, 0 ≤ k ∧ y = .int .i64 (2000 + k) ∧ 0 ≤ n / 1440 - ys k ∧ l = .int .i64 (n / 1440 - ys k)) (fun l _ => (intOf l).toNat)
  case atStart => exact ⟨0, by omega, rfl, by rw [ys_zero]; omega, by rw [ys_zero]; simp⟩
  case round =>
    obtain ⟨k, hk0, rfl, hl, rfl⟩ := hrel
    have hb := ys_bd k hk0
    obtain ⟨b0, b1⟩ := hb
    have HS := Lib.hid (ys_succ k hk0)
    by_cases hlp : leapB (2000 + k) = true
    · have HP := Lib.hid (show lp (2000 + k) = 1 by simp [lp, hlp])
      by_cases hc : n / 1440 - ys k < 366
      · skip
        go_wp2_with (go_at_call 16; refine (refLeap_any _ _).mono ?_; rintro e w' ⟨rfl, rfl⟩)
        go_loop [5, 8] (fun r m => ∃ j : Int, 1 ≤ j ∧ j ≤ 12 ∧ m = .int .i64 j ∧ 0 ≤ n / 1440 - ys k - cum (2000 + k) j ∧ r = .int .i64 (n / 1440 - ys k - cum (2000 + k) j)) (fun _ m => (13 - intOf m).toNat)
        case atStart => exact ⟨1, by omega, by omega, rfl, by rw [cum_one]; omega, by rw [cum_one]; simp⟩
        case round =>
          obtain ⟨j, hj1, hj2, rfl, hr, rfl⟩ := hrel
          have hcb := cum_bd (2000 + k) j hj1 (by omega)
          obtain ⟨c0, c1⟩ := hcb
          have hd := dim_bd (2000 + k) j
          obtain ⟨d0, d1⟩ := hd
          have HC := Lib.hid (cum_succ (2000 + k) j hj1 (by omega))
          by_cases hlt : dim (2000 + k) j ≤ n / 1440 - ys k - cum (2000 + k) j
          · have hj12 : j < 12 := by
              rcases Int.lt_or_eq_of_le hj2 with l | l
              · exact l
              · exfalso
                have hs := HC.out
                have ce := cum_end (2000 + k)
                have hp := HP.out
                rw [l] at hs hlt
                rw [show (12 : Int) + 1 = 13 from rfl] at hs
                omega
            go_wp2_with (go_at_call 15; refine (refDays_any _ _ _ hj1 hj2).mono ?_; rintro e w' ⟨rfl, rfl⟩)
            go_round
            case rel => exact ⟨j + 1, by omega, by omega, rfl, by rw [HC.out]; omega, by rw [HC.out]; exact congrArg (Value.int .i64) (by omega)⟩
            case measure => simp [intOf]; omega
          · have hdate : IsDay (n / 1440) (2000 + k) j (n / 1440 - ys k - cum (2000 + k) j + 1) := ⟨by omega, hj1, hj2, by omega, by omega, by rw [show 2000 + k - 2000 = k from by omega]; omega⟩
            have HU := Lib.hid (ymd_of hdate (by omega))
            clear hdate
            go_wp2_with (go_at_call 15; refine (refDays_any _ _ _ hj1 hj2).mono ?_; rintro e w' ⟨rfl, rfl⟩)
            go_returns
            exact ⟨by rw [HU.out.1, HU.out.2.1, HU.out.2.2], by go_grown⟩
      · skip
        go_wp2_with (go_at_call 16; refine (refLeap_any _ _).mono ?_; rintro e w' ⟨rfl, rfl⟩)
        go_round
        case rel => exact ⟨k + 1, by omega, by rw [Int.add_assoc], by rw [HS.out, HP.out]; omega, by rw [HS.out, HP.out]; exact congrArg (Value.int .i64) (by omega)⟩
        case measure => simp [intOf]; omega
    · have hlp' : leapB (2000 + k) = false := by simpa using hlp
      clear hlp
      have HP := Lib.hid (show lp (2000 + k) = 0 by simp [lp, hlp'])
      by_cases hc : n / 1440 - ys k < 365
      · skip
        go_wp2_with (go_at_call 16; refine (refLeap_any _ _).mono ?_; rintro e w' ⟨rfl, rfl⟩)
        go_loop [5, 8] (fun r m => ∃ j : Int, 1 ≤ j ∧ j ≤ 12 ∧ m = .int .i64 j ∧ 0 ≤ n / 1440 - ys k - cum (2000 + k) j ∧ r = .int .i64 (n / 1440 - ys k - cum (2000 + k) j)) (fun _ m => (13 - intOf m).toNat)
        case atStart => exact ⟨1, by omega, by omega, rfl, by rw [cum_one]; omega, by rw [cum_one]; simp⟩
        case round =>
          obtain ⟨j, hj1, hj2, rfl, hr, rfl⟩ := hrel
          have hcb := cum_bd (2000 + k) j hj1 (by omega)
          obtain ⟨c0, c1⟩ := hcb
          have hd := dim_bd (2000 + k) j
          obtain ⟨d0, d1⟩ := hd
          have HC := Lib.hid (cum_succ (2000 + k) j hj1 (by omega))
          by_cases hlt : dim (2000 + k) j ≤ n / 1440 - ys k - cum (2000 + k) j
          · have hj12 : j < 12 := by
              rcases Int.lt_or_eq_of_le hj2 with l | l
              · exact l
              · exfalso
                have hs := HC.out
                have ce := cum_end (2000 + k)
                have hp := HP.out
                rw [l] at hs hlt
                rw [show (12 : Int) + 1 = 13 from rfl] at hs
                omega
            go_wp2_with (go_at_call 15; refine (refDays_any _ _ _ hj1 hj2).mono ?_; rintro e w' ⟨rfl, rfl⟩)
            go_round
            case rel => exact ⟨j + 1, by omega, by omega, rfl, by rw [HC.out]; omega, by rw [HC.out]; exact congrArg (Value.int .i64) (by omega)⟩
            case measure => simp [intOf]; omega
          · have hdate : IsDay (n / 1440) (2000 + k) j (n / 1440 - ys k - cum (2000 + k) j + 1) := ⟨by omega, hj1, hj2, by omega, by omega, by rw [show 2000 + k - 2000 = k from by omega]; omega⟩
            have HU := Lib.hid (ymd_of hdate (by omega))
            clear hdate
            go_wp2_with (go_at_call 15; refine (refDays_any _ _ _ hj1 hj2).mono ?_; rintro e w' ⟨rfl, rfl⟩)
            go_returns
            exact ⟨by rw [HU.out.1, HU.out.2.1, HU.out.2.2], by go_grown⟩
      · skip
        go_wp2_with (go_at_call 16; refine (refLeap_any _ _).mono ?_; rintro e w' ⟨rfl, rfl⟩)
        go_round
        case rel => exact ⟨k + 1, by omega, by rw [Int.add_assoc], by rw [HS.out, HP.out]; omega, by rw [HS.out, HP.out]; exact congrArg (Value.int .i64) (by omega)⟩
        case measure => simp [intOf]; omega
end Go.Proofs.YtmjcdnlcdkeoaaaDoor.Cal
