/- Walks: the start of a month, the date of a day, the date of a minute. -/
import Derived.Test.YtmjcdnlcdkeoaaaDoorCalWalk1
set_option linter.unusedVariables false
set_option linter.unusedSimpArgs false
namespace Go.Proofs.YtmjcdnlcdkeoaaaDoor.Cal
open Go.RowKit Go

/-- Days ahead of month number mm (0: January 2000). -/
def md (mm : Int) : Int := ys (mm / 12) + cum (2000 + mm / 12) (mm % 12 + 1)

theorem dim_tot (y m : Int) : 0 ≤ dim y m ∧ dim y m ≤ 31 := dim_bd y m

set_option maxHeartbeats 400000 in
theorem monthDay_any (mm : Int) (w : World) (h0 : 0 ≤ mm) (h1 : mm ≤ 1000000) (hL : Len w) :
    Calls Tryd.prog 27 #[.int .i64 mm] w fun e w' => e = .returned (.int .i64 (md mm)) ∧ w = w' := by
  have HL := Lib.hid hL
  clear hL
  have hy := ys_bd (mm / 12) (by omega)
  obtain ⟨y0, y1⟩ := hy
  go_enter Tryd.func27, Tryd.ntmps27
  go_wp2_with (go_at_call 31; refine (yearStart_any _ _ (by omega) (by omega)).mono ?_; rintro e w' ⟨rfl, rfl⟩)
  go_loop [4, 5] (fun d m => ∃ k : Int, 1 ≤ k ∧ k ≤ mm % 12 + 1 ∧ m = .int .i64 k ∧ d = .int .i64 (ys (mm / 12) + cum (2000 + mm / 12) k)) (fun _ m => (13 - intOf m).toNat)
  case atStart => exact ⟨1, by omega, by omega, rfl, by simp [cum]⟩
  case round =>
    obtain ⟨k, hk1, hk2, rfl, rfl⟩ := hrel
    have hc := cum_bd (2000 + mm / 12) k hk1 (by omega)
    obtain ⟨c0, c1⟩ := hc
    have hd := dim_bd (2000 + mm / 12) k
    obtain ⟨d0, d1⟩ := hd
    by_cases hlt : k ≤ mm % 12
    · have HS := Lib.hid (cum_succ (2000 + mm / 12) k hk1 (by omega))
      go_wp2_with (go_at_call 17; refine (days_any _ _ _ HL.out).mono ?_; rintro e w' ⟨rfl, rfl⟩)
      go_round
      case rel => exact ⟨k + 1, by omega, by omega, rfl, by rw [HS.out, Int.add_assoc]⟩
      case measure => simp [intOf]; omega
    · have hk : k = mm % 12 + 1 := by omega
      have HK := Lib.hid hk
      clear hk
      go_wp2_with fail
      go_ret
      exact ⟨ret_int (by unfold md; rw [← HK.out]), rfl⟩

set_option maxHeartbeats 800000 in
theorem split_any (day : Int) (w : World) (h0 : 0 ≤ day) (h1 : day ≤ 10000000) (hL : Len w) :
    Calls Tryd.prog 26 #[.int .i64 day] w fun e w' => e = .returned (.tuple #[.int .i64 (Y day), .int .i64 (M day), .int .i64 (D day)]) ∧ w = w' := by
  have HL := Lib.hid hL
  clear hL
  have g0 := ys_guess day h0
  go_enter Tryd.func26, Tryd.ntmps26
  go_wp2_with fail
  go_loop [5] (fun t => ∃ n : Int, 0 ≤ n ∧ ys n ≤ day ∧ t = .int .i64 n) (fun t => (day + 1 - intOf t).toNat)
  case atStart => exact ⟨_, by omega, g0, rfl⟩
  case round =>
    obtain ⟨n, hn0, hn1, rfl⟩ := hrel
    have hb := ys_bd n hn0
    obtain ⟨b0, b1⟩ := hb
    have hb2 := ys_bd (n + 1) (by omega)
    obtain ⟨b2, b3⟩ := hb2
    by_cases hc : ys (n + 1) ≤ day
    · go_wp2_with (go_at_call 31; refine (yearStart_any _ _ (by omega) (by omega)).mono ?_; rintro e w' ⟨rfl, rfl⟩)
      go_round
      case rel => exact ⟨n + 1, by omega, hc, rfl⟩
      case measure => simp [intOf]; omega
    · go_wp2_with (go_at_call 31; refine (yearStart_any _ _ (by omega) (by omega)).mono ?_; rintro e w' ⟨rfl, rfl⟩)
      have hys := ys_succ n hn0
      have hlp := lp_01 (2000 + n)
      obtain ⟨lp0, lp1⟩ := hlp
      have HYS := Lib.hid hys
      clear hys
      go_loop [3, 4] (fun m r => ∃ k : Int, 1 ≤ k ∧ k ≤ 12 ∧ m = .int .i64 k ∧ 0 ≤ day - ys n - cum (2000 + n) k ∧ r = .int .i64 (day - ys n - cum (2000 + n) k)) (fun m _ => (13 - intOf m).toNat)
      case atStart => exact ⟨1, by omega, by omega, rfl, by simp [cum]; omega, by simp [cum]⟩
      case round =>
        obtain ⟨k, hk1, hk2, rfl, hr, rfl⟩ := hrel
        have hcb := cum_bd (2000 + n) k hk1 (by omega)
        obtain ⟨c0, c1⟩ := hcb
        have hd := dim_bd (2000 + n) k
        obtain ⟨d0, d1⟩ := hd
        have HS := Lib.hid (cum_succ (2000 + n) k hk1 (by omega))
        by_cases hlt : dim (2000 + n) k ≤ day - ys n - cum (2000 + n) k
        · have hk12 : k < 12 := by
            rcases Int.lt_or_eq_of_le hk2 with l | l
            · exact l
            · exfalso
              have hs := HS.out
              have hys := HYS.out
              have ce := cum_end (2000 + n)
              rw [l] at hs hlt
              rw [show (12 : Int) + 1 = 13 from rfl] at hs
              omega
          go_wp2_with (go_at_call 17; refine (days_any _ _ _ HL.out).mono ?_; rintro e w' ⟨rfl, rfl⟩)
          go_round
          case rel => exact ⟨k + 1, by omega, by omega, rfl, by rw [HS.out]; omega, by rw [HS.out]; exact congrArg (Value.int .i64) (by omega)⟩
          case measure => simp [intOf]; omega
        · have hdate : IsDay day (2000 + n) k (day - ys n - cum (2000 + n) k + 1) := ⟨by omega, hk1, hk2, by omega, by omega, by rw [show 2000 + n - 2000 = n from by omega]; omega⟩
          have hu := ymd_of hdate h0
          have HU := Lib.hid hu
          clear hu hdate
          go_wp2_with (go_at_call 17; refine (days_any _ _ _ HL.out).mono ?_; rintro e w' ⟨rfl, rfl⟩)
          go_ret3
          exact ⟨by rw [HU.out.1, HU.out.2.1, HU.out.2.2]; rfl, rfl⟩
end Go.Proofs.YtmjcdnlcdkeoaaaDoor.Cal
