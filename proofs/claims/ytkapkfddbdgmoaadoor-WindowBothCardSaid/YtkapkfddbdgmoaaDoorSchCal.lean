/- Walks: where a month begins (after the calendar's walks). -/
import Derived.Test.YtkapkfddbdgmoaaDoorCalWalk1
import Derived.Test.YtkapkfddbdgmoaaDoorBase
set_option linter.unusedVariables false
set_option linter.unusedSimpArgs false
namespace Go.Proofs.YtkapkfddbdgmoaaDoor.Cal
open Go.RowKit Go

/-- Days ahead of month number mm (0: January 2000). -/
def md (mm : Int) : Int := ys (mm / 12) + cum (2000 + mm / 12) (mm % 12 + 1)
theorem dim_tot (y m : Int) : 0 ≤ dim y m ∧ dim y m ≤ 31 := dim_bd y m
set_option maxHeartbeats 400000 in
theorem monthDay_any (mm : Int) (w : World) (h0 : 0 ≤ mm) (h1 : mm ≤ 1000000) (hL : Len w) :
    Calls Tryd.prog 63 #[.int .i64 mm] w fun e w' => e = .returned (.int .i64 (md mm)) ∧ w = w' := by
  have HL := Lib.hid hL
  clear hL
  have hy := ys_bd (mm / 12) (by omega)
  obtain ⟨y0, y1⟩ := hy
  go_enter Tryd.func63, Tryd.ntmps63
  go_wp2_with (go_at_call 72; refine (yearStart_any _ _ (by omega) (by omega)).mono ?_; rintro e w' ⟨rfl, rfl⟩)
  go_loop [4, 5] (fun d m => ∃ k : Int, 1 ≤ k ∧ k ≤ mm % 12 + 1 ∧ m = .int .i64 k ∧ d = .int .i64 (ys (mm / 12) + cum (2000 + mm / 12) k)) (fun _ m => (13 - intOf m).toNat)
  case atStart => exact ⟨1, by omega, by omega, rfl, by simp [cum]⟩
  case round =>
    obtain ⟨k, hk1, hk2, rfl, rfl⟩ := hrel
    have hc := cum_bd (2000 + mm / 12) k hk1 (by omega)
    obtain ⟨c0, c1⟩ := hc
    have hd := dim_bd (2000 + mm / 12) k
    obtain ⟨d0, d1⟩ := hd
    by_cases hlt : k ≤ mm % 12
    · have HS := Lib.hid (cum_succ (2000 + mm / 12) k hk1 (by omega))
      go_wp2_with (go_at_call 73; refine (days_any _ _ _ HL.out).mono ?_; rintro e w' ⟨rfl, rfl⟩)
      go_round
      case rel => exact ⟨k + 1, by omega, by omega, rfl, by rw [HS.out, Int.add_assoc]⟩
      case measure => simp [intOf]; omega
    · have hk : k = mm % 12 + 1 := by omega
      have HK := Lib.hid hk
      clear hk
      go_wp2_with fail
      go_ret
      exact ⟨ret_int (by unfold md; rw [← HK.out]), rfl⟩
theorem lt_of_cell {w : World} {b o : Nat} {v : Value} (h : w.cell? ⟨b, o, none⟩ = some v) : b < w.heap.size := by
  apply Classical.byContradiction
  intro hn
  have : w.heap[b]? = none := by simp; omega
  simp [World.cell?, this] at h
theorem Len.below {w w' : World} (h : Len w) (hb : Below w.heap.size w w') : Len w' := by
  have hlt := lt_of_cell h.c0
  obtain ⟨c0, c1, c2, c3, c4, c5, c6, c7, c8, c9, c10, c11, c12⟩ := h
  constructor <;> (rw [hb.cell (by exact hlt)]; assumption)
theorem right_yes (n : Int) (w : World) (h0 : 0 ≤ n) (h1 : n < 2147483648) :
    Calls Tryd.prog 64 #[.int .i64 n] w fun e w' => e = .returned (.bool true) ∧ w = w' := by
  go_enter Tryd.func64, Tryd.ntmps64
  go_wp2
  go_ret
  exact ⟨rfl, rfl⟩
theorem right_no (n : Int) (w : World) (h : ¬ (0 ≤ n ∧ n < 2147483648)) :
    Calls Tryd.prog 64 #[.int .i64 n] w fun e w' => e = .returned (.bool false) ∧ w = w' := by
  by_cases h0 : 0 ≤ n
  · have h1 : ¬ n < 2147483648 := by omega
    clear h
    go_enter Tryd.func64, Tryd.ntmps64
    go_wp2
    go_ret
    exact ⟨rfl, rfl⟩
  · clear h
    go_enter Tryd.func64, Tryd.ntmps64
    go_wp2
    go_ret
    exact ⟨rfl, rfl⟩
theorem monthDay_is (mm q : Int) (w : World) (h0 : 0 ≤ mm) (h1 : mm ≤ 1000000) (hL : Len w) (hq : md mm = q) :
    Calls Tryd.prog 63 #[.int .i64 mm] w fun e w' => e = .returned (.int .i64 q) ∧ w = w' := by
  subst hq; exact monthDay_any mm w h0 h1 hL
set_option maxHeartbeats 400000 in
theorem monthStart_any (mm : Int) (w : World) (hL : Len w) :
    Calls Tryd.prog 56 #[.int .i64 mm] w fun e w' => e = .returned (.int .i64 (if 0 ≤ mm ∧ mm ≤ 60000 ∧ md mm * 1440 < 2147483648 then md mm * 1440 else -1)) ∧ w = w' := by
  have HL := Lib.hid hL
  clear hL
  by_cases h0 : mm < 0
  · rw [if_neg (by omega)]
    go_enter Tryd.func56, Tryd.ntmps56
    go_wp2_with fail
    go_ret
    exact ⟨rfl, rfl⟩
  by_cases h1 : 60000 < mm
  · rw [if_neg (by omega)]
    go_enter Tryd.func56, Tryd.ntmps56
    go_wp2_with fail
    go_ret
    exact ⟨rfl, rfl⟩
  have q0 : 0 ≤ md mm ∧ md mm ≤ 2000000 := by
    have hyb := ys_bd (mm / 12) (by omega)
    have hcb := cum_bd (2000 + mm / 12) (mm % 12 + 1) (by omega) (by omega)
    unfold md; omega
  obtain ⟨q, hq⟩ : ∃ q, md mm = q := ⟨_, rfl⟩
  rw [hq] at q0 ⊢
  have HQ := Lib.hid hq
  clear hq
  obtain ⟨q0, q1⟩ := q0
  by_cases h2 : q * 1440 < 2147483648
  · rw [if_pos ⟨by omega, by omega, h2⟩]
    go_enter Tryd.func56, Tryd.ntmps56
    go_wp2_with (first | (go_at_call 63; refine (monthDay_is _ _ _ (by omega) (by omega) HL.out HQ.out).mono ?_; rintro e w' ⟨rfl, rfl⟩) | (go_at_call 64; refine (right_yes _ _ (by omega) (by omega)).mono ?_; rintro e w' ⟨rfl, rfl⟩))
    go_ret
    exact ⟨rfl, rfl⟩
  · rw [if_neg (by omega)]
    go_enter Tryd.func56, Tryd.ntmps56
    go_wp2_with (first | (go_at_call 63; refine (monthDay_is _ _ _ (by omega) (by omega) HL.out HQ.out).mono ?_; rintro e w' ⟨rfl, rfl⟩) | (go_at_call 64; refine (right_no _ _ (by omega)).mono ?_; rintro e w' ⟨rfl, rfl⟩))
    go_ret
    exact ⟨rfl, rfl⟩
theorem md_zero : md 0 = 0 := by decide
theorem md_bd (mm : Int) (h : 0 ≤ mm) : 0 ≤ md mm ∧ ys (mm / 12) ≤ md mm ∧ md mm ≤ ys (mm / 12) + 366 := by
  have := ys_lo (mm / 12) (by omega)
  have := cum_bd (2000 + mm / 12) (mm % 12 + 1) (by omega) (by omega)
  unfold md; omega
theorem md_succ (mm : Int) (h : 1 ≤ mm) : md mm = md (mm - 1) + dim (2000 + (mm - 1) / 12) ((mm - 1) % 12 + 1) := by
  by_cases c : mm % 12 = 0
  · have e1 : mm / 12 = (mm - 1) / 12 + 1 := by omega
    have e2 : (mm - 1) % 12 = 11 := by omega
    have s := ys_succ ((mm - 1) / 12) (by omega)
    have k := cum_succ (2000 + (mm - 1) / 12) 12 (by omega) (by omega)
    have ce := cum_end (2000 + (mm - 1) / 12)
    have co := cum_one (2000 + mm / 12)
    unfold md
    rw [e2, show (11 : Int) + 1 = 12 from rfl]
    rw [show (12 : Int) + 1 = 13 from rfl] at k
    rw [c, show (0 : Int) + 1 = 1 from rfl, co, e1]
    omega
  · have e1 : mm / 12 = (mm - 1) / 12 := by omega
    have e2 : mm % 12 = (mm - 1) % 12 + 1 := by omega
    have k := cum_succ (2000 + (mm - 1) / 12) ((mm - 1) % 12 + 1) (by omega) (by omega)
    unfold md
    rw [e2, e1, k]
    omega
theorem md_far (mm : Int) (h : 49000 < mm) : 2147483648 ≤ md mm * 1440 := by
  have b := md_bd mm (by omega)
  by_cases c : 4084 ≤ mm / 12
  · have m := ys_mono 4084 (mm / 12) (by omega) c
    have : ys 4084 = 1491651 := by decide
    omega
  · have e : mm / 12 = 4083 := by omega
    have hc := cum_mono (2000 + 4083) 6 (mm % 12 + 1) (by omega) (by omega) (by omega)
    have : ys 4083 = 1491286 := by decide
    have : cum (2000 + 4083) 6 = 151 := by decide
    unfold md
    rw [e]; omega
theorem md_near (mm : Int) (h0 : 0 ≤ mm) (h : mm ≤ 48990) : md mm * 1440 < 2147483648 := by
  have b := md_bd mm h0
  have m := ys_mono (mm / 12) 4082 (by omega) (by omega)
  have : ys 4082 = 1490921 := by decide
  omega
theorem start_any (mm q : Int) (w : World) (hL : Len w) (hq : (if 0 ≤ mm ∧ mm ≤ 60000 ∧ md mm * 1440 < 2147483648 then md mm * 1440 else -1) = q) :
    Calls Tryd.prog 56 #[.int .i64 mm] w fun e w' => e = .returned (.int .i64 q) ∧ w = w' := by
  rw [← hq]; exact monthStart_any mm w hL
end Go.Proofs.YtkapkfddbdgmoaaDoor.Cal
