/- The walk of the law on months: it returns true at every number. -/
import Derived.Test.YtmjcdnlcdkeoaaaDoorCalWalk8
import Derived.Test.YtmjcdnlcdkeoaaaDoorStartsWalk
set_option linter.unusedVariables false
set_option linter.unusedSimpArgs false
namespace Go.Proofs.YtmjcdnlcdkeoaaaDoor.Cal
open Go.RowKit Go

theorem idx5 (a b c d e f : Int) (w : World) : (Instr.index 30 (.agg #[.int .i64 a, .int .i64 b, .int .i64 c, .int .i64 d, .int .i64 e, .int .i64 f]) (.int .i64 5)).run Tryd.prog w = .ok (.int .i64 f) w := by kernel_rfl

theorem month_facts {n y m d : Int} (h0 : 0 ≤ n) (h1 : n < 2147483648) (hd : IsDay (n / 1440) y m d) :
    0 ≤ (y - 2000) * 12 + m - 1 ∧ md ((y - 2000) * 12 + m - 1) * 1440 ≤ n ∧ n < md ((y - 2000) * 12 + m - 1 + 1) * 1440 ∧ md ((y - 2000) * 12 + m - 1 + 1) ≤ md ((y - 2000) * 12 + m - 1) + 31 ∧
    IsDay (md ((y - 2000) * 12 + m - 1)) y m 1 ∧ 0 ≤ md ((y - 2000) * 12 + m - 1) := by
  obtain ⟨a, b, c, e, f, g⟩ := hd
  have e1 := md_eq y m b c
  have e2 := md_succ ((y - 2000) * 12 + m - 1 + 1) (by omega)
  rw [show (y - 2000) * 12 + m - 1 + 1 - 1 = (y - 2000) * 12 + m - 1 from by omega, show 2000 + ((y - 2000) * 12 + m - 1) / 12 = y from by omega, show ((y - 2000) * 12 + m - 1) % 12 + 1 = m from by omega] at e2
  have db := dim_bd y m
  have dl := dim_lo y m b c
  have b0 := (md_bd ((y - 2000) * 12 + m - 1) (by omega)).1
  exact ⟨by omega, by omega, by omega, by omega, ⟨a, b, c, by omega, by omega, by omega⟩, b0⟩

theorem start_any (mm q : Int) (w : World) (hL : Len w) (hq : (if 0 ≤ mm ∧ mm ≤ 60000 ∧ md mm * 1440 < 2147483648 then md mm * 1440 else -1) = q) :
    Calls Tryd.prog 19 #[.int .i64 mm] w fun e w' => e = .returned (.int .i64 q) ∧ w = w' := by
  rw [← hq]; exact monthStart_any mm w hL

theorem day_is (n : Int) (w : World) (h0 : 0 ≤ n) (h1 : n < 2147483648) :
    Calls Tryd.prog 21 #[.int .i64 n] w fun e w' => e = .returned (.int .i64 (n / 1440)) ∧ w = w' := by
  have := day_any n w
  rw [if_pos ⟨h0, h1⟩] at this
  exact this
theorem month_is (n y m d a : Int) (w : World) (h0 : 0 ≤ n) (h1 : n < 2147483648) (hL : Len w) (hd : IsDay (n / 1440) y m d) (hy : y ≤ 7000) (ha : (y - 2000) * 12 + m - 1 = a) :
    Calls Tryd.prog 20 #[.int .i64 n] w fun e w' => e = .returned (.int .i64 a) ∧ Below w.heap.size w w' := by
  rw [← ha]; exact month_yes n y m d w h0 h1 hL hd hy

set_option maxHeartbeats 400000 in
theorem months_yes (n : Int) (w : World) (h0 : 0 ≤ n) (h1 : n < 2147483648) (hE : Env w) :
    Calls Tryd.prog 7 #[.int .i64 n] w fun e w' => e = .returned (.bool true) ∧ Below w.heap.size w w' := by
  have HE := Lib.hid hE
  clear hE
  obtain ⟨y, m, d, hd⟩ := day_exists (n / 1440) (by omega)
  obtain ⟨f0, f1, f2, f3, f4, f5⟩ := month_facts h0 h1 hd
  have y0 := hd.y0
  have y1 := (ok_of h0 h1 hd).2.2
  have m1 := hd.m1
  have m2 := hd.m2
  obtain ⟨h, hh⟩ : ∃ h, n % 1440 / 60 = h := ⟨_, rfl⟩
  obtain ⟨i, hi⟩ : ∃ i, n % 60 = i := ⟨_, rfl⟩
  obtain ⟨k, hk⟩ : ∃ k, (n / 1440 + 6) % 7 = k := ⟨_, rfl⟩
  obtain ⟨q, hq⟩ : ∃ q, md ((y - 2000) * 12 + m - 1) = q := ⟨_, rfl⟩
  obtain ⟨q2, hq2⟩ : ∃ q2, md ((y - 2000) * 12 + m - 1 + 1) = q2 := ⟨_, rfl⟩
  obtain ⟨k2, hk2⟩ : ∃ k2, (q * 1440 / 1440 + 6) % 7 = k2 := ⟨_, rfl⟩
  rw [hq] at f1 f3 f4 f5
  rw [hq2] at f2 f3
  obtain ⟨nx, hnx⟩ : ∃ nx, (if q2 * 1440 < 2147483648 then q2 * 1440 else -1) = nx := ⟨_, rfl⟩
  have hs1 : (if 0 ≤ (y - 2000) * 12 + m - 1 ∧ (y - 2000) * 12 + m - 1 ≤ 60000 ∧ md ((y - 2000) * 12 + m - 1) * 1440 < 2147483648 then md ((y - 2000) * 12 + m - 1) * 1440 else -1) = q * 1440 := by
    rw [hq, if_pos ⟨by omega, by omega, by omega⟩]
  have hs2 : (if 0 ≤ (y - 2000) * 12 + m - 1 + 1 ∧ (y - 2000) * 12 + m - 1 + 1 ≤ 60000 ∧ md ((y - 2000) * 12 + m - 1 + 1) * 1440 < 2147483648 then md ((y - 2000) * 12 + m - 1 + 1) * 1440 else -1) = nx := by
    rw [hq2, ← hnx]
    by_cases c : q2 * 1440 < 2147483648
    · rw [if_pos ⟨by omega, by omega, c⟩, if_pos c]
    · rw [if_neg (by omega), if_neg c]
  have hdq : IsDay (q * 1440 / 1440) y m 1 := by rw [show q * 1440 / 1440 = q from by omega]; exact f4
  have g1 : ¬ n < q * 1440 := by omega
  have g2 : ¬ q * 1440 < 0 := by omega
  have g3 : ¬ (0 ≤ nx ∧ nx ≤ n) := by rw [← hnx]; split <;> omega
  have g4 : ¬ (nx < 0 ∧ n < 2147439008) := by rw [← hnx]; split <;> omega
  have G3 := Lib.hid g3
  have G4 := Lib.hid g4
  have d1 := dfalse g1
  have d2 := dfalse g2
  obtain ⟨a, ha⟩ : ∃ a, (y - 2000) * 12 + m - 1 = a := ⟨_, rfl⟩
  have a0 : 0 ≤ a := by omega
  have a1 : a ≤ 60000 := by omega
  have hne : (a != (y - 2000) * 12 + m - 1) = false := by rw [ha]; simp
  rw [ha] at hs1 hs2
  have HA := Lib.hid ha
  have HD := Lib.hid hd
  have HH := Lib.hid hh
  have HI := Lib.hid hi
  have HK := Lib.hid hk
  have HK2 := Lib.hid hk2
  have HDQ := Lib.hid hdq
  have HS1 := Lib.hid hs1
  have HS2 := Lib.hid hs2
  have q1 : q * 1440 < 2147483648 := by omega
  have HQ0 := Lib.hid (show q * 1440 % 1440 / 60 = 0 by omega)
  have HQ1 := Lib.hid (show q * 1440 % 60 = 0 by omega)
  clear ha hd hh hi hk hk2 hdq hs1 hs2 hnx hq hq2 f0 f1 f2 f3 f4 g1 g2 g3 g4
  have heq := arr_same y m 1 0 0 k2
  have hix := idx5 y m 1 0 0 k2
  by_cases c : nx < 0
  · have c2 : ¬ n < 2147439008 := fun hx => G4.out ⟨c, hx⟩
    have d3 := dfalse c2
    have d4 := dfalse (show ¬ 0 ≤ nx by omega)
    go_enter Tryd.func7, Tryd.ntmps7
    go_wp2_with fail
    refine (refOf_is n y m d h i k _ h0 h1 HD.out HH.out HI.out HK.out).mono ?_
    rintro e w1 ⟨rfl, hb1⟩
    have z1 := hb1.size
    have E1 := Lib.hid (HE.out.below hb1)
    go_wp2_with fail
    refine (month_is n y m d a _ h0 h1 (E1.out.len.below (by go_grown)) HD.out (by omega) HA.out).mono ?_
    rintro e w2 ⟨rfl, hb2⟩
    have b2 := Below.next (B := w.heap.size) (w := w) (Below.alloc hb1 z1 _) hb2 (Nat.le_refl _)
    have c0 : w2.cell? ⟨w1.heap.size, 0, none⟩ = some (.int .i64 y) := box (n := 0) hb2 (by simp) 0
    have c1 : w2.cell? ⟨w1.heap.size, 1, none⟩ = some (.int .i64 m) := box (n := 0) hb2 (by simp) 1
    have z2 := hb2.size
    simp only [World.size_alloc] at z2
    have z3 : w1.heap.size < w2.heap.size := by omega
    have E2 := Lib.hid (HE.out.below b2)
    have HS : Hid (w2.drew.cell? ⟨w1.heap.size, 0, none⟩ = some (.int .i64 y) ∧ w2.drew.cell? ⟨w1.heap.size, 1, none⟩ = some (.int .i64 m) ∧ KeptB w w1.heap.size w2.drew) := ⟨c0, c1, E2.out.below (Below.refl _ _).drew, b2.drew, z3⟩
    clear hb2
    go_wp2_with fail
    refine (start_any _ _ _ E2.out.len HS2.out).mono ?_
    rintro e w' ⟨rfl, rfl⟩
    go_wp2_with fail
    refine (start_any _ _ _ E2.out.len HS1.out).mono ?_
    rintro e w' ⟨rfl, rfl⟩
    go_wp2_with fail
    have q0 : 0 ≤ q * 1440 := by omega
    have hw1 : IntKind.i64.wrap (n.tdiv 1440) = n / 1440 := by rw [Int.tdiv_eq_ediv_of_nonneg h0]; exact IntWalk.i64_in _ (by omega)
    have hw2 : wrap64 (n.tdiv 1440) = n / 1440 := by rw [Int.tdiv_eq_ediv_of_nonneg h0]; exact IntWalk.wrap64_in _ (by omega)
    go_region_held3 (fun w' => w'.cell? ⟨w1.heap.size, 0, none⟩ = some (.int .i64 y) ∧ w'.cell? ⟨w1.heap.size, 1, none⟩ = some (.int .i64 m) ∧ KeptB w w1.heap.size w') (first | exact HS.out | exact keep2 (by assumption) hb | assumption | go_keep)
      (first | (go_at_call 14; refine (refOf_is (q * 1440) y m 1 0 0 k2 _ q0 q1 HDQ.out HQ0.out HQ1.out HK2.out).mono ?_; rintro e w' ⟨rfl, hb⟩) | (go_at_call 21; refine (day_is n _ h0 h1).mono ?_; rintro e w' ⟨rfl, rfl⟩) | (go_at_call 11; refine (awake_any _ (env2 (w := w) (B := w1.heap.size) (by assumption))).mono ?_; rintro e w' ⟨rfl, hb⟩))
    go_wp2_with fail
    go_ret
    have hk : KeptB w w1.heap.size w' := by
      have hx : w'.cell? ⟨w1.heap.size, 0, none⟩ = some (.int .i64 y) ∧ w'.cell? ⟨w1.heap.size, 1, none⟩ = some (.int .i64 m) ∧ KeptB w w1.heap.size w' := by assumption
      exact hx.2.2
    exact ⟨rfl, hk.2.1⟩
  · have c2 : ¬ nx ≤ n := fun hx => G3.out ⟨by omega, hx⟩
    have d3 := dfalse c2
    have d4 := dfalse c
    go_enter Tryd.func7, Tryd.ntmps7
    go_wp2_with fail
    refine (refOf_is n y m d h i k _ h0 h1 HD.out HH.out HI.out HK.out).mono ?_
    rintro e w1 ⟨rfl, hb1⟩
    have z1 := hb1.size
    have E1 := Lib.hid (HE.out.below hb1)
    go_wp2_with fail
    refine (month_is n y m d a _ h0 h1 (E1.out.len.below (by go_grown)) HD.out (by omega) HA.out).mono ?_
    rintro e w2 ⟨rfl, hb2⟩
    have b2 := Below.next (B := w.heap.size) (w := w) (Below.alloc hb1 z1 _) hb2 (Nat.le_refl _)
    have c0 : w2.cell? ⟨w1.heap.size, 0, none⟩ = some (.int .i64 y) := box (n := 0) hb2 (by simp) 0
    have c1 : w2.cell? ⟨w1.heap.size, 1, none⟩ = some (.int .i64 m) := box (n := 0) hb2 (by simp) 1
    have z2 := hb2.size
    simp only [World.size_alloc] at z2
    have z3 : w1.heap.size < w2.heap.size := by omega
    have E2 := Lib.hid (HE.out.below b2)
    have HS : Hid (w2.drew.cell? ⟨w1.heap.size, 0, none⟩ = some (.int .i64 y) ∧ w2.drew.cell? ⟨w1.heap.size, 1, none⟩ = some (.int .i64 m) ∧ KeptB w w1.heap.size w2.drew) := ⟨c0, c1, E2.out.below (Below.refl _ _).drew, b2.drew, z3⟩
    clear hb2
    go_wp2_with fail
    refine (start_any _ _ _ E2.out.len HS2.out).mono ?_
    rintro e w' ⟨rfl, rfl⟩
    go_wp2_with fail
    refine (start_any _ _ _ E2.out.len HS1.out).mono ?_
    rintro e w' ⟨rfl, rfl⟩
    go_wp2_with fail
    have q0 : 0 ≤ q * 1440 := by omega
    have hw1 : IntKind.i64.wrap (n.tdiv 1440) = n / 1440 := by rw [Int.tdiv_eq_ediv_of_nonneg h0]; exact IntWalk.i64_in _ (by omega)
    have hw2 : wrap64 (n.tdiv 1440) = n / 1440 := by rw [Int.tdiv_eq_ediv_of_nonneg h0]; exact IntWalk.wrap64_in _ (by omega)
    go_region_held3 (fun w' => w'.cell? ⟨w1.heap.size, 0, none⟩ = some (.int .i64 y) ∧ w'.cell? ⟨w1.heap.size, 1, none⟩ = some (.int .i64 m) ∧ KeptB w w1.heap.size w') (first | exact HS.out | exact keep2 (by assumption) hb | assumption | go_keep)
      (first | (go_at_call 14; refine (refOf_is (q * 1440) y m 1 0 0 k2 _ q0 q1 HDQ.out HQ0.out HQ1.out HK2.out).mono ?_; rintro e w' ⟨rfl, hb⟩) | (go_at_call 21; refine (day_is n _ h0 h1).mono ?_; rintro e w' ⟨rfl, rfl⟩) | (go_at_call 11; refine (awake_any _ (env2 (w := w) (B := w1.heap.size) (by assumption))).mono ?_; rintro e w' ⟨rfl, hb⟩))
    go_wp2_with fail
    go_ret
    have hk : KeptB w w1.heap.size w' := by
      have hx : w'.cell? ⟨w1.heap.size, 0, none⟩ = some (.int .i64 y) ∧ w'.cell? ⟨w1.heap.size, 1, none⟩ = some (.int .i64 m) ∧ KeptB w w1.heap.size w' := by assumption
      exact hx.2.2
    exact ⟨rfl, hk.2.1⟩

theorem day_no (n : Int) (w : World) (h : ¬ (0 ≤ n ∧ n < 2147483648)) :
    Calls Tryd.prog 21 #[.int .i64 n] w fun e w' => e = .returned (.int .i64 0) ∧ w = w' := by
  have := day_any n w
  rw [if_neg h] at this
  exact this
set_option maxHeartbeats 400000 in
theorem months_law (n : Int) (w : World) (hE : Env w) :
    Calls Tryd.prog 7 #[.int .i64 n] w fun e w' => e = .returned (.bool true) ∧ Below w.heap.size w w' := by
  by_cases hn : 0 ≤ n ∧ n < 2147483648
  · exact months_yes n w hn.1 hn.2 hE
  have HN := Lib.hid hn
  have HE := Lib.hid hE
  clear hE
  by_cases h0 : n < 0
  · clear hn
    go_enter Tryd.func7, Tryd.ntmps7
    go_wp2_with fail
    refine (month_no n _ HN.out).mono ?_
    rintro e w1 ⟨rfl, hb⟩
    have E1 := Lib.hid (HE.out.below hb)
    go_wp2_with fail
    refine (day_no n _ HN.out).mono ?_
    rintro e w' ⟨rfl, rfl⟩
    go_wp2_with fail
    refine (awake_any _ E1.out).mono ?_
    rintro e w2 ⟨rfl, hb2⟩
    have b2 := Below.next (B := w.heap.size) (w := w) hb hb2 (Nat.le_refl _)
    go_wp2_with fail
    go_ret
    exact ⟨rfl, b2⟩
  · have h1 : 2147483648 ≤ n := by omega
    clear hn
    go_enter Tryd.func7, Tryd.ntmps7
    go_wp2_with fail
    refine (month_no n _ HN.out).mono ?_
    rintro e w1 ⟨rfl, hb⟩
    have E1 := Lib.hid (HE.out.below hb)
    go_wp2_with fail
    refine (day_no n _ HN.out).mono ?_
    rintro e w' ⟨rfl, rfl⟩
    go_wp2_with fail
    refine (awake_any _ E1.out).mono ?_
    rintro e w2 ⟨rfl, hb2⟩
    have b2 := Below.next (B := w.heap.size) (w := w) hb hb2 (Nat.le_refl _)
    go_wp2_with fail
    go_ret
    exact ⟨rfl, b2⟩
end Go.Proofs.YtmjcdnlcdkeoaaaDoor.Cal
