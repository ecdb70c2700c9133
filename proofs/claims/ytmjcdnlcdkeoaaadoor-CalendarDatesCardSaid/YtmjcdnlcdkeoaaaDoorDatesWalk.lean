/- The walk of the law on dates: it returns true at every number. -/
import Derived.Test.YtmjcdnlcdkeoaaaDoorCalWalk8
set_option linter.unusedVariables false
set_option linter.unusedSimpArgs false
namespace Go.Proofs.YtmjcdnlcdkeoaaaDoor.Cal
open Go.RowKit Go

set_option maxHeartbeats 800000 in
theorem dates_law (n : Int) (w : World) (hE : Env w) :
    Calls Tryd.prog 3 #[.int .i64 n] w fun e w' => e = .returned (.bool true) ∧ Below w.heap.size w w' := by
  have HE := Lib.hid hE
  clear hE
  by_cases hn : 0 ≤ n ∧ n < 2147483648
  · obtain ⟨h0, h1⟩ := hn
    obtain ⟨y, m, d, hd⟩ := day_exists (n / 1440) (by omega)
    obtain ⟨h, hh⟩ : ∃ h, n % 1440 / 60 = h := ⟨_, rfl⟩
    obtain ⟨i, hi⟩ : ∃ i, n % 60 = i := ⟨_, rfl⟩
    obtain ⟨k, hk⟩ : ∃ k, (n / 1440 + 6) % 7 = k := ⟨_, rfl⟩
    have HD := Lib.hid hd
    have HH := Lib.hid hh
    have HI := Lib.hid hi
    have HK := Lib.hid hk
    clear hd hh hi hk
    have heq := arr_same y m d h i k
    go_enter Tryd.func3, Tryd.ntmps3
    go_wp2_with fail
    refine (of_is n y m d h i k _ h0 h1 HE.out.len HD.out HH.out HI.out HK.out).mono ?_
    rintro e w1 ⟨rfl, hb1⟩
    have z1 := hb1.size
    have E1 := Lib.hid (HE.out.below hb1)
    go_wp2_with fail
    refine (minutes_is n y m d h i k _ (E1.out.len.below (by go_grown)) h0 h1 HD.out HH.out HI.out HK.out).mono ?_
    rintro e w2 ⟨rfl, hb2⟩
    have b2 := Below.next (B := w.heap.size) (w := w) (Below.alloc hb1 z1 _) hb2 (Nat.le_refl _)
    obtain ⟨c0, c1, c2, c3, c4, c5⟩ := box6 hb2 (by simp)
    have z2 := hb2.size
    simp only [World.size_alloc] at z2
    have z3 : w1.heap.size < w2.heap.size := by omega
    have E2 := Lib.hid (HE.out.below b2)
    clear hb2
    go_wp2_with fail
    refine (ref_any y m d h i k _).mono ?_
    rintro e w3 ⟨rfl, hb3⟩
    go_wp2_with fail
    refine (refOf_is n y m d h i k _ h0 h1 HD.out HH.out HI.out HK.out).mono ?_
    rintro e w4 ⟨rfl, hb4⟩
    have b3 := Below.next (B := w.heap.size) (w := w) b2 hb3 (Nat.le_refl _)
    have b4 := Below.next (B := w.heap.size) (w := w) b3 hb4 (Nat.le_refl _)
    have E4 := Lib.hid (HE.out.below b4)
    go_wp2_with fail
    refine (awake_any _ E4.out).mono ?_
    rintro e w5 ⟨rfl, hb5⟩
    have b5 := Below.next (B := w.heap.size) (w := w) b4 hb5 (Nat.le_refl _)
    go_wp2_with fail
    go_ret
    exact ⟨rfl, b5⟩
  · have HN := Lib.hid hn
    by_cases h0 : n < 0
    · clear hn
      go_enter Tryd.func3, Tryd.ntmps3
      go_wp2_with fail
      refine (of_no n _ HN.out).mono ?_
      rintro e w1 ⟨rfl, hb⟩
      have z1 := hb.size
      have E1 := Lib.hid (HE.out.below hb)
      go_wp2_with fail
      refine (awake_any _ (E1.out.below (by go_grown))).mono ?_
      rintro e w2 ⟨rfl, hb2⟩
      have b2 := Below.next (B := w.heap.size) (w := w) (Below.alloc hb z1 _) hb2 (Nat.le_refl _)
      go_wp2_with fail
      go_ret
      exact ⟨rfl, b2⟩
    · have h1 : 2147483648 ≤ n := by omega
      clear hn
      go_enter Tryd.func3, Tryd.ntmps3
      go_wp2_with fail
      refine (of_no n _ HN.out).mono ?_
      rintro e w1 ⟨rfl, hb⟩
      have z1 := hb.size
      have E1 := Lib.hid (HE.out.below hb)
      go_wp2_with fail
      refine (awake_any _ (E1.out.below (by go_grown))).mono ?_
      rintro e w2 ⟨rfl, hb2⟩
      have b2 := Below.next (B := w.heap.size) (w := w) (Below.alloc hb z1 _) hb2 (Nat.le_refl _)
      go_wp2_with fail
      go_ret
      exact ⟨rfl, b2⟩
end Go.Proofs.YtmjcdnlcdkeoaaaDoor.Cal
