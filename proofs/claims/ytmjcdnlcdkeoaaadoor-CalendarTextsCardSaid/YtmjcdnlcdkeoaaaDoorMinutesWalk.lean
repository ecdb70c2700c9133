/- The walk of the law on minutes: it returns true at every date. -/
import Derived.Test.YtmjcdnlcdkeoaaaDoorCalWalk8
set_option linter.unusedVariables false
set_option linter.unusedSimpArgs false
namespace Go.Proofs.YtmjcdnlcdkeoaaaDoor.Cal
open Go.RowKit Go

/-- The date is refused, wherever it is asked. -/
def MinErr (y m d h i k : Int) : Prop := ∀ W : World, Len W → Calls Tryd.prog 12 #[.agg #[.int .i64 y, .int .i64 m, .int .i64 d, .int .i64 h, .int .i64 i, .int .i64 k]] W fun e w' => e = .returned (.tuple #[.int .i64 0, .int .i64 30]) ∧ Below W.heap.size W w'
theorem minErr_of {y m d h i k : Int} (hn : ¬ (Ok y m d h i ∧ mn y m d h i < 2147483648 ∧ (mn y m d h i / 1440 + 6) % 7 = k)) : MinErr y m d h i k := fun W hL => by
  by_cases o : Ok y m d h i
  · by_cases f : mn y m d h i < 2147483648
    · exact minutes_wd y m d h i k W o f (fun hk => hn ⟨o, f, hk⟩) hL
    · exact minutes_far y m d h i k W o f hL
  · exact minutes_bad y m d h i k W o hL

set_option maxHeartbeats 400000 in
theorem minlaw_1 (y m d h i k : Int) (w : World)  (c : y < 2000) (hE : Env w) (hm : MinErr y m d h i k) :
    Calls Tryd.prog 4 #[.agg #[.int .i64 y, .int .i64 m, .int .i64 d, .int .i64 h, .int .i64 i, .int .i64 k]] w fun e w' => e = .returned (.bool true) ∧ Below w.heap.size w w' := by
  have HE := Lib.hid hE
  have HM := Lib.hid hm
  clear hE hm
  go_enter Tryd.func4, Tryd.ntmps4
  go_wp2_with fail
  refine (HM.out _ (HE.out.len.below (by go_grown))).mono ?_
  rintro e w1 ⟨rfl, hb⟩
  have b1 := Below.next (B := w.heap.size) (w := w) (by go_grown) hb (Nat.le_refl _)
  have z1 := hb.size
  simp only [World.size_alloc] at z1
  have z3 : w.heap.size < w1.heap.size := by omega
  obtain ⟨c0, c1, c2, c3, c4, c5⟩ := box6 hb (by simp)
  have E1 := Lib.hid (HE.out.below b1)
  clear hb
  go_wp2_with fail
  go_quiet (fail)
  go_wp2_with fail
  refine (awake_any _ (E1.out.below (Below.drewN (by go_grown) _))).mono ?_
  rintro e w2 ⟨rfl, hb2⟩
  have b2 := Below.next (B := w.heap.size) (w := w) (Below.drewN b1 _) hb2 (Nat.le_refl _)
  go_wp2_with fail
  go_ret
  exact ⟨rfl, b2⟩
set_option maxHeartbeats 400000 in
theorem minlaw_2 (y m d h i k : Int) (w : World) (n1 : ¬ y < 2000) (c : 6083 < y) (hE : Env w) (hm : MinErr y m d h i k) :
    Calls Tryd.prog 4 #[.agg #[.int .i64 y, .int .i64 m, .int .i64 d, .int .i64 h, .int .i64 i, .int .i64 k]] w fun e w' => e = .returned (.bool true) ∧ Below w.heap.size w w' := by
  have HE := Lib.hid hE
  have HM := Lib.hid hm
  clear hE hm
  have x1 := dfalse n1
  go_enter Tryd.func4, Tryd.ntmps4
  go_wp2_with fail
  refine (HM.out _ (HE.out.len.below (by go_grown))).mono ?_
  rintro e w1 ⟨rfl, hb⟩
  have b1 := Below.next (B := w.heap.size) (w := w) (by go_grown) hb (Nat.le_refl _)
  have z1 := hb.size
  simp only [World.size_alloc] at z1
  have z3 : w.heap.size < w1.heap.size := by omega
  obtain ⟨c0, c1, c2, c3, c4, c5⟩ := box6 hb (by simp)
  have E1 := Lib.hid (HE.out.below b1)
  clear hb
  go_wp2_with fail
  go_quiet (fail)
  go_wp2_with fail
  refine (awake_any _ (E1.out.below (Below.drewN (by go_grown) _))).mono ?_
  rintro e w2 ⟨rfl, hb2⟩
  have b2 := Below.next (B := w.heap.size) (w := w) (Below.drewN b1 _) hb2 (Nat.le_refl _)
  go_wp2_with fail
  go_ret
  exact ⟨rfl, b2⟩
set_option maxHeartbeats 400000 in
theorem minlaw_3 (y m d h i k : Int) (w : World) (n1 : ¬ y < 2000) (n2 : ¬ 6083 < y) (c : m < 1) (hE : Env w) (hm : MinErr y m d h i k) :
    Calls Tryd.prog 4 #[.agg #[.int .i64 y, .int .i64 m, .int .i64 d, .int .i64 h, .int .i64 i, .int .i64 k]] w fun e w' => e = .returned (.bool true) ∧ Below w.heap.size w w' := by
  have HE := Lib.hid hE
  have HM := Lib.hid hm
  clear hE hm
  have x1 := dfalse n1
  have x2 := dfalse n2
  go_enter Tryd.func4, Tryd.ntmps4
  go_wp2_with fail
  refine (HM.out _ (HE.out.len.below (by go_grown))).mono ?_
  rintro e w1 ⟨rfl, hb⟩
  have b1 := Below.next (B := w.heap.size) (w := w) (by go_grown) hb (Nat.le_refl _)
  have z1 := hb.size
  simp only [World.size_alloc] at z1
  have z3 : w.heap.size < w1.heap.size := by omega
  obtain ⟨c0, c1, c2, c3, c4, c5⟩ := box6 hb (by simp)
  have E1 := Lib.hid (HE.out.below b1)
  clear hb
  go_wp2_with fail
  go_quiet (fail)
  go_wp2_with fail
  refine (awake_any _ (E1.out.below (Below.drewN (by go_grown) _))).mono ?_
  rintro e w2 ⟨rfl, hb2⟩
  have b2 := Below.next (B := w.heap.size) (w := w) (Below.drewN b1 _) hb2 (Nat.le_refl _)
  go_wp2_with fail
  go_ret
  exact ⟨rfl, b2⟩
set_option maxHeartbeats 400000 in
theorem minlaw_4 (y m d h i k : Int) (w : World) (n1 : ¬ y < 2000) (n2 : ¬ 6083 < y) (n3 : ¬ m < 1) (c : 12 < m) (hE : Env w) (hm : MinErr y m d h i k) :
    Calls Tryd.prog 4 #[.agg #[.int .i64 y, .int .i64 m, .int .i64 d, .int .i64 h, .int .i64 i, .int .i64 k]] w fun e w' => e = .returned (.bool true) ∧ Below w.heap.size w w' := by
  have HE := Lib.hid hE
  have HM := Lib.hid hm
  clear hE hm
  have x1 := dfalse n1
  have x2 := dfalse n2
  have x3 := dfalse n3
  go_enter Tryd.func4, Tryd.ntmps4
  go_wp2_with fail
  refine (HM.out _ (HE.out.len.below (by go_grown))).mono ?_
  rintro e w1 ⟨rfl, hb⟩
  have b1 := Below.next (B := w.heap.size) (w := w) (by go_grown) hb (Nat.le_refl _)
  have z1 := hb.size
  simp only [World.size_alloc] at z1
  have z3 : w.heap.size < w1.heap.size := by omega
  obtain ⟨c0, c1, c2, c3, c4, c5⟩ := box6 hb (by simp)
  have E1 := Lib.hid (HE.out.below b1)
  clear hb
  go_wp2_with fail
  go_quiet (fail)
  go_wp2_with fail
  refine (awake_any _ (E1.out.below (Below.drewN (by go_grown) _))).mono ?_
  rintro e w2 ⟨rfl, hb2⟩
  have b2 := Below.next (B := w.heap.size) (w := w) (Below.drewN b1 _) hb2 (Nat.le_refl _)
  go_wp2_with fail
  go_ret
  exact ⟨rfl, b2⟩
set_option maxHeartbeats 400000 in
theorem minlaw_5 (y m d h i k : Int) (w : World) (n1 : ¬ y < 2000) (n2 : ¬ 6083 < y) (n3 : ¬ m < 1) (n4 : ¬ 12 < m) (c : d < 1) (hE : Env w) (hm : MinErr y m d h i k) :
    Calls Tryd.prog 4 #[.agg #[.int .i64 y, .int .i64 m, .int .i64 d, .int .i64 h, .int .i64 i, .int .i64 k]] w fun e w' => e = .returned (.bool true) ∧ Below w.heap.size w w' := by
  have HE := Lib.hid hE
  have HM := Lib.hid hm
  clear hE hm
  have x1 := dfalse n1
  have x2 := dfalse n2
  have x3 := dfalse n3
  have x4 := dfalse n4
  go_enter Tryd.func4, Tryd.ntmps4
  go_wp2_with fail
  refine (HM.out _ (HE.out.len.below (by go_grown))).mono ?_
  rintro e w1 ⟨rfl, hb⟩
  have b1 := Below.next (B := w.heap.size) (w := w) (by go_grown) hb (Nat.le_refl _)
  have z1 := hb.size
  simp only [World.size_alloc] at z1
  have z3 : w.heap.size < w1.heap.size := by omega
  obtain ⟨c0, c1, c2, c3, c4, c5⟩ := box6 hb (by simp)
  have E1 := Lib.hid (HE.out.below b1)
  clear hb
  go_wp2_with fail
  go_quiet (fail)
  go_wp2_with fail
  refine (awake_any _ (E1.out.below (Below.drewN (by go_grown) _))).mono ?_
  rintro e w2 ⟨rfl, hb2⟩
  have b2 := Below.next (B := w.heap.size) (w := w) (Below.drewN b1 _) hb2 (Nat.le_refl _)
  go_wp2_with fail
  go_ret
  exact ⟨rfl, b2⟩
set_option maxHeartbeats 400000 in
theorem minlaw_6 (y m d h i k : Int) (w : World) (n1 : ¬ y < 2000) (n2 : ¬ 6083 < y) (n3 : ¬ m < 1) (n4 : ¬ 12 < m) (n5 : ¬ d < 1) (c : dim y m < d) (hE : Env w) (hm : MinErr y m d h i k) :
    Calls Tryd.prog 4 #[.agg #[.int .i64 y, .int .i64 m, .int .i64 d, .int .i64 h, .int .i64 i, .int .i64 k]] w fun e w' => e = .returned (.bool true) ∧ Below w.heap.size w w' := by
  have HE := Lib.hid hE
  have HM := Lib.hid hm
  clear hE hm
  have x1 := dfalse n1
  have x2 := dfalse n2
  have x3 := dfalse n3
  have x4 := dfalse n4
  have x5 := dfalse n5
  go_enter Tryd.func4, Tryd.ntmps4
  go_wp2_with fail
  refine (HM.out _ (HE.out.len.below (by go_grown))).mono ?_
  rintro e w1 ⟨rfl, hb⟩
  have b1 := Below.next (B := w.heap.size) (w := w) (by go_grown) hb (Nat.le_refl _)
  have z1 := hb.size
  simp only [World.size_alloc] at z1
  have z3 : w.heap.size < w1.heap.size := by omega
  obtain ⟨c0, c1, c2, c3, c4, c5⟩ := box6 hb (by simp)
  have E1 := Lib.hid (HE.out.below b1)
  clear hb
  go_wp2_with fail
  go_quiet ((go_at_call 15; exact quiet_left (refDays_any _ _ _ (by omega) (by omega))))
  go_wp2_with fail
  refine (awake_any _ (E1.out.below (Below.drewN (by go_grown) _))).mono ?_
  rintro e w2 ⟨rfl, hb2⟩
  have b2 := Below.next (B := w.heap.size) (w := w) (Below.drewN b1 _) hb2 (Nat.le_refl _)
  go_wp2_with fail
  go_ret
  exact ⟨rfl, b2⟩
set_option maxHeartbeats 400000 in
theorem minlaw_7 (y m d h i k : Int) (w : World) (n1 : ¬ y < 2000) (n2 : ¬ 6083 < y) (n3 : ¬ m < 1) (n4 : ¬ 12 < m) (n5 : ¬ d < 1) (n6 : ¬ dim y m < d) (c : h < 0) (hE : Env w) (hm : MinErr y m d h i k) :
    Calls Tryd.prog 4 #[.agg #[.int .i64 y, .int .i64 m, .int .i64 d, .int .i64 h, .int .i64 i, .int .i64 k]] w fun e w' => e = .returned (.bool true) ∧ Below w.heap.size w w' := by
  have HE := Lib.hid hE
  have HM := Lib.hid hm
  clear hE hm
  have x1 := dfalse n1
  have x2 := dfalse n2
  have x3 := dfalse n3
  have x4 := dfalse n4
  have x5 := dfalse n5
  have x6 := dfalse n6
  go_enter Tryd.func4, Tryd.ntmps4
  go_wp2_with fail
  refine (HM.out _ (HE.out.len.below (by go_grown))).mono ?_
  rintro e w1 ⟨rfl, hb⟩
  have b1 := Below.next (B := w.heap.size) (w := w) (by go_grown) hb (Nat.le_refl _)
  have z1 := hb.size
  simp only [World.size_alloc] at z1
  have z3 : w.heap.size < w1.heap.size := by omega
  obtain ⟨c0, c1, c2, c3, c4, c5⟩ := box6 hb (by simp)
  have E1 := Lib.hid (HE.out.below b1)
  clear hb
  go_wp2_with fail
  go_quiet ((go_at_call 15; exact quiet_left (refDays_any _ _ _ (by omega) (by omega))))
  go_wp2_with fail
  refine (awake_any _ (E1.out.below (Below.drewN (by go_grown) _))).mono ?_
  rintro e w2 ⟨rfl, hb2⟩
  have b2 := Below.next (B := w.heap.size) (w := w) (Below.drewN b1 _) hb2 (Nat.le_refl _)
  go_wp2_with fail
  go_ret
  exact ⟨rfl, b2⟩
set_option maxHeartbeats 400000 in
theorem minlaw_8 (y m d h i k : Int) (w : World) (n1 : ¬ y < 2000) (n2 : ¬ 6083 < y) (n3 : ¬ m < 1) (n4 : ¬ 12 < m) (n5 : ¬ d < 1) (n6 : ¬ dim y m < d) (n7 : ¬ h < 0) (c : 23 < h) (hE : Env w) (hm : MinErr y m d h i k) :
    Calls Tryd.prog 4 #[.agg #[.int .i64 y, .int .i64 m, .int .i64 d, .int .i64 h, .int .i64 i, .int .i64 k]] w fun e w' => e = .returned (.bool true) ∧ Below w.heap.size w w' := by
  have HE := Lib.hid hE
  have HM := Lib.hid hm
  clear hE hm
  have x1 := dfalse n1
  have x2 := dfalse n2
  have x3 := dfalse n3
  have x4 := dfalse n4
  have x5 := dfalse n5
  have x6 := dfalse n6
  have x7 := dfalse n7
  go_enter Tryd.func4, Tryd.ntmps4
  go_wp2_with fail
  refine (HM.out _ (HE.out.len.below (by go_grown))).mono ?_
  rintro e w1 ⟨rfl, hb⟩
  have b1 := Below.next (B := w.heap.size) (w := w) (by go_grown) hb (Nat.le_refl _)
  have z1 := hb.size
  simp only [World.size_alloc] at z1
  have z3 : w.heap.size < w1.heap.size := by omega
  obtain ⟨c0, c1, c2, c3, c4, c5⟩ := box6 hb (by simp)
  have E1 := Lib.hid (HE.out.below b1)
  clear hb
  go_wp2_with fail
  go_quiet ((go_at_call 15; exact quiet_left (refDays_any _ _ _ (by omega) (by omega))))
  go_wp2_with fail
  refine (awake_any _ (E1.out.below (Below.drewN (by go_grown) _))).mono ?_
  rintro e w2 ⟨rfl, hb2⟩
  have b2 := Below.next (B := w.heap.size) (w := w) (Below.drewN b1 _) hb2 (Nat.le_refl _)
  go_wp2_with fail
  go_ret
  exact ⟨rfl, b2⟩
set_option maxHeartbeats 400000 in
theorem minlaw_9 (y m d h i k : Int) (w : World) (n1 : ¬ y < 2000) (n2 : ¬ 6083 < y) (n3 : ¬ m < 1) (n4 : ¬ 12 < m) (n5 : ¬ d < 1) (n6 : ¬ dim y m < d) (n7 : ¬ h < 0) (n8 : ¬ 23 < h) (c : i < 0) (hE : Env w) (hm : MinErr y m d h i k) :
    Calls Tryd.prog 4 #[.agg #[.int .i64 y, .int .i64 m, .int .i64 d, .int .i64 h, .int .i64 i, .int .i64 k]] w fun e w' => e = .returned (.bool true) ∧ Below w.heap.size w w' := by
  have HE := Lib.hid hE
  have HM := Lib.hid hm
  clear hE hm
  have x1 := dfalse n1
  have x2 := dfalse n2
  have x3 := dfalse n3
  have x4 := dfalse n4
  have x5 := dfalse n5
  have x6 := dfalse n6
  have x7 := dfalse n7
  have x8 := dfalse n8
  go_enter Tryd.func4, Tryd.ntmps4
  go_wp2_with fail
  refine (HM.out _ (HE.out.len.below (by go_grown))).mono ?_
  rintro e w1 ⟨rfl, hb⟩
  have b1 := Below.next (B := w.heap.size) (w := w) (by go_grown) hb (Nat.le_refl _)
  have z1 := hb.size
  simp only [World.size_alloc] at z1
  have z3 : w.heap.size < w1.heap.size := by omega
  obtain ⟨c0, c1, c2, c3, c4, c5⟩ := box6 hb (by simp)
  have E1 := Lib.hid (HE.out.below b1)
  clear hb
  go_wp2_with fail
  go_quiet ((go_at_call 15; exact quiet_left (refDays_any _ _ _ (by omega) (by omega))))
  go_wp2_with fail
  refine (awake_any _ (E1.out.below (Below.drewN (by go_grown) _))).mono ?_
  rintro e w2 ⟨rfl, hb2⟩
  have b2 := Below.next (B := w.heap.size) (w := w) (Below.drewN b1 _) hb2 (Nat.le_refl _)
  go_wp2_with fail
  go_ret
  exact ⟨rfl, b2⟩
set_option maxHeartbeats 400000 in
theorem minlaw_10 (y m d h i k : Int) (w : World) (n1 : ¬ y < 2000) (n2 : ¬ 6083 < y) (n3 : ¬ m < 1) (n4 : ¬ 12 < m) (n5 : ¬ d < 1) (n6 : ¬ dim y m < d) (n7 : ¬ h < 0) (n8 : ¬ 23 < h) (n9 : ¬ i < 0) (c : 59 < i) (hE : Env w) (hm : MinErr y m d h i k) :
    Calls Tryd.prog 4 #[.agg #[.int .i64 y, .int .i64 m, .int .i64 d, .int .i64 h, .int .i64 i, .int .i64 k]] w fun e w' => e = .returned (.bool true) ∧ Below w.heap.size w w' := by
  have HE := Lib.hid hE
  have HM := Lib.hid hm
  clear hE hm
  have x1 := dfalse n1
  have x2 := dfalse n2
  have x3 := dfalse n3
  have x4 := dfalse n4
  have x5 := dfalse n5
  have x6 := dfalse n6
  have x7 := dfalse n7
  have x8 := dfalse n8
  have x9 := dfalse n9
  go_enter Tryd.func4, Tryd.ntmps4
  go_wp2_with fail
  refine (HM.out _ (HE.out.len.below (by go_grown))).mono ?_
  rintro e w1 ⟨rfl, hb⟩
  have b1 := Below.next (B := w.heap.size) (w := w) (by go_grown) hb (Nat.le_refl _)
  have z1 := hb.size
  simp only [World.size_alloc] at z1
  have z3 : w.heap.size < w1.heap.size := by omega
  obtain ⟨c0, c1, c2, c3, c4, c5⟩ := box6 hb (by simp)
  have E1 := Lib.hid (HE.out.below b1)
  clear hb
  go_wp2_with fail
  go_quiet ((go_at_call 15; exact quiet_left (refDays_any _ _ _ (by omega) (by omega))))
  go_wp2_with fail
  refine (awake_any _ (E1.out.below (Below.drewN (by go_grown) _))).mono ?_
  rintro e w2 ⟨rfl, hb2⟩
  have b2 := Below.next (B := w.heap.size) (w := w) (Below.drewN b1 _) hb2 (Nat.le_refl _)
  go_wp2_with fail
  go_ret
  exact ⟨rfl, b2⟩
end Go.Proofs.YtmjcdnlcdkeoaaaDoor.Cal
