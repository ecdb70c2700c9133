/- The walk of the law on minutes, last: right dates; all together. -/
import Derived.Test.YtmjcdnlcdkeoaaaDoorMinutesWalk2
set_option linter.unusedVariables false
set_option linter.unusedSimpArgs false
namespace Go.Proofs.YtmjcdnlcdkeoaaaDoor.Cal
open Go.RowKit Go

theorem keep6 {w W w1 : World} {B : Nat} {y m d h i k : Int} (hs : W.cell? ⟨B, 0, none⟩ = some (.int .i64 y) ∧ W.cell? ⟨B, 1, none⟩ = some (.int .i64 m) ∧ W.cell? ⟨B, 2, none⟩ = some (.int .i64 d) ∧ W.cell? ⟨B, 3, none⟩ = some (.int .i64 h) ∧ W.cell? ⟨B, 4, none⟩ = some (.int .i64 i) ∧ W.cell? ⟨B, 5, none⟩ = some (.int .i64 k) ∧ KeptB w B W) (hb : Below W.heap.size W w1) :
    w1.cell? ⟨B, 0, none⟩ = some (.int .i64 y) ∧ w1.cell? ⟨B, 1, none⟩ = some (.int .i64 m) ∧ w1.cell? ⟨B, 2, none⟩ = some (.int .i64 d) ∧ w1.cell? ⟨B, 3, none⟩ = some (.int .i64 h) ∧ w1.cell? ⟨B, 4, none⟩ = some (.int .i64 i) ∧ w1.cell? ⟨B, 5, none⟩ = some (.int .i64 k) ∧ KeptB w B w1 := by
  obtain ⟨h0, h1, h2, h3, h4, h5, hk⟩ := hs
  have hlt := hk.2.2
  refine ⟨?_, ?_, ?_, ?_, ?_, ?_, hk.next hb⟩ <;> (rw [hb.cell (by exact hlt)]; assumption)
theorem env6 {w W : World} {B : Nat} {A1 A2 A3 A4 A5 A6 : Prop} (hs : A1 ∧ A2 ∧ A3 ∧ A4 ∧ A5 ∧ A6 ∧ KeptB w B W) : Env W := hs.2.2.2.2.2.2.1
theorem kept6 {w W : World} {B : Nat} {A1 A2 A3 A4 A5 A6 : Prop} (hs : A1 ∧ A2 ∧ A3 ∧ A4 ∧ A5 ∧ A6 ∧ KeptB w B W) : Below w.heap.size w W := hs.2.2.2.2.2.2.2.1

set_option maxRecDepth 100000 in
set_option maxHeartbeats 800000 in
theorem minlaw_right (n y m d h i k : Int) (w : World) (h0 : 0 ≤ n) (h1 : n < 2147483648) (hd : IsDay (n / 1440) y m d) (hh : n % 1440 / 60 = h) (hi : n % 60 = i) (hk : (n / 1440 + 6) % 7 = k) (hE : Env w) :
    Calls Tryd.prog 4 #[.agg #[.int .i64 y, .int .i64 m, .int .i64 d, .int .i64 h, .int .i64 i, .int .i64 k]] w fun e w' => e = .returned (.bool true) ∧ Below w.heap.size w w' := by
  have HE := Lib.hid hE
  have HD := Lib.hid hd
  have HH := Lib.hid hh
  have HI := Lib.hid hi
  have HK := Lib.hid hk
  clear hE hd hh hi hk
  have heq := arr_same y m d h i k
  go_enter Tryd.func4, Tryd.ntmps4
  go_wp2_with fail
  refine (minutes_is n y m d h i k _ (HE.out.len.below (by go_grown)) h0 h1 HD.out HH.out HI.out HK.out).mono ?_
  rintro e w1 ⟨rfl, hb⟩
  have b1 := Below.next (B := w.heap.size) (w := w) (by go_grown) hb (Nat.le_refl _)
  have z1 := hb.size
  simp only [World.size_alloc] at z1
  have z3 : w.heap.size < w1.heap.size := by omega
  obtain ⟨c0, c1, c2, c3, c4, c5⟩ := box6 hb (by simp)
  have HS : Hid (w1.drew.cell? ⟨w.heap.size, 0, none⟩ = some (.int .i64 y) ∧ w1.drew.cell? ⟨w.heap.size, 1, none⟩ = some (.int .i64 m) ∧ w1.drew.cell? ⟨w.heap.size, 2, none⟩ = some (.int .i64 d) ∧ w1.drew.cell? ⟨w.heap.size, 3, none⟩ = some (.int .i64 h) ∧ w1.drew.cell? ⟨w.heap.size, 4, none⟩ = some (.int .i64 i) ∧ w1.drew.cell? ⟨w.heap.size, 5, none⟩ = some (.int .i64 k) ∧ KeptB w w.heap.size w1.drew) := ⟨c0, c1, c2, c3, c4, c5, HE.out.below b1.drew, b1.drew, z3⟩
  clear hb
  go_wp2_with fail
  go_region_held3 (fun w' => w'.cell? ⟨w.heap.size, 0, none⟩ = some (.int .i64 y) ∧ w'.cell? ⟨w.heap.size, 1, none⟩ = some (.int .i64 m) ∧ w'.cell? ⟨w.heap.size, 2, none⟩ = some (.int .i64 d) ∧ w'.cell? ⟨w.heap.size, 3, none⟩ = some (.int .i64 h) ∧ w'.cell? ⟨w.heap.size, 4, none⟩ = some (.int .i64 i) ∧ w'.cell? ⟨w.heap.size, 5, none⟩ = some (.int .i64 k) ∧ KeptB w w.heap.size w') (first | exact HS.out | exact keep6 (by assumption) hb | assumption | go_keep)
    (first | (go_at_call 14; refine (refOf_is n y m d h i k _ h0 h1 HD.out HH.out HI.out HK.out).mono ?_; rintro e w' ⟨rfl, hb⟩) | (go_at_call 13; refine (ref_any y m d h i k _).mono ?_; rintro e w' ⟨rfl, hb⟩) | (go_at_call 11; refine (awake_any _ (env6 (w := w) (B := w.heap.size) (by assumption))).mono ?_; rintro e w' ⟨rfl, hb⟩))
  go_wp2_with fail
  go_ret
  have hx : w'.cell? ⟨w.heap.size, 0, none⟩ = some (.int .i64 y) ∧ w'.cell? ⟨w.heap.size, 1, none⟩ = some (.int .i64 m) ∧ w'.cell? ⟨w.heap.size, 2, none⟩ = some (.int .i64 d) ∧ w'.cell? ⟨w.heap.size, 3, none⟩ = some (.int .i64 h) ∧ w'.cell? ⟨w.heap.size, 4, none⟩ = some (.int .i64 i) ∧ w'.cell? ⟨w.heap.size, 5, none⟩ = some (.int .i64 k) ∧ KeptB w w.heap.size w' := by assumption
  exact ⟨rfl, kept6 hx⟩

theorem minutes_law (y m d h i k : Int) (w : World) (hE : Env w) :
    Calls Tryd.prog 4 #[.agg #[.int .i64 y, .int .i64 m, .int .i64 d, .int .i64 h, .int .i64 i, .int .i64 k]] w fun e w' => e = .returned (.bool true) ∧ Below w.heap.size w w' := by
  by_cases g : Ok y m d h i ∧ mn y m d h i < 2147483648 ∧ (mn y m d h i / 1440 + 6) % 7 = k
  · obtain ⟨o, f, hk⟩ := g
    exact minlaw_right (mn y m d h i) y m d h i k w o.lo f o.day o.hour o.min hk hE
  have hm := minErr_of g
  by_cases n1 : y < 2000
  · exact minlaw_1 y m d h i k w n1 hE hm
  by_cases n2 : 6083 < y
  · exact minlaw_2 y m d h i k w n1 n2 hE hm
  by_cases n3 : m < 1
  · exact minlaw_3 y m d h i k w n1 n2 n3 hE hm
  by_cases n4 : 12 < m
  · exact minlaw_4 y m d h i k w n1 n2 n3 n4 hE hm
  by_cases n5 : d < 1
  · exact minlaw_5 y m d h i k w n1 n2 n3 n4 n5 hE hm
  by_cases n6 : dim y m < d
  · exact minlaw_6 y m d h i k w n1 n2 n3 n4 n5 n6 hE hm
  by_cases n7 : h < 0
  · exact minlaw_7 y m d h i k w n1 n2 n3 n4 n5 n6 n7 hE hm
  by_cases n8 : 23 < h
  · exact minlaw_8 y m d h i k w n1 n2 n3 n4 n5 n6 n7 n8 hE hm
  by_cases n9 : i < 0
  · exact minlaw_9 y m d h i k w n1 n2 n3 n4 n5 n6 n7 n8 n9 hE hm
  by_cases n10 : 59 < i
  · exact minlaw_10 y m d h i k w n1 n2 n3 n4 n5 n6 n7 n8 n9 n10 hE hm
  have o : Ok y m d h i := ⟨n1, by omega, n3, n4, n5, n6, n7, by omega, n9, by omega⟩
  by_cases f : mn y m d h i < 2147483648
  · exact minlaw_wd y m d h i k w n1 n2 n3 n4 n5 n6 n7 n8 n9 n10 f (fun hk => g ⟨o, f, hk⟩) hE hm
  · exact minlaw_far y m d h i k w n1 n2 n3 n4 n5 n6 n7 n8 n9 n10 (by omega) hE hm
end Go.Proofs.YtmjcdnlcdkeoaaaDoor.Cal
