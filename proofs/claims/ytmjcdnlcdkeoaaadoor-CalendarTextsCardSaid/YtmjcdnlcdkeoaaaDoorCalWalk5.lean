/- Walks: the minute of a date whose numbers are right. -/
import Derived.Test.YtmjcdnlcdkeoaaaDoorCalWalk4
set_option linter.unusedVariables false
set_option linter.unusedSimpArgs false
namespace Go.Proofs.YtmjcdnlcdkeoaaaDoor.Cal
open Go.RowKit Go

theorem md_eq (y m : Int) (h1 : 1 ≤ m) (h2 : m ≤ 12) : md ((y - 2000) * 12 + m - 1) = ys (y - 2000) + cum y m := by
  unfold md
  rw [show ((y - 2000) * 12 + m - 1) / 12 = y - 2000 from by omega, show ((y - 2000) * 12 + m - 1) % 12 + 1 = m from by omega, show 2000 + (y - 2000) = y from by omega]

/-- The minute that the numbers tell. -/
def mn (y m d h i : Int) : Int := (ys (y - 2000) + cum y m + d - 1) * 1440 + h * 60 + i

theorem Ok.day {y m d h i : Int} (o : Ok y m d h i) : IsDay (mn y m d h i / 1440) y m d := by
  obtain ⟨n1, n2, n3, n4, n5, n6, p1, p2, p3, p4⟩ := o
  exact ⟨by omega, by omega, by omega, by omega, by omega, by unfold mn; omega⟩
theorem Ok.hour {y m d h i : Int} (o : Ok y m d h i) : mn y m d h i % 1440 / 60 = h := by
  obtain ⟨n1, n2, n3, n4, n5, n6, p1, p2, p3, p4⟩ := o
  unfold mn; omega
theorem Ok.min {y m d h i : Int} (o : Ok y m d h i) : mn y m d h i % 60 = i := by
  obtain ⟨n1, n2, n3, n4, n5, n6, p1, p2, p3, p4⟩ := o
  unfold mn; omega
theorem Ok.lo {y m d h i : Int} (o : Ok y m d h i) : 0 ≤ mn y m d h i := by
  obtain ⟨n1, n2, n3, n4, n5, n6, p1, p2, p3, p4⟩ := o
  have := ys_lo (y - 2000) (by omega)
  have := cum_bd y m (by omega) (by omega)
  unfold mn; omega

theorem monthDay_is (mm q : Int) (w : World) (h0 : 0 ≤ mm) (h1 : mm ≤ 1000000) (hL : Len w) (hq : md mm = q) :
    Calls Tryd.prog 27 #[.int .i64 mm] w fun e w' => e = .returned (.int .i64 q) ∧ w = w' := by
  subst hq; exact monthDay_any mm w h0 h1 hL
theorem of_is (n y m d h i k : Int) (w : World) (h0 : 0 ≤ n) (h1 : n < 2147483648) (hL : Len w) (hd : IsDay (n / 1440) y m d) (hh : n % 1440 / 60 = h) (hi : n % 60 = i) (hk : (n / 1440 + 6) % 7 = k) :
    Calls Tryd.prog 10 #[.int .i64 n] w fun e w' => e = .returned (.tuple #[.agg #[.int .i64 y, .int .i64 m, .int .i64 d, .int .i64 h, .int .i64 i, .int .i64 k], .int .i64 0]) ∧ Below w.heap.size w w' := by
  obtain ⟨e1, e2, e3⟩ := ymd_of hd (by omega)
  have := of_yes n w h0 h1 hL
  rw [e1, e2, e3, hh, hi, hk] at this
  exact this

theorem quiet_add_left {P : Program} {f : FuncId} {args : Array Value} {w : World} {a n : Nat} {v : Value}
    (h : Calls P f args (w.drewN (a + n)) fun e w' => e = .returned v ∧ w.drewN (a + n) = w') :
    Calls P f args (w.drewN (a + n)) fun e w'' => e = .returned v ∧ ∃ m, w'' = w.drewN (a + m) :=
  h.mono fun _ _ ⟨he, hm⟩ => ⟨he, n, hm.symm⟩
theorem quiet_left {P : Program} {f : FuncId} {args : Array Value} {w : World} {n : Nat} {v : Value}
    (h : Calls P f args (w.drewN n) fun e w' => e = .returned v ∧ w.drewN n = w') : Calls P f args (w.drewN n) fun e w'' => e = .returned v ∧ ∃ m, w'' = w.drewN m :=
  h.mono fun _ _ ⟨he, hm⟩ => ⟨he, n, hm.symm⟩
theorem bcell {W w1 : World} (hb : Below W.heap.size W w1) : (∀ b o, b < W.heap.size → w1.cell? ⟨b, o, none⟩ = W.cell? ⟨b, o, none⟩) ∧ (∀ b o, b < W.heap.size → w1.frozen? ⟨b, o, none⟩ = W.frozen? ⟨b, o, none⟩) :=
  ⟨fun b o h => hb.cell (p := ⟨b, o, none⟩) h, fun b o h => hb.frozen (p := ⟨b, o, none⟩) h⟩

theorem box {w w1 : World} {cs : Array Value} {t : TypeId} {n B : Nat} (hb : Below B ((w.alloc (.cells cs t)).drewN n) w1) (hB : w.heap.size < B) (j : Nat) : w1.cell? ⟨w.heap.size, j, none⟩ = cs[j]? :=
  (hb.cell (by exact hB)).trans (World.cell?_alloc_at cs t _ j rfl)
theorem Below.next {B : Nat} {w w0 w1 : World} (h0 : Below B w w0) (hb : Below w0.heap.size w0 w1) (hB : B ≤ w.heap.size) : Below B w w1 :=
  h0.trans (hb.mono (Nat.le_trans hB h0.size))

set_option maxHeartbeats 800000 in
theorem minutes_far (y m d h i k : Int) (w : World) (o : Ok y m d h i) (hf : ¬ mn y m d h i < 2147483648) (hL : Len w) :
    Calls Tryd.prog 12 #[.agg #[.int .i64 y, .int .i64 m, .int .i64 d, .int .i64 h, .int .i64 i, .int .i64 k]] w fun e w' => e = .returned (.tuple #[.int .i64 0, .int .i64 30]) ∧ Below w.heap.size w w' := by
  have HL := Lib.hid hL
  clear hL
  have HO := Lib.hid o
  obtain ⟨n1, n2, n3, n4, n5, n6, p1, p2, p3, p4⟩ := o
  have d1 := dfalse n1
  have d2 := dfalse n2
  have d3 := dfalse n3
  have d4 := dfalse n4
  have d5 := dfalse n5
  have d6 := dfalse n6
  have e1 := dfalse p1
  have e2 := dfalse p2
  have e3 := dfalse p3
  have e4 := dfalse p4
  obtain ⟨q, hq⟩ : ∃ q, md ((y - 2000) * 12 + m - 1) = q := ⟨_, rfl⟩
  have hq2 := md_eq y m (by omega) (by omega)
  have hyb := ys_bd (y - 2000) (by omega)
  have hcb := cum_bd y m (by omega) (by omega)
  have q0 : 0 ≤ q := by omega
  have q1 : q ≤ 2000000 := by omega
  have db := dim_bd y m
  have hd31 : d ≤ 31 := by omega
  have hmn : ¬ (0 ≤ (q + d - 1) * 1440 + h * 60 + i ∧ (q + d - 1) * 1440 + h * 60 + i < 2147483648) := by unfold mn at hf; omega
  have HM := Lib.hid hmn
  clear hmn
  have HQ := Lib.hid hq
  clear hq hq2 hyb hcb db hf
  go_enter Tryd.func12, Tryd.ntmps12
  go_wp2_with fail
  go_quiet ((go_at_call 17; exact quiet_left (days_any _ _ _ (HL.out.below (Below.drewN (by go_grown) _)))))
  go_wp2_with fail
  go_quiet ((go_at_call 27; exact quiet_add_left (monthDay_is _ _ _ (by omega) (by omega) (HL.out.below (Below.drewN (by go_grown) _)) HQ.out)))
  go_wp2_with fail
  refine (of_no _ _ HM.out).mono ?_
  rintro e w1 ⟨rfl, hb⟩
  have b1 := Below.next (B := w.heap.size) (w := w) (Below.drewN (by go_grown) _) hb (Nat.le_refl _)
  have z1 := b1.size
  have z2 := hb.size
  simp only [World.size_alloc, World.heap_drewN] at z2
  have z3 : w.heap.size < w1.heap.size := by omega
  have c0 : w1.cell? ⟨w.heap.size, 0, none⟩ = some (.int .i64 y) := box hb (by simp) 0
  have c1 : w1.cell? ⟨w.heap.size, 1, none⟩ = some (.int .i64 m) := box hb (by simp) 1
  have c2 : w1.cell? ⟨w.heap.size, 2, none⟩ = some (.int .i64 d) := box hb (by simp) 2
  have c3 : w1.cell? ⟨w.heap.size, 3, none⟩ = some (.int .i64 h) := box hb (by simp) 3
  have c4 : w1.cell? ⟨w.heap.size, 4, none⟩ = some (.int .i64 i) := box hb (by simp) 4
  have c5 : w1.cell? ⟨w.heap.size, 5, none⟩ = some (.int .i64 k) := box hb (by simp) 5
  go_wp2_with fail
  go_returns
  exact ⟨rfl, by go_grown⟩
set_option maxHeartbeats 800000 in
theorem minutes_wd (y m d h i k : Int) (w : World) (o : Ok y m d h i) (hf : mn y m d h i < 2147483648) (hk : ¬ (mn y m d h i / 1440 + 6) % 7 = k) (hL : Len w) :
    Calls Tryd.prog 12 #[.agg #[.int .i64 y, .int .i64 m, .int .i64 d, .int .i64 h, .int .i64 i, .int .i64 k]] w fun e w' => e = .returned (.tuple #[.int .i64 0, .int .i64 30]) ∧ Below w.heap.size w w' := by
  have HL := Lib.hid hL
  clear hL
  have HO := Lib.hid o
  obtain ⟨n1, n2, n3, n4, n5, n6, p1, p2, p3, p4⟩ := o
  have d1 := dfalse n1
  have d2 := dfalse n2
  have d3 := dfalse n3
  have d4 := dfalse n4
  have d5 := dfalse n5
  have d6 := dfalse n6
  have e1 := dfalse p1
  have e2 := dfalse p2
  have e3 := dfalse p3
  have e4 := dfalse p4
  obtain ⟨q, hq⟩ : ∃ q, md ((y - 2000) * 12 + m - 1) = q := ⟨_, rfl⟩
  have hq2 := md_eq y m (by omega) (by omega)
  have hyb := ys_bd (y - 2000) (by omega)
  have hcb := cum_bd y m (by omega) (by omega)
  have q0 : 0 ≤ q := by omega
  have q1 : q ≤ 2000000 := by omega
  have db := dim_bd y m
  have hd31 : d ≤ 31 := by omega
  have hmn : mn y m d h i = (q + d - 1) * 1440 + h * 60 + i := by unfold mn; omega
  have hlo := HO.out.lo
  have hday := HO.out.day
  have hhour := HO.out.hour
  have hmin := HO.out.min
  rw [hmn] at hf hlo hday hhour hmin
  have HH := Lib.hid hhour
  have HI := Lib.hid hmin
  have HD := Lib.hid hday
  have f0 : (q + d - 1) * 1440 + h * 60 + i < 2147483648 := hf
  clear hhour hmin hday
  rw [hmn] at hk
  obtain ⟨k2, hk2⟩ : ∃ k2, (((q + d - 1) * 1440 + h * 60 + i) / 1440 + 6) % 7 = k2 := ⟨_, rfl⟩
  rw [hk2] at hk
  have hkb : (k2 == k) = false := by simpa using hk
  have HW := Lib.hid hk2
  clear hk hk2 hmn
  have HQ := Lib.hid hq
  clear hq hq2 hyb hcb db hf
  go_enter Tryd.func12, Tryd.ntmps12
  go_wp2_with fail
  go_quiet ((go_at_call 17; exact quiet_left (days_any _ _ _ (HL.out.below (Below.drewN (by go_grown) _)))))
  go_wp2_with fail
  go_quiet ((go_at_call 27; exact quiet_add_left (monthDay_is _ _ _ (by omega) (by omega) (HL.out.below (Below.drewN (by go_grown) _)) HQ.out)))
  go_wp2_with fail
  refine (of_is _ _ _ _ _ _ _ _ (by omega) (by omega) (HL.out.below (Below.drewN (by go_grown) _)) HD.out HH.out HI.out HW.out).mono ?_
  rintro e w1 ⟨rfl, hb⟩
  have b1 := Below.next (B := w.heap.size) (w := w) (Below.drewN (by go_grown) _) hb (Nat.le_refl _)
  have z1 := b1.size
  have z2 := hb.size
  simp only [World.size_alloc, World.heap_drewN] at z2
  have z3 : w.heap.size < w1.heap.size := by omega
  have c0 : w1.cell? ⟨w.heap.size, 0, none⟩ = some (.int .i64 y) := box hb (by simp) 0
  have c1 : w1.cell? ⟨w.heap.size, 1, none⟩ = some (.int .i64 m) := box hb (by simp) 1
  have c2 : w1.cell? ⟨w.heap.size, 2, none⟩ = some (.int .i64 d) := box hb (by simp) 2
  have c3 : w1.cell? ⟨w.heap.size, 3, none⟩ = some (.int .i64 h) := box hb (by simp) 3
  have c4 : w1.cell? ⟨w.heap.size, 4, none⟩ = some (.int .i64 i) := box hb (by simp) 4
  have c5 : w1.cell? ⟨w.heap.size, 5, none⟩ = some (.int .i64 k) := box hb (by simp) 5
  go_wp2_with fail
  go_returns
  exact ⟨rfl, by go_grown⟩
set_option maxHeartbeats 800000 in
theorem minutes_ok (y m d h i k : Int) (w : World) (o : Ok y m d h i) (hf : mn y m d h i < 2147483648) (hk : (mn y m d h i / 1440 + 6) % 7 = k) (hL : Len w) :
    Calls Tryd.prog 12 #[.agg #[.int .i64 y, .int .i64 m, .int .i64 d, .int .i64 h, .int .i64 i, .int .i64 k]] w fun e w' => e = .returned (.tuple #[.int .i64 (mn y m d h i), .int .i64 0]) ∧ Below w.heap.size w w' := by
  have HL := Lib.hid hL
  clear hL
  have HO := Lib.hid o
  obtain ⟨n1, n2, n3, n4, n5, n6, p1, p2, p3, p4⟩ := o
  have d1 := dfalse n1
  have d2 := dfalse n2
  have d3 := dfalse n3
  have d4 := dfalse n4
  have d5 := dfalse n5
  have d6 := dfalse n6
  have e1 := dfalse p1
  have e2 := dfalse p2
  have e3 := dfalse p3
  have e4 := dfalse p4
  obtain ⟨q, hq⟩ : ∃ q, md ((y - 2000) * 12 + m - 1) = q := ⟨_, rfl⟩
  have hq2 := md_eq y m (by omega) (by omega)
  have hyb := ys_bd (y - 2000) (by omega)
  have hcb := cum_bd y m (by omega) (by omega)
  have q0 : 0 ≤ q := by omega
  have q1 : q ≤ 2000000 := by omega
  have db := dim_bd y m
  have hd31 : d ≤ 31 := by omega
  have hmn : mn y m d h i = (q + d - 1) * 1440 + h * 60 + i := by unfold mn; omega
  have hlo := HO.out.lo
  have hday := HO.out.day
  have hhour := HO.out.hour
  have hmin := HO.out.min
  rw [hmn] at hf hlo hday hhour hmin
  have HH := Lib.hid hhour
  have HI := Lib.hid hmin
  have HD := Lib.hid hday
  have f0 : (q + d - 1) * 1440 + h * 60 + i < 2147483648 := hf
  clear hhour hmin hday
  rw [hmn] at hk
  have HW := Lib.hid hk
  have HM := Lib.hid hmn
  clear hk hmn
  have HQ := Lib.hid hq
  clear hq hq2 hyb hcb db hf
  go_enter Tryd.func12, Tryd.ntmps12
  go_wp2_with fail
  go_quiet ((go_at_call 17; exact quiet_left (days_any _ _ _ (HL.out.below (Below.drewN (by go_grown) _)))))
  go_wp2_with fail
  go_quiet ((go_at_call 27; exact quiet_add_left (monthDay_is _ _ _ (by omega) (by omega) (HL.out.below (Below.drewN (by go_grown) _)) HQ.out)))
  go_wp2_with fail
  refine (of_is _ _ _ _ _ _ _ _ (by omega) (by omega) (HL.out.below (Below.drewN (by go_grown) _)) HD.out HH.out HI.out HW.out).mono ?_
  rintro e w1 ⟨rfl, hb⟩
  have b1 := Below.next (B := w.heap.size) (w := w) (Below.drewN (by go_grown) _) hb (Nat.le_refl _)
  have z1 := b1.size
  have z2 := hb.size
  simp only [World.size_alloc, World.heap_drewN] at z2
  have z3 : w.heap.size < w1.heap.size := by omega
  have c0 : w1.cell? ⟨w.heap.size, 0, none⟩ = some (.int .i64 y) := box hb (by simp) 0
  have c1 : w1.cell? ⟨w.heap.size, 1, none⟩ = some (.int .i64 m) := box hb (by simp) 1
  have c2 : w1.cell? ⟨w.heap.size, 2, none⟩ = some (.int .i64 d) := box hb (by simp) 2
  have c3 : w1.cell? ⟨w.heap.size, 3, none⟩ = some (.int .i64 h) := box hb (by simp) 3
  have c4 : w1.cell? ⟨w.heap.size, 4, none⟩ = some (.int .i64 i) := box hb (by simp) 4
  have c5 : w1.cell? ⟨w.heap.size, 5, none⟩ = some (.int .i64 k) := box hb (by simp) 5
  go_wp2_with fail
  go_returns
  exact ⟨by rw [HM.out]; rfl, by go_grown⟩
end Go.Proofs.YtmjcdnlcdkeoaaaDoor.Cal
