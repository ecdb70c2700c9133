/- Walks: two numbers reckoned. -/
import Derived.Test.YtedpgeilamhipaaDoorValWalk3
import Derived.Test.YtedpgeilamhipaaDoorValMath
set_option linter.unusedVariables false
set_option linter.unusedSimpArgs false
namespace Go.Proofs.YtedpgeilamhipaaDoor.Va
open Go.RowKit Go Ba

theorem ret2 {P : Program} {f : FuncId} {args : Array Value} {w : World} {a a' : Int} {b b' : Bool} (h : Calls P f args w fun e w' => e = .returned (.tuple #[.int .i64 a, .bool b]) ∧ w = w') (ha : a = a') (hb : b = b') :
    Calls P f args w fun e w' => e = .returned (.tuple #[.int .i64 a', .bool b']) ∧ w = w' := by subst ha; subst hb; exact h

/-- What reckoning two numbers comes to: the number, and whether an int holds it. -/
def Reckons (op a b r : Int) (ok : Bool) : Prop := ∀ w : World, Calls Tryd.prog 33 #[.int .u8 op, .int .i64 a, .int .i64 b] w fun e w' => e = .returned (.tuple #[.int .i64 r, .bool ok]) ∧ ∃ n, w' = w.drewN n

theorem add_ok {a b : Int} (ha : In64 a) (hb : In64 b) (h : In64 (a + b)) : Reckons 43 a b (a + b) true := by
  intro w
  obtain ⟨a0, a1⟩ := ha
  obtain ⟨b0, b1⟩ := hb
  obtain ⟨c0, c1⟩ := h
  rcases Int.lt_trichotomy b 0 with l | rfl | l
  · have d1 := dfalse (show ¬ a < a + b by omega)
    have d2 := dfalse (show ¬ 0 < b by omega)
    go_enter Tryd.func33, Tryd.ntmps33
    go_wp2_with fail
    go_ret2
    exact ⟨rfl, ⟨0, rfl⟩⟩
  · go_enter Tryd.func33, Tryd.ntmps33
    go_wp2_with fail
    go_ret2
    exact ⟨by simp, ⟨0, rfl⟩⟩
  · have d1 := dtrue (show a < a + b by omega)
    have d2 := dtrue l
    go_enter Tryd.func33, Tryd.ntmps33
    go_wp2_with fail
    go_ret2
    exact ⟨rfl, ⟨0, rfl⟩⟩
theorem add_no {a b : Int} (ha : In64 a) (hb : In64 b) (h : ¬ In64 (a + b)) : Reckons 43 a b (wrap64 (a + b)) false := by
  intro w
  by_cases ho : 9223372036854775807 < a + b
  · obtain ⟨f1, f2⟩ := add_over ha hb ho
    obtain ⟨c, hc⟩ : ∃ c, wrap64 (a + b) = c := ⟨_, rfl⟩
    rw [hc] at f1 ⊢
    have d1 := dfalse (show ¬ a < c by omega)
    have d2 := dtrue f2
    have d3 : (b == 0) = false := by simp; omega
    clear ha hb h ho f1 f2
    go_enter Tryd.func33, Tryd.ntmps33
    go_wp2_with fail
    go_ret2
    exact ⟨by rw [← hc]; rfl, ⟨0, rfl⟩⟩
  · obtain ⟨f1, f2⟩ := add_under ha hb (by unfold In64 at h; omega)
    obtain ⟨c, hc⟩ : ∃ c, wrap64 (a + b) = c := ⟨_, rfl⟩
    rw [hc] at f1 ⊢
    have d1 := dtrue f1
    have d2 := dfalse (show ¬ 0 < b by omega)
    have d3 : (b == 0) = false := by simp; omega
    clear ha hb h ho f1 f2
    go_enter Tryd.func33, Tryd.ntmps33
    go_wp2_with fail
    go_ret2
    exact ⟨by rw [← hc]; rfl, ⟨0, rfl⟩⟩
theorem sub_ok {a b : Int} (ha : In64 a) (hb : In64 b) (h : In64 (a - b)) : Reckons 45 a b (a - b) true := by
  intro w
  obtain ⟨a0, a1⟩ := ha
  obtain ⟨b0, b1⟩ := hb
  obtain ⟨c0, c1⟩ := h
  rcases Int.lt_trichotomy b 0 with l | rfl | l
  · have d1 := dfalse (show ¬ a - b < a by omega)
    have d2 := dfalse (show ¬ 0 < b by omega)
    go_enter Tryd.func33, Tryd.ntmps33
    go_wp2_with fail
    go_ret2
    exact ⟨rfl, ⟨0, rfl⟩⟩
  · go_enter Tryd.func33, Tryd.ntmps33
    go_wp2_with fail
    go_ret2
    exact ⟨by simp, ⟨0, rfl⟩⟩
  · have d1 := dtrue (show a - b < a by omega)
    have d2 := dtrue l
    go_enter Tryd.func33, Tryd.ntmps33
    go_wp2_with fail
    go_ret2
    exact ⟨rfl, ⟨0, rfl⟩⟩
theorem sub_no {a b : Int} (ha : In64 a) (hb : In64 b) (h : ¬ In64 (a - b)) : Reckons 45 a b (wrap64 (a - b)) false := by
  intro w
  by_cases ho : 9223372036854775807 < a - b
  · obtain ⟨f1, f2⟩ := sub_over ha hb ho
    obtain ⟨c, hc⟩ : ∃ c, wrap64 (a - b) = c := ⟨_, rfl⟩
    rw [hc] at f1 ⊢
    have d1 := dtrue f1
    have d2 := dfalse (show ¬ 0 < b by omega)
    have d3 : (b == 0) = false := by simp; omega
    clear ha hb h ho f1 f2
    go_enter Tryd.func33, Tryd.ntmps33
    go_wp2_with fail
    go_ret2
    exact ⟨by rw [← hc]; rfl, ⟨0, rfl⟩⟩
  · obtain ⟨f1, f2⟩ := sub_under ha hb (by unfold In64 at h; omega)
    obtain ⟨c, hc⟩ : ∃ c, wrap64 (a - b) = c := ⟨_, rfl⟩
    rw [hc] at f1 ⊢
    have d1 := dfalse (show ¬ c < a by omega)
    have d2 := dtrue f2
    have d3 : (b == 0) = false := by simp; omega
    clear ha hb h ho f1 f2
    go_enter Tryd.func33, Tryd.ntmps33
    go_wp2_with fail
    go_ret2
    exact ⟨by rw [← hc]; rfl, ⟨0, rfl⟩⟩
theorem run_quo {P : Program} {a b : Int} (h0 : b ≠ 0) (h : In64 (a.tdiv b)) (w : World) : (Op.intDiv .quo .i64 a b).run P w = .ok (.int .i64 (a.tdiv b)) w := by
  unfold Op.intDiv
  rw [if_neg h0]
  have e : IntKind.i64.wrap (a.tdiv b) = a.tdiv b := IntWalk.i64_in _ h
  simp [Sem.run_pure, e]
theorem run_rem {P : Program} {a b : Int} (h0 : b ≠ 0) (w : World) : (Op.intDiv .rem .i64 a b).run P w = .ok (.int .i64 (a.tmod b)) w := by
  unfold Op.intDiv
  rw [if_neg h0]
  simp [Sem.run_pure]
theorem quo_ok {a b : Int} (ha : In64 a) (hb : In64 b) (hb0 : b ≠ 0) (h : ¬ (a = -9223372036854775808 ∧ b = -1)) : Reckons 47 a b (a.tdiv b) true := by
  intro w
  have hw := wrap_in (tdiv_bd ha hb0 h)
  by_cases h1 : a = -9223372036854775808
  · have d1 : (a != -9223372036854775808) = false := by simpa using h1
    have d2 : (b != -1) = true := by simp; omega
    clear ha hb h h1
    go_enter Tryd.func33, Tryd.ntmps33
    go_wp2_with fail
    go_ret2
    exact ⟨by show Ending.returned (Value.tuple #[.int .i64 (wrap64 (a.tdiv b)), .bool true]) = _; rw [hw], ⟨0, rfl⟩⟩
  · have d1 : (a != -9223372036854775808) = true := by simpa using h1
    clear ha hb h h1
    go_enter Tryd.func33, Tryd.ntmps33
    go_wp2_with fail
    go_ret2
    exact ⟨by show Ending.returned (Value.tuple #[.int .i64 (wrap64 (a.tdiv b)), .bool true]) = _; rw [hw], ⟨0, rfl⟩⟩
theorem quo_no : Reckons 47 (-9223372036854775808) (-1) (wrap64 9223372036854775808) false := by
  intro w
  go_enter Tryd.func33, Tryd.ntmps33
  go_wp2_with fail
  go_ret2
  exact ⟨rfl, ⟨0, rfl⟩⟩
theorem rem_ok {a b : Int} (hb0 : b ≠ 0) (hb1 : b ≠ -1) : Reckons 37 a b (a.tmod b) true := by
  intro w
  have d2 : (b == -1) = false := by simpa using hb1
  clear hb1
  go_enter Tryd.func33, Tryd.ntmps33
  go_wp2_with fail
  go_ret2
  exact ⟨rfl, ⟨0, rfl⟩⟩
theorem rem_one (a : Int) : Reckons 37 a (-1) 0 true := by
  intro w
  go_enter Tryd.func33, Tryd.ntmps33
  go_wp2_with fail
  go_ret2
  exact ⟨rfl, ⟨0, rfl⟩⟩

/-- What multiplying two numbers comes to. -/
def Mults (a b r : Int) (ok : Bool) : Prop := ∀ w : World, Calls Tryd.prog 45 #[.int .i64 a, .int .i64 b] w fun e w' => e = .returned (.tuple #[.int .i64 r, .bool ok]) ∧ ∃ n, w' = w.drewN n
theorem mult_zero {a b : Int} (h : a = 0 ∨ b = 0) : Mults a b 0 true := by
  intro w
  by_cases h0 : a = 0
  · subst h0
    go_enter Tryd.func45, Tryd.ntmps45
    go_wp2_with fail
    go_ret2
    exact ⟨rfl, ⟨0, rfl⟩⟩
  · obtain rfl : b = 0 := by omega
    have d1 : (a == 0) = false := by simpa using h0
    clear h h0
    go_enter Tryd.func45, Tryd.ntmps45
    go_wp2_with fail
    go_ret2
    exact ⟨rfl, ⟨0, rfl⟩⟩
theorem mult_left : Mults (-1) (-9223372036854775808) 0 false := by
  intro w
  go_enter Tryd.func45, Tryd.ntmps45
  go_wp2_with fail
  go_ret2
  exact ⟨rfl, ⟨0, rfl⟩⟩
theorem mult_right : Mults (-9223372036854775808) (-1) 0 false := by
  intro w
  go_enter Tryd.func45, Tryd.ntmps45
  go_wp2_with fail
  go_ret2
  exact ⟨rfl, ⟨0, rfl⟩⟩
theorem mult_any {a b : Int} (ha : In64 a) (hb : In64 b) (a0 : a ≠ 0) (b0 : b ≠ 0) (h1 : ¬ (a = -1 ∧ b = -9223372036854775808)) (h2 : ¬ (b = -1 ∧ a = -9223372036854775808)) (ok : Bool) (hok : In64 (a * b) ↔ ok = true) : Mults a b (wrap64 (a * b)) ok := by
  intro w
  have hn : ¬ (b = -1 ∧ wrap64 (a * b) = -9223372036854775808) := by
    rintro ⟨rfl, h⟩
    unfold In64 at ha
    unfold wrap64 at h
    have := fun hx => h2 ⟨rfl, hx⟩
    omega
  have hm := mul_back ha hb b0 hn
  have hr : In64 (wrap64 (a * b)) := wrap_rng _
  have hw := wrap_in (tdiv_bd hr b0 (fun h => hn ⟨h.2, h.1⟩))
  have d3 : ((wrap64 (a * b)).tdiv b == a) = ok := by rw [Bool.eq_iff_iff, ← hok, ← hm]; simp
  have da : (a == 0) = false := by simpa using a0
  have db : (b == 0) = false := by simpa using b0
  by_cases h3 : a = -1
  · have e1 : (a == -1) = true := by simpa using h3
    have e2 : (b == -9223372036854775808) = false := by simp; omega
    by_cases h4 : b = -1
    · have e3 : (b == -1) = true := by simpa using h4
      have e4 : (a == -9223372036854775808) = false := by simp; omega
      clear ha hb h1 h2 hok hm hr a0 h3 h4 hn
      go_enter Tryd.func45, Tryd.ntmps45
      go_wp2_with fail
      generalize hp : wrap64 (a * b) = p at *
      have HP := Lib.hid hp
      clear hp
      have hw2 : IntKind.i64.wrap (p.tdiv b) = p.tdiv b := (IntWalk.i64_left _).trans hw
      go_quiet (fail)
      go_wp2_with fail
      go_ret2
      exact ⟨by rw [HP.out]; rfl, ⟨_, rfl⟩⟩
    · have e3 : (b == -1) = false := by simpa using h4
      clear ha hb h1 h2 hok hm hr a0 h3 h4 hn
      go_enter Tryd.func45, Tryd.ntmps45
      go_wp2_with fail
      generalize hp : wrap64 (a * b) = p at *
      have HP := Lib.hid hp
      clear hp
      have hw2 : IntKind.i64.wrap (p.tdiv b) = p.tdiv b := (IntWalk.i64_left _).trans hw
      go_quiet (fail)
      go_wp2_with fail
      go_ret2
      exact ⟨by rw [HP.out]; rfl, ⟨_, rfl⟩⟩
  · have e1 : (a == -1) = false := by simpa using h3
    by_cases h4 : b = -1
    · have e3 : (b == -1) = true := by simpa using h4
      have e4 : (a == -9223372036854775808) = false := by simp; omega
      clear ha hb h1 h2 hok hm hr a0 h3 h4 hn
      go_enter Tryd.func45, Tryd.ntmps45
      go_wp2_with fail
      generalize hp : wrap64 (a * b) = p at *
      have HP := Lib.hid hp
      clear hp
      have hw2 : IntKind.i64.wrap (p.tdiv b) = p.tdiv b := (IntWalk.i64_left _).trans hw
      go_quiet (fail)
      go_wp2_with fail
      go_ret2
      exact ⟨by rw [HP.out]; rfl, ⟨_, rfl⟩⟩
    · have e3 : (b == -1) = false := by simpa using h4
      clear ha hb h1 h2 hok hm hr a0 h3 h4 hn
      go_enter Tryd.func45, Tryd.ntmps45
      go_wp2_with fail
      generalize hp : wrap64 (a * b) = p at *
      have HP := Lib.hid hp
      clear hp
      have hw2 : IntKind.i64.wrap (p.tdiv b) = p.tdiv b := (IntWalk.i64_left _).trans hw
      go_quiet (fail)
      go_wp2_with fail
      go_ret2
      exact ⟨by rw [HP.out]; rfl, ⟨_, rfl⟩⟩
theorem mul_of {a b r : Int} {ok : Bool} (h : Mults a b r ok) : Reckons 42 a b r ok := by
  intro w
  have H := Lib.hid h
  clear h
  go_enter Tryd.func33, Tryd.ntmps33
  go_wp2_with fail
  refine (H.out _).mono ?_
  rintro e w1 ⟨rfl, n, rfl⟩
  go_wp2_with fail
  go_ret2
  exact ⟨rfl, n, rfl⟩

end Go.Proofs.YtedpgeilamhipaaDoor.Va
