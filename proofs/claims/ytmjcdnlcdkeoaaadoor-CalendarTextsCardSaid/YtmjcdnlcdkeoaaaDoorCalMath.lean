/- Plain mathematics of the calendar: years, months, days as integers. No program in sight. -/
set_option linter.unusedVariables false
namespace Go.Proofs.YtmjcdnlcdkeoaaaDoor.Cal

/-- Is it a leap year? -/
def leapB (y : Int) : Bool := decide (y % 4 = 0 ∧ (y % 100 ≠ 0 ∨ y % 400 = 0))
/-- One day more in a leap year. -/
def lp (y : Int) : Int := if leapB y = true then 1 else 0
/-- Days of a month; 0 if it is none. -/
def dim (y m : Int) : Int :=
  if m < 1 ∨ 12 < m then 0 else if m = 2 then 28 + lp y else if m = 4 ∨ m = 6 ∨ m = 9 ∨ m = 11 then 30 else 31
/-- Leap years ahead of the year 2000 + n, from 2000 on. -/
def leaps (n : Int) : Int := (n + 3) / 4 - (n + 99) / 100 + (n + 399) / 400
/-- Days ahead of the year 2000 + n. -/
def ys (n : Int) : Int := n * 365 + leaps n
/-- Days of a year ahead of month m (1 .. 13). -/
def cum (y m : Int) : Int :=
  (if m ≤ 1 then 0 else if m ≤ 2 then 31 else if m ≤ 3 then 59 else if m ≤ 4 then 90 else if m ≤ 5 then 120 else if m ≤ 6 then 151 else if m ≤ 7 then 181 else if m ≤ 8 then 212 else if m ≤ 9 then 243 else if m ≤ 10 then 273 else if m ≤ 11 then 304 else if m ≤ 12 then 334 else 365) + (if 3 ≤ m then lp y else 0)

theorem lp_01 (y : Int) : 0 ≤ lp y ∧ lp y ≤ 1 := by unfold lp; split <;> omega
theorem lp_eq (y : Int) : lp y = if y % 4 = 0 ∧ (y % 100 ≠ 0 ∨ y % 400 = 0) then 1 else 0 := by
  unfold lp leapB; simp
theorem ys_succ (n : Int) (h : 0 ≤ n) : ys (n + 1) = ys n + 365 + lp (2000 + n) := by
  rw [lp_eq]; unfold ys leaps
  split <;> omega
theorem ys_zero : ys 0 = 0 := by decide
theorem ys_bd (n : Int) (h : 0 ≤ n) : n * 365 ≤ ys n ∧ ys n ≤ n * 366 := by
  unfold ys leaps; omega
theorem ys_lo (n : Int) (h : 0 ≤ n) : 0 ≤ ys n := by have := ys_bd n h; omega
theorem ys_mono (a b : Int) (h0 : 0 ≤ a) (h : a ≤ b) : ys a ≤ ys b := by unfold ys leaps; omega
theorem ys_lt (a b : Int) (h0 : 0 ≤ a) (h : a < b) : ys a + 365 ≤ ys b := by unfold ys leaps; omega
theorem ys_guess (d : Int) (h : 0 ≤ d) : ys (d / 146097 * 400 + d % 146097 / 366) ≤ d := by
  unfold ys leaps; omega
theorem dim_bd (y m : Int) : 0 ≤ dim y m ∧ dim y m ≤ 31 := by
  have := lp_01 y
  unfold dim; split
  · omega
  · split
    · omega
    · split <;> omega
theorem dim_lo (y m : Int) (h1 : 1 ≤ m) (h2 : m ≤ 12) : 28 ≤ dim y m := by
  have := lp_01 y
  unfold dim; rw [if_neg (by omega)]; split
  · omega
  · split <;> omega
theorem cum_one (y : Int) : cum y 1 = 0 := by unfold cum; simp
theorem cum_end (y : Int) : cum y 13 = 365 + lp y := by unfold cum; simp
theorem m12 (m : Int) (h1 : 1 ≤ m) (h2 : m ≤ 12) : m = 1 ∨ m = 2 ∨ m = 3 ∨ m = 4 ∨ m = 5 ∨ m = 6 ∨ m = 7 ∨ m = 8 ∨ m = 9 ∨ m = 10 ∨ m = 11 ∨ m = 12 := by omega
theorem cum_succ (y m : Int) (h1 : 1 ≤ m) (h2 : m ≤ 12) : cum y (m + 1) = cum y m + dim y m := by
  rcases m12 m h1 h2 with rfl | rfl | rfl | rfl | rfl | rfl | rfl | rfl | rfl | rfl | rfl | rfl <;> simp [cum, dim] <;> omega
theorem cum_bd (y m : Int) (h1 : 1 ≤ m) (h2 : m ≤ 13) : 0 ≤ cum y m ∧ cum y m ≤ 366 := by
  have := lp_01 y
  unfold cum; omega
theorem cum_mono (y a b : Int) (h1 : 1 ≤ a) (h : a ≤ b) (h2 : b ≤ 13) : cum y a ≤ cum y b := by
  have := lp_01 y
  unfold cum; omega

/-- y, m, d is the date of a day (days counted from 2000-01-01). -/
structure IsDay (day y m d : Int) : Prop where
  y0 : 2000 ≤ y
  m1 : 1 ≤ m
  m2 : m ≤ 12
  d1 : 1 ≤ d
  d2 : d ≤ dim y m
  eq : day = ys (y - 2000) + cum y m + d - 1

theorem IsDay.lt_next {day y m d : Int} (h : IsDay day y m d) : ys (y - 2000) ≤ day ∧ day < ys (y + 1 - 2000) := by
  obtain ⟨y0, m1, m2, d1, d2, e⟩ := h
  have a := cum_succ y m m1 m2
  have b := cum_mono y (m + 1) 13 (by omega) (by omega) (by omega)
  have c := cum_end y
  have f := ys_succ (y - 2000) (by omega)
  have g := cum_bd y m m1 (by omega)
  rw [show y + 1 - 2000 = y - 2000 + 1 from by omega, f, show 2000 + (y - 2000) = y from by omega]
  omega
theorem IsDay.unique {day y m d y' m' d' : Int} (h : IsDay day y m d) (h' : IsDay day y' m' d') : y = y' ∧ m = m' ∧ d = d' := by
  have a := h.lt_next
  have a' := h'.lt_next
  have ey : y = y' := by
    have hy := h.y0
    have hy' := h'.y0
    rcases Int.lt_trichotomy y y' with l | l | l
    · have := ys_mono (y + 1 - 2000) (y' - 2000) (by omega) (by omega); omega
    · exact l
    · have := ys_mono (y' + 1 - 2000) (y - 2000) (by omega) (by omega); omega
  subst ey
  obtain ⟨y0, m1, m2, d1, d2, e⟩ := h
  obtain ⟨_, m1', m2', d1', d2', e'⟩ := h'
  have em : m = m' := by
    rcases Int.lt_trichotomy m m' with l | l | l
    · have := cum_succ y m m1 m2; have := cum_mono y (m + 1) m' (by omega) (by omega) (by omega); omega
    · exact l
    · have := cum_succ y m' m1' m2'; have := cum_mono y (m' + 1) m (by omega) (by omega) (by omega); omega
  subst em
  exact ⟨rfl, rfl, by omega⟩
theorem IsDay.mono {a b y m d y' m' d' : Int} (h : IsDay a y m d) (h' : IsDay b y' m' d') (hab : a ≤ b) : y * 12 + m ≤ y' * 12 + m' := by
  have p := h.lt_next
  have p' := h'.lt_next
  have hy := h.y0
  have hy' := h'.y0
  rcases Int.lt_trichotomy y y' with l | l | l
  · have := h.m2; have := h'.m1; omega
  · subst l
    obtain ⟨y0, m1, m2, d1, d2, e⟩ := h
    obtain ⟨_, m1', m2', d1', d2', e'⟩ := h'
    rcases Int.lt_trichotomy m m' with l | l | l
    · omega
    · omega
    · have := cum_succ y m' m1' m2'; have := cum_mono y (m' + 1) m (by omega) (by omega) (by omega); omega
  · have := ys_mono (y' + 1 - 2000) (y - 2000) (by omega) (by omega); omega

/-- Every day has a date: the year by search, then the month. -/
theorem year_exists (k : Nat) : ∀ day n : Int, 0 ≤ n → ys n ≤ day → day - ys n ≤ k → ∃ y : Int, n ≤ y ∧ ys y ≤ day ∧ day < ys (y + 1) := by
  induction k with
  | zero =>
    intro day n h0 h1 h2
    have := ys_succ n h0
    have := lp_01 (2000 + n)
    exact ⟨n, by omega, h1, by omega⟩
  | succ k ih =>
    intro day n h0 h1 h2
    by_cases c : day < ys (n + 1)
    · exact ⟨n, by omega, h1, c⟩
    · have := ys_succ n h0
      have := lp_01 (2000 + n)
      obtain ⟨y, a, b, e⟩ := ih day (n + 1) (by omega) (by omega) (by omega)
      exact ⟨y, by omega, b, e⟩
theorem day_exists (day : Int) (h : 0 ≤ day) : ∃ y m d : Int, IsDay day y m d := by
  obtain ⟨n, h0, h1, h2⟩ := year_exists day.toNat day 0 (by omega) (by rw [ys_zero]; omega) (by rw [ys_zero]; omega)
  have hs := ys_succ n h0
  have fin : ∃ m : Int, 1 ≤ m ∧ m ≤ 12 ∧ cum (2000 + n) m ≤ day - ys n ∧ day - ys n < cum (2000 + n) (m + 1) := by
    have e1 := cum_one (2000 + n)
    have e13 := cum_end (2000 + n)
    generalize hr : day - ys n = r at *
    by_cases c2 : r < cum (2000 + n) 2
    · exact ⟨1, by omega, by omega, by omega, c2⟩
    by_cases c3 : r < cum (2000 + n) 3
    · exact ⟨2, by omega, by omega, by omega, c3⟩
    by_cases c4 : r < cum (2000 + n) 4
    · exact ⟨3, by omega, by omega, by omega, c4⟩
    by_cases c5 : r < cum (2000 + n) 5
    · exact ⟨4, by omega, by omega, by omega, c5⟩
    by_cases c6 : r < cum (2000 + n) 6
    · exact ⟨5, by omega, by omega, by omega, c6⟩
    by_cases c7 : r < cum (2000 + n) 7
    · exact ⟨6, by omega, by omega, by omega, c7⟩
    by_cases c8 : r < cum (2000 + n) 8
    · exact ⟨7, by omega, by omega, by omega, c8⟩
    by_cases c9 : r < cum (2000 + n) 9
    · exact ⟨8, by omega, by omega, by omega, c9⟩
    by_cases c10 : r < cum (2000 + n) 10
    · exact ⟨9, by omega, by omega, by omega, c10⟩
    by_cases c11 : r < cum (2000 + n) 11
    · exact ⟨10, by omega, by omega, by omega, c11⟩
    by_cases c12 : r < cum (2000 + n) 12
    · exact ⟨11, by omega, by omega, by omega, c12⟩
    exact ⟨12, by omega, by omega, by omega, by show r < cum (2000 + n) 13; omega⟩
  obtain ⟨m, m1, m2, c1, c2⟩ := fin
  have := cum_succ (2000 + n) m m1 m2
  refine ⟨2000 + n, m, day - ys n - cum (2000 + n) m + 1, by omega, m1, m2, by omega, by omega, ?_⟩
  rw [show 2000 + n - 2000 = n from by omega]; omega
/-- The date of a day. -/
noncomputable def Y (day : Int) : Int := if h : 0 ≤ day then (day_exists day h).choose else 0
noncomputable def M (day : Int) : Int := if h : 0 ≤ day then (day_exists day h).choose_spec.choose else 0
noncomputable def D (day : Int) : Int := if h : 0 ≤ day then (day_exists day h).choose_spec.choose_spec.choose else 0
theorem ymd (day : Int) (h : 0 ≤ day) : IsDay day (Y day) (M day) (D day) := by
  unfold Y M D
  rw [dif_pos h, dif_pos h, dif_pos h]
  exact (day_exists day h).choose_spec.choose_spec.choose_spec
theorem ymd_of {day y m d : Int} (h : IsDay day y m d) (h0 : 0 ≤ day) : Y day = y ∧ M day = m ∧ D day = d := (ymd day h0).unique h
theorem Y_le (day : Int) (h : 0 ≤ day) (h2 : day ≤ 1491308) : Y day ≤ 6083 := by
  have p := (ymd day h).lt_next
  have q := (ymd day h).y0
  by_cases c : Y day ≤ 6083
  · exact c
  · exfalso
    have r := ys_mono 4084 (Y day - 2000) (by omega) (by omega)
    have : ys 4084 = 1491651 := by decide
    omega
end Go.Proofs.YtmjcdnlcdkeoaaaDoor.Cal
