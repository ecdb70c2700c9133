/- Walks: names of columns; the document's word on them. -/
import Derived.Test.YtfmjeggomphliaaGreatDoorTabMath
set_option linter.unusedVariables false
set_option linter.unusedSimpArgs false
namespace Go.Proofs.YtfmjeggomphliaaGreatDoor.Tb
open Go.RowKit Go Ba Va

theorem letter_any (c : UInt8) (w : World) : Calls Tryz.prog 117 #[.int .u8 c.toNat] w fun e w' => e = .returned (.bool (letterB c)) ∧ w = w' := by
  unfold letterB
  by_cases h1 : 97 ≤ (c.toNat : Int)
  · by_cases h2 : (c.toNat : Int) ≤ 122
    · rw [decide_eq_true (show 97 ≤ (c.toNat : Int) ∧ (c.toNat : Int) ≤ 122 from ⟨h1, h2⟩)]
      go_enter Tryz.func117, Tryz.ntmps117
      go_wp2_with fail
      go_returns
      exact ⟨rfl, rfl⟩
    · rw [decide_eq_false (show ¬ (97 ≤ (c.toNat : Int) ∧ (c.toNat : Int) ≤ 122) from fun h => h2 h.2)]
      go_enter Tryz.func117, Tryz.ntmps117
      go_wp2_with fail
      go_returns
      exact ⟨rfl, rfl⟩
  · rw [decide_eq_false (show ¬ (97 ≤ (c.toNat : Int) ∧ (c.toNat : Int) ≤ 122) from fun h => h1 h.1)]
    go_enter Tryz.func117, Tryz.ntmps117
    go_wp2_with fail
    go_returns
    exact ⟨rfl, rfl⟩
theorem letter_is {c : UInt8} {r : Bool} (h : letterB c = r) (w : World) : Calls Tryz.prog 117 #[.int .u8 c.toNat] w fun e w' => e = .returned (.bool r) ∧ w = w' := by
  rw [← h]; exact letter_any c w
theorem inner_any (c : UInt8) (w : World) : Calls Tryz.prog 118 #[.int .u8 c.toNat] w fun e w' => e = .returned (.bool (innerB c)) ∧ w = w' := by
  cases hl : letterB c with
  | true =>
    have hr : innerB c = true := by unfold innerB; rw [hl]; rfl
    have HL := Lib.hid (letter_is hl)
    rw [hr]
    clear hl hr
    go_enter Tryz.func118, Tryz.ntmps118
    go_wp2_with (go_at_call 117; refine (HL.out _).mono ?_; rintro e w' ⟨rfl, rfl⟩)
    go_returns
    exact ⟨rfl, rfl⟩
  | false =>
    have HL := Lib.hid (letter_is hl)
    by_cases h0 : (c.toNat : Int) = 95
    · have hr : innerB c = true := by unfold innerB; rw [hl, decide_eq_true (.inl h0)]; rfl
      rw [hr]
      have d0 : ((c.toNat : Int) == (95 : Int)) = true := by simpa using h0
      clear hl hr h0
      go_enter Tryz.func118, Tryz.ntmps118
      go_wp2_with (go_at_call 117; refine (HL.out _).mono ?_; rintro e w' ⟨rfl, rfl⟩)
      go_returns
      exact ⟨rfl, rfl⟩
    · have d0 : ((c.toNat : Int) == (95 : Int)) = false := by simpa using h0
      by_cases h1 : 48 ≤ (c.toNat : Int)
      · by_cases h2 : (c.toNat : Int) ≤ 57
        · have hr : innerB c = true := by unfold innerB; rw [hl, decide_eq_true (.inr ⟨h1, h2⟩)]; rfl
          rw [hr]
          clear hl hr h0
          go_enter Tryz.func118, Tryz.ntmps118
          go_wp2_with (go_at_call 117; refine (HL.out _).mono ?_; rintro e w' ⟨rfl, rfl⟩)
          go_returns
          exact ⟨rfl, rfl⟩
        · have hr : innerB c = false := by unfold innerB; rw [hl, decide_eq_false (by omega)]; rfl
          rw [hr]
          clear hl hr h0
          go_enter Tryz.func118, Tryz.ntmps118
          go_wp2_with (go_at_call 117; refine (HL.out _).mono ?_; rintro e w' ⟨rfl, rfl⟩)
          go_returns
          exact ⟨ret_bool (decide_eq_false (by omega)), rfl⟩
      · have hr : innerB c = false := by unfold innerB; rw [hl, decide_eq_false (by omega)]; rfl
        rw [hr]
        clear hl hr h0
        go_enter Tryz.func118, Tryz.ntmps118
        go_wp2_with (go_at_call 117; refine (HL.out _).mono ?_; rintro e w' ⟨rfl, rfl⟩)
        go_returns
        exact ⟨rfl, rfl⟩
theorem inner_is {c : UInt8} {r : Bool} (h : innerB c = r) (w : World) : Calls Tryz.prog 118 #[.int .u8 c.toNat] w fun e w' => e = .returned (.bool r) ∧ w = w' := by
  rw [← h]; exact inner_any c w
theorem name_long {s : ByteArray} (h : 16 < s.size) : nameB s = false := by
  unfold nameB nameL
  rw [decide_eq_false (by rw [← size_list]; omega), Bool.and_false]
theorem name_first {s : ByteArray} {b : UInt8} (h : s.data.toList[0]? = some b) (hb : letterB b = false) : nameB s = false := by
  unfold nameB nameL
  cases e : s.data.toList with
  | nil => rw [e] at h; cases h
  | cons x l =>
    rw [e] at h
    simp only [List.getElem?_cons_zero, Option.some.injEq] at h
    subst h
    simp [hb]
theorem name_inner {s : ByteArray} {b : UInt8} (h : b ∈ s.data.toList) (hb : innerB b = false) : nameB s = false := by
  unfold nameB nameL
  have : s.data.toList.all innerB = false := by
    rw [List.all_eq_false]
    exact ⟨b, h, by simp [hb]⟩
  rw [this, Bool.and_false, Bool.false_and]
theorem name_yes {s : ByteArray} {b : UInt8} (h : s.data.toList[0]? = some b) (hb : letterB b = true) (ha : (s.data.toList.take s.size).all innerB = true) (hl : s.size ≤ 16) : nameB s = true := by
  unfold nameB nameL
  rw [size_list, List.take_length] at ha
  rw [ha, decide_eq_true (by rw [← size_list]; exact hl)]
  cases e : s.data.toList with
  | nil => rw [e] at h; cases h
  | cons x l =>
    rw [e] at h
    simp only [List.getElem?_cons_zero, Option.some.injEq] at h
    subst h
    simp [hb]
theorem str_at0 {s : ByteArray} {b : UInt8} (hj : 0 < s.size) (h : s.data.toList[0]? = some b) : s[0] = b := str_at hj h
set_option maxHeartbeats 800000 in
theorem name_any (s : ByteArray) (w : World) (hs : s.size ≤ 9223372036854775807) :
    Calls Tryz.prog 93 #[.string s] w fun e w' => e = .returned (.bool (nameB s)) ∧ Below w.heap.size w w' := by
  by_cases h0 : s = ⟨#[]⟩
  · subst h0
    go_enter Tryz.func93, Tryz.ntmps93
    go_wp2_with fail
    go_ret
    exact ⟨rfl, Below.refl _ _⟩
  have hn : (s.toList == []) = false := by
    cases e : (s.toList == []) with
    | false => rfl
    | true => exact absurd ((empty_iff s).1 (by rw [List.isEmpty_iff]; simpa using e)) h0
  have hn2 : s.toList.isEmpty = false := by
    cases e : s.toList.isEmpty with
    | false => rfl
    | true => exact absurd ((empty_iff s).1 e) h0
  have hpos : 0 < s.size := by
    rcases Nat.eq_zero_or_pos s.size with h | h
    · exact absurd ((empty_iff s).1 (em_size (by omega))) h0
    · exact h
  clear h0
  by_cases h16 : 16 < s.size
  · rw [name_long h16]
    go_enter Tryz.func93, Tryz.ntmps93
    go_wp2_with fail
    go_ret
    exact ⟨rfl, Below.refl _ _⟩
  obtain ⟨b, hb⟩ := bat s 0 hpos
  have hz0 := str_at0 hpos hb
  have HB0 := Lib.hid hb
  clear hb
  cases hl : letterB b with
  | false =>
    rw [name_first HB0.out hl]
    have HL := Lib.hid (letter_is hl)
    clear hl
    go_enter Tryz.func93, Tryz.ntmps93
    go_wp2_with (go_at_call 117; refine (HL.out _).mono ?_; rintro e w' ⟨rfl, rfl⟩)
    go_ret
    exact ⟨rfl, Below.refl _ _⟩
  | true =>
    have HLT := Lib.hid hl
    have HL := Lib.hid (letter_is hl)
    clear hl
    have hcv := fun w => Lib.run_convert_string_bytes (P := Tryz.prog) w 9 75 5 s Tryz.underlying9 Tryz.underlying75 Tryz.underlying5
    have hcell := bytes_cells (w := w) 5 s
    have hbw := Lib.bytesWorld_below w 5 s
    go_enter Tryz.func93, Tryz.ntmps93
    go_wp2_with (go_at_call 117; refine (HL.out _).mono ?_; rintro e w' ⟨rfl, rfl⟩)
    generalize Lib.bytesWorld w 5 s = w1 at *
    clear hcv
    have HC := Lib.hid hcell
    have HB := Lib.hid hbw
    clear hcell hbw
    go_loop [21] (fun i => ∃ k : Nat, k ≤ s.size ∧ i = .int .i64 k ∧ (s.data.toList.take k).all innerB = true) (fun i => s.size - (intOf i).toNat)
    case atStart => exact ⟨0, by omega, rfl, by simp⟩
    case round =>
      obtain ⟨k, hk, rfl, hall⟩ := hrel
      have HA := Lib.hid hall
      clear hall
      by_cases hlt : k < s.size
      · obtain ⟨c, hck⟩ := bat s k hlt
        have hc := HC.out k c hck
        have HCK := Lib.hid hck
        clear hck
        cases hi : innerB c with
        | false =>
          have HI := Lib.hid (inner_is hi)
          have HN := Lib.hid (name_inner (List.mem_of_getElem? HCK.out) hi)
          clear hi
          go_wp2_with (go_at_call 118; refine (HI.out _).mono ?_; rintro e w' ⟨rfl, rfl⟩)
          go_ret
          exact ⟨ret_bool HN.out.symm, HB.out⟩
        | true =>
          have HI := Lib.hid (inner_is hi)
          have HA2 : Hid ((s.data.toList.take (k + 1)).all innerB = true) := by show _ = _; rw [take_one _ _ _ HCK.out, List.all_append, HA.out]; simp [hi]
          clear hi
          go_wp2_with (go_at_call 118; refine (HI.out _).mono ?_; rintro e w' ⟨rfl, rfl⟩)
          go_round
          case rel => exact ⟨k + 1, by omega, by go_num, HA2.out⟩
          case measure => simp [intOf]; omega
      · have ek : k = s.size := by omega
        have HK := Lib.hid ek
        clear ek
        go_wp2_with fail
        go_ret
        refine ⟨ret_bool ?_, HB.out⟩
        have ha := HA.out
        rw [HK.out] at ha
        exact (name_yes HB0.out HLT.out ha (by omega)).symm
theorem name_is {s : ByteArray} {r : Bool} (h : nameB s = r) (w : World) (hs : s.size ≤ 9223372036854775807) :
    Calls Tryz.prog 93 #[.string s] w fun e w' => e = .returned (.bool r) ∧ Below w.heap.size w w' := by
  rw [← h]; exact name_any s w hs
end Go.Proofs.YtfmjeggomphliaaGreatDoor.Tb
