/- Walks: bytes, runs of bytes, what stands between tokens, where a text between quotes ends. -/
import Derived.Test.YtpfgfejcaofjiaaDoorLexMath
import Derived.Test.YtpfgfejcaofjiaaDoorValText
set_option linter.unusedVariables false
set_option linter.unusedSimpArgs false
namespace Go.Proofs.YtpfgfejcaofjiaaDoor.Lx
open Go.RowKit Go Ba Va

theorem bool_of {b c : Bool} (h : b = true ↔ c = true) : b = c := by cases b <;> cases c <;> simp_all
theorem letter_any (c : UInt8) (w : World) : Calls Tryd.prog 27 #[.int .u8 c.toNat] w fun e w' => e = .returned (.bool (letB c)) ∧ w = w' := by
  have hb := byte_lt c
  by_cases h1 : (97 : Int) ≤ c.toNat
  · by_cases h2 : (c.toNat : Int) ≤ 122
    · have HB : Hid (letB c = true) := by show letB c = true; unfold letB; rw [decide_eq_true_eq]; omega
      go_enter Tryd.func27, Tryd.ntmps27
      go_wp2_with fail
      go_ret
      exact ⟨ret_bool HB.out.symm, rfl⟩
    · have HB : Hid (letB c = false) := by show letB c = false; unfold letB; rw [decide_eq_false_iff_not]; omega
      go_enter Tryd.func27, Tryd.ntmps27
      go_wp2_with fail
      go_ret
      exact ⟨ret_bool HB.out.symm, rfl⟩
  · have HB : Hid (letB c = false) := by show letB c = false; unfold letB; rw [decide_eq_false_iff_not]; omega
    go_enter Tryd.func27, Tryd.ntmps27
    go_wp2_with fail
    go_ret
    exact ⟨ret_bool HB.out.symm, rfl⟩
theorem digit_any (c : UInt8) (w : World) : Calls Tryd.prog 29 #[.int .u8 c.toNat] w fun e w' => e = .returned (.bool (digB c)) ∧ w = w' := by
  have hb := byte_lt c
  by_cases h1 : (48 : Int) ≤ c.toNat
  · by_cases h2 : (c.toNat : Int) ≤ 57
    · have HB : Hid (digB c = true) := by show digB c = true; unfold digB; rw [decide_eq_true_eq]; omega
      go_enter Tryd.func29, Tryd.ntmps29
      go_wp2_with fail
      go_ret
      exact ⟨ret_bool HB.out.symm, rfl⟩
    · have HB : Hid (digB c = false) := by show digB c = false; unfold digB; rw [decide_eq_false_iff_not]; omega
      go_enter Tryd.func29, Tryd.ntmps29
      go_wp2_with fail
      go_ret
      exact ⟨ret_bool HB.out.symm, rfl⟩
  · have HB : Hid (digB c = false) := by show digB c = false; unfold digB; rw [decide_eq_false_iff_not]; omega
    go_enter Tryd.func29, Tryd.ntmps29
    go_wp2_with fail
    go_ret
    exact ⟨ret_bool HB.out.symm, rfl⟩
theorem refLetter_any (c : UInt8) (w : World) : Calls Tryd.prog 16 #[.int .u8 c.toNat] w fun e w' => e = .returned (.bool (letB c)) ∧ w = w' := by
  have hb := byte_lt c
  by_cases h1 : (97 : Int) ≤ c.toNat
  · by_cases h2 : (c.toNat : Int) ≤ 122
    · have HB : Hid (letB c = true) := by show letB c = true; unfold letB; rw [decide_eq_true_eq]; omega
      go_enter Tryd.func16, Tryd.ntmps16
      go_wp2_with fail
      go_ret
      exact ⟨ret_bool HB.out.symm, rfl⟩
    · have HB : Hid (letB c = false) := by show letB c = false; unfold letB; rw [decide_eq_false_iff_not]; omega
      go_enter Tryd.func16, Tryd.ntmps16
      go_wp2_with fail
      go_ret
      exact ⟨ret_bool HB.out.symm, rfl⟩
  · have HB : Hid (letB c = false) := by show letB c = false; unfold letB; rw [decide_eq_false_iff_not]; omega
    go_enter Tryd.func16, Tryd.ntmps16
    go_wp2_with fail
    go_ret
    exact ⟨ret_bool HB.out.symm, rfl⟩
theorem refDigit_any (c : UInt8) (w : World) : Calls Tryd.prog 17 #[.int .u8 c.toNat] w fun e w' => e = .returned (.bool (digB c)) ∧ w = w' := by
  have hb := byte_lt c
  by_cases h1 : (48 : Int) ≤ c.toNat
  · by_cases h2 : (c.toNat : Int) ≤ 57
    · have HB : Hid (digB c = true) := by show digB c = true; unfold digB; rw [decide_eq_true_eq]; omega
      go_enter Tryd.func17, Tryd.ntmps17
      go_wp2_with fail
      go_ret
      exact ⟨ret_bool HB.out.symm, rfl⟩
    · have HB : Hid (digB c = false) := by show digB c = false; unfold digB; rw [decide_eq_false_iff_not]; omega
      go_enter Tryd.func17, Tryd.ntmps17
      go_wp2_with fail
      go_ret
      exact ⟨ret_bool HB.out.symm, rfl⟩
  · have HB : Hid (digB c = false) := by show digB c = false; unfold digB; rw [decide_eq_false_iff_not]; omega
    go_enter Tryd.func17, Tryd.ntmps17
    go_wp2_with fail
    go_ret
    exact ⟨ret_bool HB.out.symm, rfl⟩
theorem nl_any (c : UInt8) (w : World) : Calls Tryd.prog 26 #[.int .u8 c.toNat] w fun e w' => e = .returned (.bool (notNl c)) ∧ w = w' := by
  by_cases h : c = 10
  · subst h
    go_enter Tryd.func26, Tryd.ntmps26
    go_wp2_with fail
    go_ret
    exact ⟨rfl, rfl⟩
  · have h1 : ((c.toNat : Int) != 10) = true := by
      simp only [bne_iff_ne, ne_eq]
      exact fun e => h (byte_eq (by rw [e]; rfl))
    have h2 : ((c.toNat : Int) == 10) = false := by
      rw [beq_eq_false_iff_ne]
      exact fun e => h (byte_eq (by rw [e]; rfl))
    have HB : Hid (notNl c = true) := by show notNl c = true; unfold notNl; rw [decide_eq_true_eq]; exact h
    clear h
    go_enter Tryd.func26, Tryd.ntmps26
    go_wp2_with fail
    go_ret
    exact ⟨ret_bool HB.out.symm, rfl⟩
theorem word_any (c : UInt8) (w : World) : Calls Tryd.prog 28 #[.int .u8 c.toNat] w fun e w' => e = .returned (.bool (wordB c)) ∧ w = w' := by
  have HW : Hid (wordB c = (letB c || digB c || decide (c = 95))) := rfl
  have hl := letter_any c
  have hd := digit_any c
  cases h1 : letB c
  · rw [h1] at hl HW
    cases h2 : digB c
    · rw [h2] at hd HW
      by_cases h3 : c = 95
      · subst h3
        clear h1 h2
        have HL := Lib.hid hl
        have HD := Lib.hid hd
        clear hl hd
        go_enter Tryd.func28, Tryd.ntmps28
        go_wp2_with (first | (go_at_call 27; refine (HL.out _).mono ?_; rintro e w' ⟨rfl, rfl⟩) | (go_at_call 29; refine (HD.out _).mono ?_; rintro e w' ⟨rfl, rfl⟩))
        go_ret
        exact ⟨ret_bool HW.out.symm, rfl⟩
      · have h4 : ((c.toNat : Int) == 95) = false := by
          rw [beq_eq_false_iff_ne]
          exact fun e => h3 (byte_eq (by rw [e]; rfl))
        rw [decide_eq_false h3] at HW
        clear h1 h2 h3
        have HL := Lib.hid hl
        have HD := Lib.hid hd
        clear hl hd
        go_enter Tryd.func28, Tryd.ntmps28
        go_wp2_with (first | (go_at_call 27; refine (HL.out _).mono ?_; rintro e w' ⟨rfl, rfl⟩) | (go_at_call 29; refine (HD.out _).mono ?_; rintro e w' ⟨rfl, rfl⟩))
        go_ret
        exact ⟨ret_bool HW.out.symm, rfl⟩
    · rw [h2] at hd HW
      clear h1 h2
      have HL := Lib.hid hl
      have HD := Lib.hid hd
      clear hl hd
      go_enter Tryd.func28, Tryd.ntmps28
      go_wp2_with (first | (go_at_call 27; refine (HL.out _).mono ?_; rintro e w' ⟨rfl, rfl⟩) | (go_at_call 29; refine (HD.out _).mono ?_; rintro e w' ⟨rfl, rfl⟩))
      go_ret
      exact ⟨ret_bool HW.out.symm, rfl⟩
  · rw [h1] at hl HW
    clear h1 hd
    have HL := Lib.hid hl
    clear hl
    go_enter Tryd.func28, Tryd.ntmps28
    go_wp2_with (first | (go_at_call 27; refine (HL.out _).mono ?_; rintro e w' ⟨rfl, rfl⟩))
    go_ret
    exact ⟨ret_bool HW.out.symm, rfl⟩

theorem drop_at (l : List UInt8) (k : Nat) (b : UInt8) (h : l[k]? = some b) : l.drop k = b :: l.drop (k + 1) := by
  obtain ⟨hk, he⟩ := List.getElem?_eq_some_iff.1 h
  rw [List.drop_eq_getElem_cons hk, he]
theorem run_yes {f : UInt8 → Bool} {l : List UInt8} {k : Nat} {b : UInt8} {a : Nat} (h : l[k]? = some b) (hf : f b = true) (e : a = k + runN f (l.drop k)) : a = k + 1 + runN f (l.drop (k + 1)) := by
  rw [e, drop_at l k b h, runN_cons, if_pos hf]; omega
theorem run_no {f : UInt8 → Bool} {l : List UInt8} {k : Nat} {b : UInt8} {a : Nat} (h : l[k]? = some b) (hf : f b = false) (e : a = k + runN f (l.drop k)) : a = k := by
  rw [e, drop_at l k b h, runN_cons, if_neg (by rw [hf]; decide)]; omega
theorem run_end {f : UInt8 → Bool} {l : List UInt8} {k : Nat} {a : Nat} (h : l.length ≤ k) (e : a = k + runN f (l.drop k)) : a = k := by
  rw [e, List.drop_eq_nil_of_le h]; rfl
theorem run_bd (f : UInt8 → Bool) (l : List UInt8) (k : Nat) (h : k ≤ l.length) : k + runN f (l.drop k) ≤ l.length := by
  have := runN_le f (l.drop k)
  rw [List.length_drop] at this
  omega
set_option maxHeartbeats 800000 in
theorem run_nl (s : ByteArray) (a : Nat) (w : World) (ha : a ≤ s.size) (hs : s.size ≤ 1000000) :
    Calls Tryd.prog 25 #[.string s, .int .i64 a, .func (.func 26) #[] #[]] w fun e w' => e = .returned (.int .i64 ((a + runN notNl (s.data.toList.drop a) : Nat) : Int)) ∧ w = w' := by
  obtain ⟨R, hR⟩ : ∃ R, a + runN notNl (s.data.toList.drop a) = R := ⟨_, rfl⟩
  rw [hR]
  have HR := Lib.hid hR.symm
  clear hR
  go_enter Tryd.func25, Tryd.ntmps25
  go_wp2_with fail
  go_loop [1] (fun i => ∃ k : Nat, k ≤ s.size ∧ i = .int .i64 k ∧ Hid (R = k + runN notNl (s.data.toList.drop k))) (fun i => s.size - (intOf i).toNat)
  case atStart => exact ⟨a, ha, rfl, HR⟩
  case round =>
    clear HR
    obtain ⟨k, hk, rfl, HR⟩ := hrel
    by_cases hlt : k < s.size
    · obtain ⟨b, hbk⟩ := bat s k hlt
      have hat := str_at hlt hbk
      cases hf : notNl b
      · have HE := Lib.hid (run_no hbk hf HR.out)
        have HC := Lib.hid (fun W => by have := nl_any b W; rw [hf] at this; exact this)
        clear hbk hf HR
        go_wp2_with (go_at_call 26; refine (HC.out _).mono ?_; rintro e w' ⟨rfl, rfl⟩)
        go_ret
        exact ⟨by rw [HE.out]; rfl, rfl⟩
      · have HE := Lib.hid (run_yes hbk hf HR.out)
        have HC := Lib.hid (fun W => by have := nl_any b W; rw [hf] at this; exact this)
        clear hbk hf HR
        go_wp2_with (go_at_call 26; refine (HC.out _).mono ?_; rintro e w' ⟨rfl, rfl⟩)
        go_round
        case rel => exact ⟨k + 1, by omega, by go_num, HE⟩
        case measure => simp [intOf]; omega
    · have HE := Lib.hid (run_end (by rw [← size_list]; omega) HR.out)
      clear HR
      go_wp2_with fail
      go_ret
      exact ⟨by rw [HE.out]; rfl, rfl⟩
set_option maxHeartbeats 800000 in
theorem run_word (s : ByteArray) (a : Nat) (w : World) (ha : a ≤ s.size) (hs : s.size ≤ 1000000) :
    Calls Tryd.prog 25 #[.string s, .int .i64 a, .func (.func 28) #[] #[]] w fun e w' => e = .returned (.int .i64 ((a + runN wordB (s.data.toList.drop a) : Nat) : Int)) ∧ w = w' := by
  obtain ⟨R, hR⟩ : ∃ R, a + runN wordB (s.data.toList.drop a) = R := ⟨_, rfl⟩
  rw [hR]
  have HR := Lib.hid hR.symm
  clear hR
  go_enter Tryd.func25, Tryd.ntmps25
  go_wp2_with fail
  go_loop [1] (fun i => ∃ k : Nat, k ≤ s.size ∧ i = .int .i64 k ∧ Hid (R = k + runN wordB (s.data.toList.drop k))) (fun i => s.size - (intOf i).toNat)
  case atStart => exact ⟨a, ha, rfl, HR⟩
  case round =>
    clear HR
    obtain ⟨k, hk, rfl, HR⟩ := hrel
    by_cases hlt : k < s.size
    · obtain ⟨b, hbk⟩ := bat s k hlt
      have hat := str_at hlt hbk
      cases hf : wordB b
      · have HE := Lib.hid (run_no hbk hf HR.out)
        have HC := Lib.hid (fun W => by have := word_any b W; rw [hf] at this; exact this)
        clear hbk hf HR
        go_wp2_with (go_at_call 28; refine (HC.out _).mono ?_; rintro e w' ⟨rfl, rfl⟩)
        go_ret
        exact ⟨by rw [HE.out]; rfl, rfl⟩
      · have HE := Lib.hid (run_yes hbk hf HR.out)
        have HC := Lib.hid (fun W => by have := word_any b W; rw [hf] at this; exact this)
        clear hbk hf HR
        go_wp2_with (go_at_call 28; refine (HC.out _).mono ?_; rintro e w' ⟨rfl, rfl⟩)
        go_round
        case rel => exact ⟨k + 1, by omega, by go_num, HE⟩
        case measure => simp [intOf]; omega
    · have HE := Lib.hid (run_end (by rw [← size_list]; omega) HR.out)
      clear HR
      go_wp2_with fail
      go_ret
      exact ⟨by rw [HE.out]; rfl, rfl⟩
set_option maxHeartbeats 800000 in
theorem run_dig (s : ByteArray) (a : Nat) (w : World) (ha : a ≤ s.size) (hs : s.size ≤ 1000000) :
    Calls Tryd.prog 25 #[.string s, .int .i64 a, .func (.func 29) #[] #[]] w fun e w' => e = .returned (.int .i64 ((a + runN digB (s.data.toList.drop a) : Nat) : Int)) ∧ w = w' := by
  obtain ⟨R, hR⟩ : ∃ R, a + runN digB (s.data.toList.drop a) = R := ⟨_, rfl⟩
  rw [hR]
  have HR := Lib.hid hR.symm
  clear hR
  go_enter Tryd.func25, Tryd.ntmps25
  go_wp2_with fail
  go_loop [1] (fun i => ∃ k : Nat, k ≤ s.size ∧ i = .int .i64 k ∧ Hid (R = k + runN digB (s.data.toList.drop k))) (fun i => s.size - (intOf i).toNat)
  case atStart => exact ⟨a, ha, rfl, HR⟩
  case round =>
    clear HR
    obtain ⟨k, hk, rfl, HR⟩ := hrel
    by_cases hlt : k < s.size
    · obtain ⟨b, hbk⟩ := bat s k hlt
      have hat := str_at hlt hbk
      cases hf : digB b
      · have HE := Lib.hid (run_no hbk hf HR.out)
        have HC := Lib.hid (fun W => by have := digit_any b W; rw [hf] at this; exact this)
        clear hbk hf HR
        go_wp2_with (go_at_call 29; refine (HC.out _).mono ?_; rintro e w' ⟨rfl, rfl⟩)
        go_ret
        exact ⟨by rw [HE.out]; rfl, rfl⟩
      · have HE := Lib.hid (run_yes hbk hf HR.out)
        have HC := Lib.hid (fun W => by have := digit_any b W; rw [hf] at this; exact this)
        clear hbk hf HR
        go_wp2_with (go_at_call 29; refine (HC.out _).mono ?_; rintro e w' ⟨rfl, rfl⟩)
        go_round
        case rel => exact ⟨k + 1, by omega, by go_num, HE⟩
        case measure => simp [intOf]; omega
    · have HE := Lib.hid (run_end (by rw [← size_list]; omega) HR.out)
      clear HR
      go_wp2_with fail
      go_ret
      exact ⟨by rw [HE.out]; rfl, rfl⟩
theorem gap_one {l : List UInt8} {k : Nat} {b : UInt8} {a : Nat} (h : l[k]? = some b) (hf : wsB b = true) (e : a = k + gapN (l.drop k)) : a = k + 1 + gapN (l.drop (k + 1)) := by
  rw [e, drop_at l k b h, gap_ws hf]; omega
theorem gap_note {l : List UInt8} {k : Nat} {a : Nat} (h : l[k]? = some 35) (e : a = k + gapN (l.drop k)) : a = k + runN notNl (l.drop k) + gapN (l.drop (k + runN notNl (l.drop k))) := by
  rw [e, drop_at l k 35 h, gap_rem, runN_cons, if_pos (by decide), List.drop_drop]
  rw [show k + 1 + runN notNl (l.drop (k + 1)) = k + (runN notNl (l.drop (k + 1)) + 1) by omega]
  omega
theorem gap_stop {l : List UInt8} {k : Nat} {b : UInt8} {a : Nat} (h : l[k]? = some b) (hf : tokB b = true) (e : a = k + gapN (l.drop k)) : a = k := by
  rw [e, drop_at l k b h, gap_tok hf]; omega
theorem gap_fin {l : List UInt8} {k : Nat} {a : Nat} (h : l.length ≤ k) (e : a = k + gapN (l.drop k)) : a = k := by
  rw [e, List.drop_eq_nil_of_le h, gap_nil]; omega
theorem bne_byte {b : UInt8} {n : Nat} (hn : n < 256) (h : b ≠ UInt8.ofNat n) : ((b.toNat : Int) == (n : Int)) = false := by
  rw [beq_eq_false_iff_ne]
  intro e
  refine h (UInt8.toNat_inj.1 ?_)
  rw [UInt8.toNat_ofNat']
  omega
theorem tok_ne {b : UInt8} (h : tokB b = true) : ((b.toNat : Int) == 32) = false ∧ ((b.toNat : Int) == 9) = false ∧ ((b.toNat : Int) == 10) = false ∧ ((b.toNat : Int) == 35) = false := by
  unfold tokB wsB at h
  simp only [Bool.and_eq_true, Bool.not_eq_true', decide_eq_true_eq, decide_eq_false_iff_not] at h
  exact ⟨bne_byte (n := 32) (by decide) (fun e => h.1 (.inl e)), bne_byte (n := 9) (by decide) (fun e => h.1 (.inr (.inl e))), bne_byte (n := 10) (by decide) (fun e => h.1 (.inr (.inr e))), bne_byte (n := 35) (by decide) h.2⟩
theorem run_pos {l : List UInt8} {k : Nat} (h : l[k]? = some 35) : 1 ≤ runN notNl (l.drop k) := by
  rw [drop_at l k 35 h, runN_cons, if_pos (by decide)]; omega
set_option maxHeartbeats 1600000 in
theorem gap_any (s : ByteArray) (a : Nat) (w : World) (ha : a ≤ s.size) (hs : s.size ≤ 1000000) :
    Calls Tryd.prog 14 #[.string s, .int .i64 a] w fun e w' => e = .returned (.int .i64 ((a + gapN (s.data.toList.drop a) : Nat) : Int)) ∧ w = w' := by
  obtain ⟨R, hR⟩ : ∃ R, a + gapN (s.data.toList.drop a) = R := ⟨_, rfl⟩
  rw [hR]
  have HR := Lib.hid hR.symm
  clear hR
  go_enter Tryd.func14, Tryd.ntmps14
  go_wp2_with fail
  go_loop [1] (fun i => ∃ k : Nat, k ≤ s.size ∧ i = .int .i64 k ∧ Hid (R = k + gapN (s.data.toList.drop k))) (fun i => s.size - (intOf i).toNat)
  case atStart => exact ⟨a, ha, rfl, HR⟩
  case round =>
    clear HR
    obtain ⟨k, hk, rfl, HR⟩ := hrel
    by_cases hlt : k < s.size
    · obtain ⟨b, hbk⟩ := bat s k hlt
      have hat := str_at hlt hbk
      rcases byte_cases b with hw | rfl | ht
      · have HE := Lib.hid (gap_one hbk hw HR.out)
        have hw' : b = 32 ∨ b = 9 ∨ b = 10 := by unfold wsB at hw; exact of_decide_eq_true hw
        clear hbk hw HR
        rcases hw' with rfl | rfl | rfl
        all_goals
          go_wp2_with fail
          go_round
          case rel => exact ⟨k + 1, by omega, by go_num, HE⟩
          case measure => simp [intOf]; omega
      · have HE := Lib.hid (gap_note hbk HR.out)
        have hbd := run_bd notNl s.data.toList k (by rw [← size_list]; omega)
        rw [← size_list] at hbd
        have hp := run_pos hbk
        have HC := Lib.hid (fun W => run_nl s k W (by omega) hs)
        obtain ⟨m, hm⟩ : ∃ m, k + runN notNl (s.data.toList.drop k) = m := ⟨_, rfl⟩
        have hkm : k < m := by omega
        rw [hm] at HE hbd HC
        clear hbk hm hp HR
        go_wp2_with (go_at_call 25; refine (HC.out _).mono ?_; rintro e w' ⟨rfl, rfl⟩)
        go_round
        case rel => exact ⟨m, by omega, rfl, HE⟩
        case measure => simp [intOf]; omega
      · have HE := Lib.hid (gap_stop hbk ht HR.out)
        obtain ⟨t1, t2, t3, t4⟩ := tok_ne ht
        clear hbk ht HR
        go_wp2_with fail
        go_ret
        exact ⟨by rw [HE.out]; rfl, rfl⟩
    · have HE := Lib.hid (gap_fin (by rw [← size_list]; omega) HR.out)
      clear HR
      go_wp2_with fail
      go_ret
      exact ⟨by rw [HE.out]; rfl, rfl⟩
/-- Where a text between quotes ends, told as a place. -/
def resQ (k : Nat) (o : Option Nat) : Int := match o with | some n => ((k + n : Nat) : Int) | none => -1
theorem scan_esc {l : List UInt8} {k : Nat} (h : l[k]? = some 92) : resQ k (scanQ (l.drop k)) = resQ (k + 2) (scanQ (l.drop (k + 2))) := by
  rw [drop_at l k 92 h, scanQ_cons, if_pos rfl, show l.drop (k + 2) = (l.drop (k + 1)).drop 1 by rw [List.drop_drop]]
  cases l.drop (k + 1) with
  | nil => show resQ k none = resQ (k + 2) (scanQ []); rw [scanQ_nil]; rfl
  | cons c r =>
    simp only [List.drop_succ_cons, List.drop_zero]
    cases scanQ r with
    | none => rfl
    | some n => show ((k + (n + 2) : Nat) : Int) = ((k + 2 + n : Nat) : Int); omega
theorem scan_quote {l : List UInt8} {k : Nat} (h : l[k]? = some 34) : resQ k (scanQ (l.drop k)) = ((k + 1 : Nat) : Int) := by
  rw [drop_at l k 34 h, scanQ_cons, if_neg (by decide), if_pos rfl]; rfl
theorem scan_else {l : List UInt8} {k : Nat} {b : UInt8} (h : l[k]? = some b) (h1 : b ≠ 92) (h2 : b ≠ 34) : resQ k (scanQ (l.drop k)) = resQ (k + 1) (scanQ (l.drop (k + 1))) := by
  rw [drop_at l k b h, scanQ_cons, if_neg h1, if_neg h2]
  cases scanQ (l.drop (k + 1)) with
  | none => rfl
  | some n => show ((k + (n + 1) : Nat) : Int) = ((k + 1 + n : Nat) : Int); omega
theorem scan_fin {l : List UInt8} {k : Nat} (h : l.length ≤ k) : resQ k (scanQ (l.drop k)) = -1 := by
  rw [List.drop_eq_nil_of_le h, scanQ_nil]; rfl
set_option maxHeartbeats 1600000 in
theorem quoted_end (s : ByteArray) (a : Nat) (w : World) (ha : a < s.size) (hs : s.size ≤ 1000000) :
    Calls Tryd.prog 31 #[.string s, .int .i64 a] w fun e w' => e = .returned (.int .i64 (resQ (a + 1) (scanQ (s.data.toList.drop (a + 1))))) ∧ w = w' := by
  obtain ⟨R, hR⟩ : ∃ R, resQ (a + 1) (scanQ (s.data.toList.drop (a + 1))) = R := ⟨_, rfl⟩
  rw [hR]
  have HR := Lib.hid hR
  clear hR
  go_enter Tryd.func31, Tryd.ntmps31
  go_wp2_with fail
  go_loop [5] (fun i => ∃ k : Nat, k ≤ s.size + 1 ∧ i = .int .i64 k ∧ Hid (resQ k (scanQ (s.data.toList.drop k)) = R)) (fun i => s.size + 1 - (intOf i).toNat)
  case atStart => exact ⟨a + 1, by omega, by go_num, HR⟩
  case round =>
    clear HR
    obtain ⟨k, hk, rfl, HR⟩ := hrel
    by_cases hlt : k < s.size
    · obtain ⟨b, hbk⟩ := bat s k hlt
      have hat := str_at hlt hbk
      by_cases h1 : b = 92
      · subst h1
        have HE := Lib.hid ((scan_esc hbk).symm.trans HR.out)
        clear hbk HR
        go_wp2_with fail
        go_round
        case rel => exact ⟨k + 2, by omega, by go_num, HE⟩
        case measure => simp [intOf]; omega
      by_cases h2 : b = 34
      · subst h2
        have HE := Lib.hid ((scan_quote hbk).symm.trans HR.out)
        clear hbk HR h1
        go_wp2_with fail
        go_ret
        exact ⟨by rw [← HE.out]; rfl, rfl⟩
      · have HE := Lib.hid ((scan_else hbk h1 h2).symm.trans HR.out)
        have t1 := bne_byte (n := 92) (by decide) h1
        have t2 := bne_byte (n := 34) (by decide) h2
        clear hbk HR h1 h2
        go_wp2_with fail
        go_round
        case rel => exact ⟨k + 1, by omega, by go_num, HE⟩
        case measure => simp [intOf]; omega
    · have HE := Lib.hid ((scan_fin (by rw [← size_list]; omega)).symm.trans HR.out)
      clear HR
      go_wp2_with fail
      go_ret
      exact ⟨by rw [← HE.out]; rfl, rfl⟩
end Go.Proofs.YtpfgfejcaofjiaaDoor.Lx
