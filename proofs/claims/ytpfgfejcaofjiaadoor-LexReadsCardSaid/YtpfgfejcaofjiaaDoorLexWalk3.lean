/- Walks: the token at a place, a sign; all together. -/
import Derived.Test.YtpfgfejcaofjiaaDoorLexWalk2
set_option linter.unusedVariables false
set_option linter.unusedSimpArgs false
namespace Go.Proofs.YtpfgfejcaofjiaaDoor.Lx
open Go.RowKit Go Ba Va

theorem prefix_is (s p : ByteArray) (w : World) : Calls Tryd.prog 33 #[.string s, .string p] w fun e w' => e = .returned (.bool (Lib.hasPrefix s.data.toList p.data.toList)) ∧ w = w' :=
  (Tryd.strings_HasPrefix s p w).mono fun _ _ ⟨h1, h2⟩ => ⟨h1, h2.symm⟩
theorem find_at {p : List UInt8 → Bool} {k : Nat} (hk : k < 18) : (sgL.drop k).find? p = if p (sgL.getD k []) = true then some (sgL.getD k []) else (sgL.drop (k + 1)).find? p := by
  have hl : k < sgL.length := hk
  rw [List.drop_eq_getElem_cons hl, List.find?_cons, show sgL.getD k [] = sgL[k] by simp [List.getD, hl]]
  cases p sgL[k] <;> rfl
theorem find_none {p : List UInt8 → Bool} : (sgL.drop 18).find? p = none := rfl
def sgSize (k : Nat) : Nat := (sgL.getD k []).length
theorem sgB_size (k : Nat) : (sgB k).size = sgSize k := str_size _
theorem sgSize_bd : ∀ k : Nat, k < 18 → sgSize k ≤ 2 := by decide
theorem cells18 {w : World} (h : ∀ j, j < 18 → w.cell? ⟨0, j, none⟩ = some (.string (sgB j))) :
    w.cell? ⟨0, 0, none⟩ = some (.string ⟨#[33, 61]⟩) ∧ w.cell? ⟨0, 1, none⟩ = some (.string ⟨#[60, 61]⟩) ∧ w.cell? ⟨0, 2, none⟩ = some (.string ⟨#[62, 61]⟩) ∧ w.cell? ⟨0, 3, none⟩ = some (.string ⟨#[46, 46]⟩) ∧ w.cell? ⟨0, 4, none⟩ = some (.string ⟨#[40]⟩) ∧ w.cell? ⟨0, 5, none⟩ = some (.string ⟨#[41]⟩) ∧ w.cell? ⟨0, 6, none⟩ = some (.string ⟨#[44]⟩) ∧ w.cell? ⟨0, 7, none⟩ = some (.string ⟨#[59]⟩) ∧ w.cell? ⟨0, 8, none⟩ = some (.string ⟨#[58]⟩) ∧ w.cell? ⟨0, 9, none⟩ = some (.string ⟨#[124]⟩) ∧ w.cell? ⟨0, 10, none⟩ = some (.string ⟨#[43]⟩) ∧ w.cell? ⟨0, 11, none⟩ = some (.string ⟨#[45]⟩) ∧ w.cell? ⟨0, 12, none⟩ = some (.string ⟨#[42]⟩) ∧ w.cell? ⟨0, 13, none⟩ = some (.string ⟨#[47]⟩) ∧ w.cell? ⟨0, 14, none⟩ = some (.string ⟨#[37]⟩) ∧ w.cell? ⟨0, 15, none⟩ = some (.string ⟨#[61]⟩) ∧ w.cell? ⟨0, 16, none⟩ = some (.string ⟨#[60]⟩) ∧ w.cell? ⟨0, 17, none⟩ = some (.string ⟨#[62]⟩) :=
  ⟨h 0 (by decide), h 1 (by decide), h 2 (by decide), h 3 (by decide), h 4 (by decide), h 5 (by decide), h 6 (by decide), h 7 (by decide), h 8 (by decide), h 9 (by decide), h 10 (by decide), h 11 (by decide), h 12 (by decide), h 13 (by decide), h 14 (by decide), h 15 (by decide), h 16 (by decide), h 17 (by decide)⟩
set_option maxHeartbeats 3200000 in
theorem next_sign (s : ByteArray) (a : Nat) (c : UInt8) (w : World) (ha : a < s.size) (hs : s.size ≤ 20000) (hc : s.data.toList[a]? = some c) (h1 : letB c = false) (h2 : digB c = false) (h3 : c ≠ 34) (X : List UInt8) (hf : sgL.find? (fun x => Lib.hasPrefix (s.data.toList.drop a) x) = some X) (hE : EnvL w) :
    Calls Tryd.prog 15 #[.string s, .int .i64 (a : Int)] w fun e w' => e = .returned (nextV a (.ok 4 X 0 X.length)) ∧ Below w.heap.size w w' := by
  have hat := str_at ha hc
  have HL := Lib.hid (fun W => by have := letter_any c W; rw [h1] at this; exact this)
  have HD := Lib.hid (fun W => by have := digit_any c W; rw [h2] at this; exact this)
  have t34 : ((c.toNat : Int) == 34) = false := bne_byte (n := 34) (by decide) h3
  have HE := Lib.hid hE
  have hpf := fun x W => prefix_is (s.extract a s.size) x W
  have hde : (s.extract a s.size).data.toList = s.data.toList.drop a := by
    rw [Lib.extract_data, List.take_of_length_le]
    rw [List.length_drop, ← size_list]; omega
  rw [hde] at hpf
  have HPF := Lib.hid hpf
  have HF := Lib.hid hf
  obtain ⟨c0, c1, c2, c3, c4, c5, c6, c7, c8, c9, c10, c11, c12, c13, c14, c15, c16, c17⟩ := cells18 (w := w.alloc (.cells #[.int .i64 0, .string ⟨#[]⟩, .int .i64 0, .int .i64 (a : Int)] 33)) (HE.out.below (by go_grown)).sg
  clear hpf hde hf hc h1 h2 h3 hE
  go_enter Tryd.func15, Tryd.ntmps15
  go_wp2_with (first | (go_at_call 27; refine (HL.out _).mono ?_; rintro e w' ⟨rfl, rfl⟩) | (go_at_call 29; refine (HD.out _).mono ?_; rintro e w' ⟨rfl, rfl⟩) | (go_at_call 25; refine (HRUN.out _).mono ?_; rintro e w' ⟨rfl, rfl⟩) | (go_at_call 31; refine (HQ.out _).mono ?_; rintro e w' ⟨rfl, rfl⟩))
  clear c0 c1 c2 c3 c4 c5 c6 c7 c8 c9 c10 c11 c12 c13 c14 c15 c16 c17
  generalize hW0 : w.alloc (.cells #[.int .i64 0, .string ⟨#[]⟩, .int .i64 0, .int .i64 (a : Int)] 33) = W0
  have V := Box.new w [.int .i64 0, .string ⟨#[]⟩, .int .i64 0, .int .i64 (a : Int)] 33
  have bw : Below w.heap.size w (w.alloc (.cells #[.int .i64 0, .string ⟨#[]⟩, .int .i64 0, .int .i64 (a : Int)] 33)) := by go_grown
  rw [hW0] at V bw
  clear hW0
  go_loop [20] (fun i => ∃ k : Nat, k ≤ 18 ∧ i = .int .i64 k ∧ Hid ((sgL.drop k).find? (fun x => Lib.hasPrefix (s.data.toList.drop a) x) = some X)) (fun i => 18 - (intOf i).toNat)
  case atStart => exact ⟨0, by omega, rfl, HF⟩
  case round =>
    clear HF
    obtain ⟨k, hk, rfl, HF⟩ := hrel
    by_cases hlt : k < 18
    · have hix := sgAt k hlt
      have hfk := find_at (p := fun x => Lib.hasPrefix (s.data.toList.drop a) x) hlt
      have hb2 := sgSize_bd k hlt
      have hq := HPF.out (sgB k)
      rw [sgB_data] at hq
      by_cases hp : Lib.hasPrefix (s.data.toList.drop a) (sgL.getD k []) = true
      · rw [if_pos hp] at hfk
        have HX := Lib.hid (hfk.symm.trans HF.out)
        rw [hp] at hq
        have HQ2 := Lib.hid hq
        clear hq hp hfk HF
        obtain ⟨B, hB⟩ : ∃ B : ByteArray, sgB k = B := ⟨_, rfl⟩
        have hBs : B.size ≤ 2 := by rw [← hB, sgB_size]; exact hb2
        have hBX : (⟨X.toArray⟩ : ByteArray) = B ∧ B.size = X.length := by
          have e := HX.out
          injection e with e
          rw [← hB, ← e]
          exact ⟨rfl, str_size _⟩
        have HNV : Hid (nextV a (.ok 4 X 0 X.length) = .tuple #[.agg #[.int .i64 4, .string B, .int .i64 0, .int .i64 (a : Int)], .int .i64 ((a : Int) + (B.size : Int)), .int .i64 0]) := by
          show nextV a (.ok 4 X 0 X.length) = _
          rw [← hBX.1, str_size]
          show Value.tuple #[.agg #[.int .i64 4, .string ⟨X.toArray⟩, .int .i64 0, .int .i64 (a : Int)], .int .i64 ((a + X.length : Nat) : Int), .int .i64 0] = _
          rw [show ((a + X.length : Nat) : Int) = (a : Int) + (X.length : Int) by omega]
        rw [hB] at hix HQ2
        have HIX := Lib.hid hB
        clear hB hBX hb2
        obtain ⟨v0, v1, v2, v3, g0, g1, g2, g3⟩ := four V
        have V' : Box ((W0.setCell ⟨w.heap.size, 0, none⟩ (.int .i64 4)).setCell ⟨w.heap.size, 1, none⟩ (.string B)) w.heap.size [.int .i64 4, .string B, .int .i64 0, .int .i64 (a : Int)] := (V.put 0 (.int .i64 4)).put 1 (.string B)
        have bw' := bput2 bw (Nat.le_refl _) 0 1 (.int .i64 4) (.string B)
        have V'' := put4 V' (.int .i64 4) (.string B) (.int .i64 0) (.int .i64 (a : Int))
        have bw'' := bput4 bw' (Nat.le_refl _) (.int .i64 4) (.string B) (.int .i64 0) (.int .i64 (a : Int))
        go_wp2_with (go_at_call 33; refine (HQ2.out _).mono ?_; rintro e w' ⟨rfl, rfl⟩)
        clear v0 v1 v2 v3 g0 g1 g2 g3
        generalize ((((((W0.setCell ⟨w.heap.size, 0, none⟩ (.int .i64 4)).setCell ⟨w.heap.size, 1, none⟩ (.string B)).setCell ⟨w.heap.size, 0, none⟩ (.int .i64 4)).setCell ⟨w.heap.size, 1, none⟩ (.string B)).setCell ⟨w.heap.size, 2, none⟩ (.int .i64 0)).setCell ⟨w.heap.size, 3, none⟩ (.int .i64 (a : Int))) = W2 at V'' bw'' ⊢
        obtain ⟨v0, v1, v2, v3, g0, g1, g2, g3⟩ := four V''
        try simp only [Exit.inBlock, Exit.then]
        refine bodyPost_ret (by simp [results, Tryd.results15, go_sem, v0, v1, v2, v3]; try rfl) rfl ?_
        exact ⟨by rw [HNV.out], bw''⟩
      · rw [if_neg hp] at hfk
        have HX := Lib.hid (hfk.symm.trans HF.out)
        rw [Bool.not_eq_true _ |>.mp hp] at hq
        have HQ2 := Lib.hid hq
        clear hq hp hfk HF
        go_wp2_with (go_at_call 33; refine (HQ2.out _).mono ?_; rintro e w' ⟨rfl, rfl⟩)
        go_round
        case rel => exact ⟨k + 1, by omega, by go_num, HX⟩
        case measure => simp [intOf]; omega
    · obtain rfl : k = 18 := by omega
      have := HF.out
      rw [find_none] at this
      cases this
set_option maxHeartbeats 3200000 in
theorem next_none (s : ByteArray) (a : Nat) (c : UInt8) (w : World) (ha : a < s.size) (hs : s.size ≤ 20000) (hc : s.data.toList[a]? = some c) (h1 : letB c = false) (h2 : digB c = false) (h3 : c ≠ 34) (hf : sgL.find? (fun x => Lib.hasPrefix (s.data.toList.drop a) x) = none) (hE : EnvL w) :
    Calls Tryd.prog 15 #[.string s, .int .i64 (a : Int)] w fun e w' => e = .returned (nextV a (.err 50)) ∧ Below w.heap.size w w' := by
  have hat := str_at ha hc
  have HL := Lib.hid (fun W => by have := letter_any c W; rw [h1] at this; exact this)
  have HD := Lib.hid (fun W => by have := digit_any c W; rw [h2] at this; exact this)
  have t34 : ((c.toNat : Int) == 34) = false := bne_byte (n := 34) (by decide) h3
  have HE := Lib.hid hE
  have hpf := fun x W => prefix_is (s.extract a s.size) x W
  have hde : (s.extract a s.size).data.toList = s.data.toList.drop a := by
    rw [Lib.extract_data, List.take_of_length_le]
    rw [List.length_drop, ← size_list]; omega
  rw [hde] at hpf
  have HPF := Lib.hid hpf
  have HF := Lib.hid hf
  obtain ⟨c0, c1, c2, c3, c4, c5, c6, c7, c8, c9, c10, c11, c12, c13, c14, c15, c16, c17⟩ := cells18 (w := w.alloc (.cells #[.int .i64 0, .string ⟨#[]⟩, .int .i64 0, .int .i64 (a : Int)] 33)) (HE.out.below (by go_grown)).sg
  clear hpf hde hf hc h1 h2 h3 hE
  go_enter Tryd.func15, Tryd.ntmps15
  go_wp2_with (first | (go_at_call 27; refine (HL.out _).mono ?_; rintro e w' ⟨rfl, rfl⟩) | (go_at_call 29; refine (HD.out _).mono ?_; rintro e w' ⟨rfl, rfl⟩) | (go_at_call 25; refine (HRUN.out _).mono ?_; rintro e w' ⟨rfl, rfl⟩) | (go_at_call 31; refine (HQ.out _).mono ?_; rintro e w' ⟨rfl, rfl⟩))
  clear c0 c1 c2 c3 c4 c5 c6 c7 c8 c9 c10 c11 c12 c13 c14 c15 c16 c17
  generalize hW0 : w.alloc (.cells #[.int .i64 0, .string ⟨#[]⟩, .int .i64 0, .int .i64 (a : Int)] 33) = W0
  have V := Box.new w [.int .i64 0, .string ⟨#[]⟩, .int .i64 0, .int .i64 (a : Int)] 33
  have bw : Below w.heap.size w (w.alloc (.cells #[.int .i64 0, .string ⟨#[]⟩, .int .i64 0, .int .i64 (a : Int)] 33)) := by go_grown
  rw [hW0] at V bw
  clear hW0
  go_loop [20] (fun i => ∃ k : Nat, k ≤ 18 ∧ i = .int .i64 k ∧ Hid ((sgL.drop k).find? (fun x => Lib.hasPrefix (s.data.toList.drop a) x) = none)) (fun i => 18 - (intOf i).toNat)
  case atStart => exact ⟨0, by omega, rfl, HF⟩
  case round =>
    clear HF
    obtain ⟨k, hk, rfl, HF⟩ := hrel
    by_cases hlt : k < 18
    · have hix := sgAt k hlt
      have hfk := find_at (p := fun x => Lib.hasPrefix (s.data.toList.drop a) x) hlt
      have hb2 := sgSize_bd k hlt
      have hq := HPF.out (sgB k)
      rw [sgB_data] at hq
      by_cases hp : Lib.hasPrefix (s.data.toList.drop a) (sgL.getD k []) = true
      · rw [if_pos hp] at hfk
        have HX := Lib.hid (hfk.symm.trans HF.out)
        rw [hp] at hq
        have HQ2 := Lib.hid hq
        clear hq hp hfk HF
        have := HX.out
        cases this
      · rw [if_neg hp] at hfk
        have HX := Lib.hid (hfk.symm.trans HF.out)
        rw [Bool.not_eq_true _ |>.mp hp] at hq
        have HQ2 := Lib.hid hq
        clear hq hp hfk HF
        go_wp2_with (go_at_call 33; refine (HQ2.out _).mono ?_; rintro e w' ⟨rfl, rfl⟩)
        go_round
        case rel => exact ⟨k + 1, by omega, by go_num, HX⟩
        case measure => simp [intOf]; omega
    · obtain rfl : k = 18 := by omega
      obtain ⟨v0, v1, v2, v3, g0, g1, g2, g3⟩ := four V
      have V' := put4 V (.int .i64 0) (.string ⟨#[]⟩) (.int .i64 0) (.int .i64 (a : Int))
      have bw' := bput4 bw (Nat.le_refl _) (.int .i64 0) (.string ⟨#[]⟩) (.int .i64 0) (.int .i64 (a : Int))
      go_wp2_with (first | (go_at_call 27; refine (HL.out _).mono ?_; rintro e w' ⟨rfl, rfl⟩) | (go_at_call 29; refine (HD.out _).mono ?_; rintro e w' ⟨rfl, rfl⟩) | (go_at_call 25; refine (HRUN.out _).mono ?_; rintro e w' ⟨rfl, rfl⟩) | (go_at_call 31; refine (HQ.out _).mono ?_; rintro e w' ⟨rfl, rfl⟩))
      clear v0 v1 v2 v3 g0 g1 g2 g3
      generalize ((((W0.setCell ⟨w.heap.size, 0, none⟩ (.int .i64 0)).setCell ⟨w.heap.size, 1, none⟩ (.string ⟨#[]⟩)).setCell ⟨w.heap.size, 2, none⟩ (.int .i64 0)).setCell ⟨w.heap.size, 3, none⟩ (.int .i64 (a : Int))) = W2 at V' bw' ⊢
      obtain ⟨v0, v1, v2, v3, g0, g1, g2, g3⟩ := four V'
      try simp only [Exit.inBlock, Exit.then]
      refine bodyPost_ret (by simp [results, Tryd.results15, go_sem, v0, v1, v2, v3]; try rfl) rfl ?_
      first | exact ⟨rfl, bw'⟩ | exact ⟨rfl, bw'.drew⟩

/-- The token at a place where one begins. -/
theorem next_is (s : ByteArray) (a : Nat) (c : UInt8) (w : World) (ha : a < s.size) (hs : s.size ≤ 20000) (hc : s.data.toList[a]? = some c) (hE : EnvL w) :
    Calls Tryd.prog 15 #[.string s, .int .i64 (a : Int)] w fun e w' => e = .returned (nextV a (tok1 (s.data.toList.drop a))) ∧ Below w.heap.size w w' := by
  have hd := drop_at _ a c hc
  obtain ⟨l, hl⟩ : ∃ l, s.data.toList.drop a = l := ⟨_, rfl⟩
  have ht : tok1 (s.data.toList.drop a) = tok1 (c :: s.data.toList.drop (a + 1)) := by rw [hd]
  by_cases h1 : letB c = true
  · by_cases h3 : runN wordB (s.data.toList.drop a) ≤ 16
    · have e : tok1 (s.data.toList.drop a) = .ok 1 ((s.data.toList.drop a).take (runN wordB (s.data.toList.drop a))) 0 (runN wordB (s.data.toList.drop a)) := by
        rw [hd] at h3 ⊢
        show (if letB c = true then _ else _) = _
        rw [if_pos h1, if_neg (by omega)]
      rw [e]
      exact next_word s a c w ha hs hc h1 h3
    · have e : tok1 (s.data.toList.drop a) = .err 50 := by
        rw [hd] at h3 ⊢
        show (if letB c = true then _ else _) = _
        rw [if_pos h1, if_pos (by omega)]
      rw [e]
      exact next_word_no s a c w ha hs hc h1 (by omega)
  have h1' : letB c = false := by simpa using h1
  by_cases h2 : digB c = true
  · by_cases h0 : c = 48 ∧ 1 < runN digB (s.data.toList.drop a)
    · have e : tok1 (s.data.toList.drop a) = .err 50 := by
        have h0' := h0
        rw [hd] at h0' ⊢
        show (if letB c = true then _ else if digB c = true then _ else _) = _
        rw [if_neg h1, if_pos h2, if_pos h0']
      rw [e]
      exact next_zero s a c w ha hs hc h1' h2 h0.1 h0.2
    · by_cases h3 : decV 0 ((s.data.toList.drop a).take (runN digB (s.data.toList.drop a))) ≤ 9223372036854775807
      · have e : tok1 (s.data.toList.drop a) = .ok 2 [] (decV 0 ((s.data.toList.drop a).take (runN digB (s.data.toList.drop a))) : Nat) (runN digB (s.data.toList.drop a)) := by
          have h0' := h0
          rw [hd] at h0' h3 ⊢
          show (if letB c = true then _ else if digB c = true then _ else _) = _
          rw [if_neg h1, if_pos h2, if_neg h0', if_pos h3]
        rw [e]
        exact next_num s a c w ha hs hc h1' h2 h0 h3 hE
      · have e : tok1 (s.data.toList.drop a) = .err 10 := by
          have h0' := h0
          rw [hd] at h0' h3 ⊢
          show (if letB c = true then _ else if digB c = true then _ else _) = _
          rw [if_neg h1, if_pos h2, if_neg h0', if_neg h3]
        rw [e]
        exact next_over s a c w ha hs hc h1' h2 h0 h3 hE
  have h2' : digB c = false := by simpa using h2
  by_cases h34 : c = 34
  · have hq : tok1 (s.data.toList.drop a) = match qTok (s.data.toList.drop (a + 1)) with | some (t, n) => .ok 3 t 0 n | none => .err 50 := by
      rw [hd]
      show (if letB c = true then _ else if digB c = true then _ else if c = 34 then _ else _) = _
      rw [if_neg h1, if_neg h2, if_pos h34]
      cases qTok (s.data.toList.drop (a + 1)) <;> rfl
    cases h3 : scanQ (s.data.toList.drop (a + 1)) with
    | none =>
      rw [qTok_none h3] at hq
      rw [hq]
      exact next_open s a c w ha hs hc h34 h3
    | some n =>
      rcases qTok_parse h3 with ⟨t, h4, h5⟩ | ⟨h4, h5⟩
      · rw [h4] at hq
        rw [hq]
        exact next_text s a c w ha hs hc h34 n h3 t h5 hE
      · rw [h4] at hq
        rw [hq]
        exact next_bad s a c w ha hs hc h34 n h3 h5 hE
  have hf := first_sign (s.data.toList.drop a) (by rw [hd]; simp)
  have hq : tok1 (s.data.toList.drop a) = if signN (s.data.toList.drop a) = 0 then .err 50 else .ok 4 ((s.data.toList.drop a).take (signN (s.data.toList.drop a))) 0 (signN (s.data.toList.drop a)) := by
    rw [hd]
    show (if letB c = true then _ else if digB c = true then _ else if c = 34 then _ else _) = _
    rw [if_neg h1, if_neg h2, if_neg h34]
  by_cases h0 : signN (s.data.toList.drop a) = 0
  · rw [if_pos h0] at hf hq
    rw [hq]
    exact next_none s a c w ha hs hc h1' h2' h34 hf hE
  · rw [if_neg h0] at hf hq
    have hl2 : ((s.data.toList.drop a).take (signN (s.data.toList.drop a))).length = signN (s.data.toList.drop a) := by
      rw [List.length_take]
      have := (signN_le (s.data.toList.drop a)).1
      omega
    have := next_sign s a c w ha hs hc h1' h2' h34 _ hf hE
    rw [hl2] at this
    rw [hq]
    exact this
end Go.Proofs.YtpfgfejcaofjiaaDoor.Lx
