/- The laws on texts of values. -/
import Derived.Test.YtedpgeilamhipaaDoorTextWalk3
import Derived.Test.YtedpgeilamhipaaDoorValWalk10
set_option linter.unusedVariables false
set_option linter.unusedSimpArgs false
namespace Go.Proofs.YtedpgeilamhipaaDoor.Va
open Go.RowKit Go Ba

theorem show_len {k n : Int} {s : ByteArray} (h0 : -9223372036854775808 ≤ n) (h1 : n ≤ 9223372036854775807) : (showL k n s).length ≤ 20000 := by
  unfold showL
  split
  · rename_i hr
    have := (right_text hr).2
    split
    · decide
    · split
      · have := Lib.itoa_length_le n h0 h1; omega
      · unfold quotedL
        have := esc_len s.data.toList
        rw [← size_list] at this
        simp; omega
  · simp
theorem cand_facts {l : List UInt8} {k n : Int} {t : List UInt8} (h : candV l = some (k, n, t)) : l ≠ [] ∧ -9223372036854775808 ≤ n ∧ n ≤ 9223372036854775807 := by
  unfold candV at h
  split at h
  · rename_i hn
    simp only [Option.some.injEq, Prod.mk.injEq] at h
    obtain ⟨rfl, rfl, rfl⟩ := h
    exact ⟨by rw [hn]; simp [nullL], by decide, by decide⟩
  · split at h
    · rename_i hq
      simp only [Option.some.injEq, Prod.mk.injEq] at h
      obtain ⟨rfl, rfl, rfl⟩ := h
      refine ⟨?_, by decide, by decide⟩
      rintro rfl
      revert hq; decide
    · cases ha : Lib.atoiAll l with
      | ok v =>
        rw [ha] at h
        simp only [Option.some.injEq, Prod.mk.injEq] at h
        obtain ⟨rfl, rfl, rfl⟩ := h
        obtain ⟨a, b⟩ := Lib.atoiAll_bounds ha
        refine ⟨?_, a, b⟩
        rintro rfl
        cases ha
      | _ => rw [ha] at h; cases h
set_option maxRecDepth 100000 in
set_option maxHeartbeats 1600000 in
theorem shows_law (k n : Int) (s : ByteArray) (w : World) (hs : s.size ≤ 9223372036854775807) (n0 : -9223372036854775808 ≤ n) (n1 : n ≤ 9223372036854775807) (hE : Env w) (hR : Errs w) :
    Calls Tryd.prog 10 #[.agg #[.int .i64 k, .int .i64 n, .string s]] w fun e w' => e = .returned (.bool true) ∧ Below w.heap.size w w' := by
  have HE := Lib.hid hE
  have HRR := Lib.hid hR
  have b0 : Below w.heap.size w (w.alloc (.cells #[.int .i64 k, .int .i64 n, .string s] 23)) := by go_grown
  have V := Box.new w [.int .i64 k, .int .i64 n, .string s] 23
  clear hE hR
  by_cases hl : 200 < s.size
  · go_enter Tryd.func10, Tryd.ntmps10
    go_wp2_with fail
    refine (awake_any _ (HE.out.below b0)).mono ?_
    rintro e w9 ⟨rfl, hb9⟩
    go_wp2_with fail
    go_ret
    exact ⟨rfl, two b0 hb9⟩
  cases hr : rightB k n s
  · have hS : showL k n s = [] := by unfold showL; rw [hr]; rfl
    have hsa := fun W h => show_any k n s W hs n0 n1 h
    rw [hS] at hsa
    have HSA := Lib.hid hsa
    have RA := Lib.hid hr
    clear hsa hS hr
    go_enter Tryd.func10, Tryd.ntmps10
    go_wp2_with fail
    refine (HSA.out _ (HE.out.below b0)).mono ?_
    rintro e w1 ⟨rfl, hb⟩
    have V := V.next hb
    have b1 := two b0 hb
    clear hb
    obtain ⟨x0, x1, x2, p0, p1, p2⟩ := V.three
    go_wp2_with fail
    refine (lawRight_any k n s _ hs false RA.out).mono ?_
    rintro e w2 ⟨rfl, hb⟩
    have b2 := two b1 hb
    clear hb x0 x1 x2 p0 p1 p2
    go_wp2_with fail
    refine (awake_any _ (HE.out.below b2)).mono ?_
    rintro e w9 ⟨rfl, hb9⟩
    go_wp2_with fail
    go_ret
    exact ⟨rfl, two b2 hb9⟩
  · obtain ⟨x, hx⟩ : ∃ x : ByteArray, x = ⟨(showL k n s).toArray⟩ := ⟨_, rfl⟩
    have hsa := fun W h => show_any k n s W hs n0 n1 h
    have hra := fun W => refShow_any k n s W hr n0 n1
    have hpa := fun W h1 h2 => parse_is x k n s 0 W (by rw [hx]; exact parses_show hr n0 n1) (by rw [hx, str_size]; exact show_len n0 n1) h1 h2
    rw [← hx] at hsa hra
    have HSA := Lib.hid hsa
    have HRA := Lib.hid hra
    have HPA := Lib.hid hpa
    have RA := Lib.hid hr
    have heq := val_eq k n s k n s true (by simp)
    clear hsa hra hpa hr hx
    go_enter Tryd.func10, Tryd.ntmps10
    go_wp2_with fail
    refine (HSA.out _ (HE.out.below b0)).mono ?_
    rintro e w1 ⟨rfl, hb⟩
    have V := V.next hb
    have b1 := two b0 hb
    clear hb
    obtain ⟨x0, x1, x2, p0, p1, p2⟩ := V.three
    go_wp2_with fail
    refine (lawRight_any k n s _ hs true RA.out).mono ?_
    rintro e w2 ⟨rfl, hb⟩
    have V := V.next hb
    have b2 := two b1 hb
    clear hb x0 x1 x2 p0 p1 p2
    go_wp2_with fail
    refine (HPA.out _ (HE.out.below b2) (HRR.out.below b2)).mono ?_
    rintro e w3 ⟨rfl, hb⟩
    have V := V.next hb
    have b3 := two b2 hb
    clear hb
    have hz : w.heap.size < w3.heap.size := V.lt
    have V := V.alloc (.cells #[.int .i64 k, .int .i64 n, .string s] 23)
    have U := Box.new w3 [.int .i64 k, .int .i64 n, .string s] 23
    have b4 := b3.alloc (Nat.le_of_lt hz) (.cells #[.int .i64 k, .int .i64 n, .string s] 23)
    obtain ⟨x0, x1, x2, p0, p1, p2⟩ := V.three
    go_wp2_with fail
    refine (ref01_any k n s _).mono ?_
    rintro e w5 ⟨rfl, hb⟩
    have V := V.next hb
    have U := U.next hb
    have b5 := two b4 hb
    clear hb x0 x1 x2 p0 p1 p2
    go_wp2_with fail
    refine (HRA.out _).mono ?_
    rintro e w6 ⟨rfl, hb⟩
    have V := V.next hb
    have U := U.next hb
    have b6 := two b5 hb
    clear hb
    obtain ⟨x0, x1, x2, p0, p1, p2⟩ := V.three
    obtain ⟨y0, y1, y2, o0, o1, o2⟩ := U.three
    go_wp2_with fail
    refine (awake_any _ (HE.out.below b6)).mono ?_
    rintro e w9 ⟨rfl, hb9⟩
    clear x0 x1 x2 p0 p1 p2 y0 y1 y2 o0 o1 o2
    go_wp2_with fail
    go_ret
    exact ⟨rfl, two b6 hb9⟩
set_option maxRecDepth 100000 in
set_option maxHeartbeats 1600000 in
theorem parses_law (s : ByteArray) (w : World) (hE : Env w) (hR : Errs w) :
    Calls Tryd.prog 11 #[.string s] w fun e w' => e = .returned (.bool true) ∧ Below w.heap.size w w' := by
  have HE := Lib.hid hE
  have HRR := Lib.hid hR
  clear hE hR
  by_cases hl : 300 < s.size
  · go_enter Tryd.func11, Tryd.ntmps11
    go_wp2_with fail
    refine (awake_any _ HE.out).mono ?_
    rintro e w9 ⟨rfl, hb9⟩
    go_wp2_with fail
    go_ret
    exact ⟨rfl, hb9⟩
  obtain ⟨k, n, t0, er, hp⟩ := parses_ex s.data.toList
  obtain ⟨t, rfl⟩ : ∃ t : ByteArray, t0 = t.data.toList := ⟨⟨t0.toArray⟩, by simp⟩
  have HPA := Lib.hid (fun W h1 h2 => parse_is s k n t er W hp (by omega) h1 h2)
  rcases hp with ⟨rfl, hc, hsh⟩ | ⟨rfl, rfl, rfl, ht, _⟩
  · obtain ⟨hne, n0, n1⟩ := cand_facts hc
    rw [list_eta] at hsh
    have hr := show_right hsh hne
    have h64 := (right_text hr).2
    have hra := fun W => refShow_any k n t W hr n0 n1
    rw [hsh, list_eta] at hra
    have HRA := Lib.hid hra
    have RA := Lib.hid hr
    clear hc hsh hne hr hra
    go_enter Tryd.func11, Tryd.ntmps11
    go_wp2_with fail
    refine (HPA.out _ HE.out HRR.out).mono ?_
    rintro e w3 ⟨rfl, b3⟩
    have hz := b3.size
    have U := Box.new w3 [.int .i64 k, .int .i64 n, .string t] 23
    have b4 := b3.alloc hz (.cells #[.int .i64 k, .int .i64 n, .string t] 23)
    go_wp2_with fail
    refine (lawRight_any k n t _ (by omega) true RA.out).mono ?_
    rintro e w5 ⟨rfl, hb⟩
    have U := U.next hb
    have b5 := two b4 hb
    clear hb
    obtain ⟨y0, y1, y2, o0, o1, o2⟩ := U.three
    go_wp2_with fail
    refine (ref01_any k n t _).mono ?_
    rintro e w6 ⟨rfl, hb⟩
    have b6 := two b5 hb
    clear hb y0 y1 y2 o0 o1 o2
    go_wp2_with fail
    refine (HRA.out _).mono ?_
    rintro e w7 ⟨rfl, hb⟩
    have b7 := two b6 hb
    clear hb
    go_wp2_with fail
    refine (awake_any _ (HE.out.below b7)).mono ?_
    rintro e w9 ⟨rfl, hb9⟩
    go_wp2_with fail
    go_ret
    exact ⟨rfl, two b7 hb9⟩
  · obtain rfl : t = ⟨#[]⟩ := str_of ht
    have heq := val_eq 0 0 ⟨#[]⟩ 0 0 ⟨#[]⟩ true (by simp)
    clear ht
    go_enter Tryd.func11, Tryd.ntmps11
    go_wp2_with fail
    refine (HPA.out _ HE.out HRR.out).mono ?_
    rintro e w3 ⟨rfl, b3⟩
    have hz := b3.size
    have b4 := b3.alloc hz (.cells #[.int .i64 0, .int .i64 0, .string ⟨#[]⟩] 23)
    go_wp2_with fail
    refine (awake_any _ (HE.out.below b4)).mono ?_
    rintro e w9 ⟨rfl, hb9⟩
    go_wp2_with fail
    go_ret
    exact ⟨rfl, two b4 hb9⟩
end Go.Proofs.YtedpgeilamhipaaDoor.Va
