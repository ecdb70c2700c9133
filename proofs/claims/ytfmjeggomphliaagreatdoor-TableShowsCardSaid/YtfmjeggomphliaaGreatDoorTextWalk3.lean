/- Walks: a text read as a value. -/
import Derived.Test.YtfmjeggomphliaaGreatDoorTextWalk2
import Derived.Test.YtfmjeggomphliaaGreatDoorAtoi
import Derived.Test.YtfmjeggomphliaaGreatDoorBase
set_option linter.unusedVariables false
set_option linter.unusedSimpArgs false
namespace Go.Proofs.YtfmjeggomphliaaGreatDoor.Va
open Go.RowKit Go Ba

theorem text_any (s : ByteArray) (w : World) : Calls Tryz.prog 56 #[.string s] w fun e w' => e = .returned (.agg #[.int .i64 2, .int .i64 0, .string s]) ∧ Below w.heap.size w w' := by
  go_enter Tryz.func56, Tryz.ntmps56
  go_wp2_with fail
  go_returns
  exact ⟨rfl, by go_grown⟩
theorem list_of (s : ByteArray) : s.toList = s.data.toList := Lib.toList_data s
theorem eqs {s : ByteArray} {l : List UInt8} (b : Bool) (h : decide (s.data.toList = l) = b) : (s.toList == l) = b := by
  rw [list_of, ← h, Bool.eq_iff_iff]; simp
theorem inner_data (s : ByteArray) (h : 1 < s.size) : (s.extract 1 (s.size - 1)).data.toList = inner s.data.toList := by
  rw [Lib.extract_data]
  unfold inner
  rw [List.dropLast_eq_take, List.length_drop, ← size_list]
/-- No quotes stand around it. -/
def NQ (s : ByteArray) : Prop := s.size ≤ 1 ∨ (1 < s.size ∧ ∃ b, s.data.toList[0]? = some b ∧ b ≠ 34) ∨ (1 < s.size ∧ s.data.toList[0]? = some 34 ∧ ∃ b, s.data.toList[s.size - 1]? = some b ∧ b ≠ 34)
theorem nq_of {s : ByteArray} (h : isQ s.data.toList = false) : NQ s := by
  unfold isQ at h
  by_cases h1 : s.size ≤ 1
  · exact .inl h1
  have h2 : 1 < s.data.toList.length := by rw [← size_list]; omega
  rw [decide_eq_true h2, Bool.true_and, Bool.and_eq_false_iff, decide_eq_false_iff_not, decide_eq_false_iff_not, List.head?_eq_getElem?, List.getLast?_eq_getElem?, ← size_list] at h
  obtain ⟨b0, hb0⟩ := bat s 0 (by omega)
  obtain ⟨b1, hb1⟩ := bat s (s.size - 1) (by omega)
  rw [hb0, hb1] at h
  by_cases e : b0 = 34
  · subst e
    refine .inr (.inr ⟨by omega, hb0, b1, hb1, ?_⟩)
    rintro rfl
    rcases h with h | h <;> exact h rfl
  · exact .inr (.inl ⟨by omega, b0, hb0, e⟩)
theorem ne34 {b : UInt8} (h : b ≠ 34) : ((b.toNat : Int) == 34) = false := by
  have : ¬ (b.toNat : Int) = 34 := fun hx => h (byte_eq (by rw [hx]; rfl))
  simpa using this

set_option maxHeartbeats 1600000 in
theorem parse_null (w : World) (hE : Env w) :
    Calls Tryz.prog 26 #[.string ⟨#[110, 117, 108, 108]⟩] w fun e w' => e = .returned (.tuple #[.agg #[.int .i64 0, .int .i64 0, .string ⟨#[]⟩], .int .i64 0]) ∧ Below w.heap.size w w' := by
  have HE := Lib.hid hE
  have ht64 : (⟨#[]⟩ : ByteArray).size ≤ 9223372036854775807 := by decide
  have n0 : (-9223372036854775808 : Int) ≤ 0 := by decide
  have n1 : (0 : Int) ≤ 9223372036854775807 := by decide
  have hS : showL 0 0 ⟨#[]⟩ = [110, 117, 108, 108] := by decide +kernel
  have hsa := fun W h => show_any 0 0 ⟨#[]⟩ W ht64 n0 n1 h
  rw [hS] at hsa
  have HSA := Lib.hid hsa
  clear hE hS hsa
  go_enter Tryz.func26, Tryz.ntmps26
  go_wp2_with fail
  refine (null_any _).mono ?_
  rintro e w1 ⟨rfl, hb⟩
  have R := (Box.new w [.int .i64 0, .int .i64 0, .string ⟨#[]⟩] 47).next hb
  have bw := two (w := w) (by go_grown) hb
  clear hb
  have hz : w.heap.size < w1.heap.size := R.lt
  have hz1 : ¬ w1.heap.size = w.heap.size := by omega
  have hz2 : ¬ w.heap.size = w1.heap.size := by omega
  have V := Box.new w1 [.int .i64 0, .int .i64 0, .string ⟨#[]⟩] 47
  have R := R.alloc (.cells #[.int .i64 0, .int .i64 0, .string ⟨#[]⟩] 47)
  have bw := bw.alloc (Nat.le_of_lt hz) (.cells #[.int .i64 0, .int .i64 0, .string ⟨#[]⟩] 47)
  obtain ⟨r0, r1, r2, q0, q1, q2⟩ := R.three
  obtain ⟨x0, x1, x2, p0, p1, p2⟩ := V.three
  go_wp2_with fail
  clear r0 r1 r2 q0 q1 q2 x0 x1 x2 p0 p1 p2
  refine (HSA.out _ (HE.out.below bw)).mono ?_
  rintro e w6 ⟨rfl, hb⟩
  have R := R.next hb
  have V := V.next hb
  have bw := two bw hb
  clear hb
  obtain ⟨r0, r1, r2, q0, q1, q2⟩ := R.three
  obtain ⟨x0, x1, x2, p0, p1, p2⟩ := V.three
  go_wp2_with fail
  try simp only [Exit.inBlock, Exit.then]
  refine bodyPost_ret (by simp [results, Tryz.results26, go_sem, r0, r1, r2, hz1, hz2]; try rfl) rfl ?_
  exact ⟨rfl, by go_grown⟩
set_option maxHeartbeats 1600000 in
theorem parse_qt (s t : ByteArray) (w : World) (hq : isQ s.data.toList = true) (hn : s.data.toList ≠ nullL) (ht : (unqL (inner s.data.toList)).1 = t.data.toList) (hb0 : decide ((⟨(showL 2 0 t).toArray⟩ : ByteArray).data.toList = s.data.toList) = true) (hs : s.size ≤ 20000) (hE : Env w) :
    Calls Tryz.prog 26 #[.string s] w fun e w' => e = .returned (.tuple #[.agg #[.int .i64 2, .int .i64 0, .string t], .int .i64 0]) ∧ Below w.heap.size w w' := by
  have HE := Lib.hid hE
  have hnull := eqs false (decide_eq_false hn)
  unfold nullL at hnull
  have hsh : (showL 2 0 t == s.toList) = true := by rw [list_of, ← hb0, Bool.eq_iff_iff]; simp
  have n0 : (-9223372036854775808 : Int) ≤ 0 := by decide
  have n1 : (0 : Int) ≤ 9223372036854775807 := by decide
  unfold isQ at hq
  simp only [Bool.and_eq_true, decide_eq_true_eq] at hq
  obtain ⟨⟨hl, hh⟩, hg⟩ := hq
  have hl1 : 1 < s.size := by rw [size_list]; exact hl
  have a0 : s.data.toList[0]? = some 34 := by rw [← List.head?_eq_getElem?]; exact hh
  have a1 : s.data.toList[s.size - 1]? = some 34 := by rw [List.getLast?_eq_getElem?, ← size_list] at hg; exact hg
  have e0 := str_at (by omega) a0
  have e1 := str_at (by omega) a1
  have HI := Lib.hid (inner_data s hl1)
  have hsl : (s.extract 1 (s.size - 1)).size ≤ 20000 := by
    rw [size_data, HI.out]; unfold inner; simp; omega
  have HT : Hid ((⟨(unqL (s.extract 1 (s.size - 1)).data.toList).1.toArray⟩ : ByteArray) = t) := by
    show (⟨(unqL (s.extract 1 (s.size - 1)).data.toList).1.toArray⟩ : ByteArray) = t
    rw [HI.out, ht]
  have ht64 : t.size ≤ 9223372036854775807 := by
    rw [← HT.out, str_size]; have := unq_len (s.extract 1 (s.size - 1)).data.toList; rw [← size_list] at this; omega
  have HU := fun W => unquoted_any (s.extract 1 (s.size - 1)) W (by omega)
  rw [HT.out] at HU
  have HU := Lib.hid HU
  clear hE hl hh hg a0 a1 hb0 hn ht
  go_enter Tryz.func26, Tryz.ntmps26
  go_wp2_with fail
  refine (null_any _).mono ?_
  rintro e w1 ⟨rfl, hb⟩
  have R := (Box.new w [.int .i64 0, .int .i64 0, .string ⟨#[]⟩] 47).next hb
  have bw := two (w := w) (by go_grown) hb
  clear hb
  have hz : w.heap.size < w1.heap.size := R.lt
  have hz1 : ¬ w1.heap.size = w.heap.size := by omega
  have hz2 : ¬ w.heap.size = w1.heap.size := by omega
  have V := Box.new w1 [.int .i64 0, .int .i64 0, .string ⟨#[]⟩] 47
  have R := R.alloc (.cells #[.int .i64 0, .int .i64 0, .string ⟨#[]⟩] 47)
  have bw := bw.alloc (Nat.le_of_lt hz) (.cells #[.int .i64 0, .int .i64 0, .string ⟨#[]⟩] 47)
  obtain ⟨r0, r1, r2, q0, q1, q2⟩ := R.three
  obtain ⟨x0, x1, x2, p0, p1, p2⟩ := V.three
  go_wp2_with fail
  refine (HU.out _).mono ?_
  rintro e w2 ⟨rfl, hb⟩
  clear r0 r1 r2 q0 q1 q2 x0 x1 x2 p0 p1 p2
  have R := R.next hb
  have V := V.next hb
  have bw := two bw hb
  clear hb
  obtain ⟨r0, r1, r2, q0, q1, q2⟩ := R.three
  obtain ⟨x0, x1, x2, p0, p1, p2⟩ := V.three
  go_wp2_with fail
  refine (text_any t _).mono ?_
  rintro e w3 ⟨rfl, hb⟩
  clear r0 r1 r2 q0 q1 q2 x0 x1 x2 p0 p1 p2
  have R := R.next hb
  have V := V.next hb
  have bw := two bw hb
  clear hb
  obtain ⟨r0, r1, r2, q0, q1, q2⟩ := R.three
  obtain ⟨x0, x1, x2, p0, p1, p2⟩ := V.three
  have R' := R.other3 hz1 (.int .i64 2) (.int .i64 0) (.string t)
  have V' := V.put3 (.int .i64 2) (.int .i64 0) (.string t)
  have bw' := below3 bw (Nat.le_of_lt hz) (.int .i64 2) (.int .i64 0) (.string t)
  go_wp2_with fail
  generalize (((w3.setCell ⟨w1.heap.size, 0, none⟩ (.int .i64 2)).setCell ⟨w1.heap.size, 1, none⟩ (.int .i64 0)).setCell ⟨w1.heap.size, 2, none⟩ (.string t)) = w4 at R' V' bw' ⊢
  clear r0 r1 r2 q0 q1 q2 x0 x1 x2 p0 p1 p2
  clear R V bw
  have R := R'
  have V := V'
  have bw := bw'
  clear R' V' bw'
  refine (show_any 2 0 t _ ht64 n0 n1 (HE.out.below bw)).mono ?_
  rintro e w6 ⟨rfl, hb⟩
  have R := R.next hb
  have V := V.next hb
  have bw := two bw hb
  clear hb
  obtain ⟨r0, r1, r2, q0, q1, q2⟩ := R.three
  obtain ⟨x0, x1, x2, p0, p1, p2⟩ := V.three
  go_wp2_with fail
  try simp only [Exit.inBlock, Exit.then]
  refine bodyPost_ret (by simp [results, Tryz.results26, go_sem, r0, r1, r2, hz1, hz2]; try rfl) rfl ?_
  exact ⟨rfl, by go_grown⟩
set_option maxHeartbeats 1600000 in
theorem parse_qf (s t : ByteArray) (w : World) (hq : isQ s.data.toList = true) (hn : s.data.toList ≠ nullL) (ht : (unqL (inner s.data.toList)).1 = t.data.toList) (hb0 : decide ((⟨(showL 2 0 t).toArray⟩ : ByteArray).data.toList = s.data.toList) = false) (hs : s.size ≤ 20000) (hE : Env w) :
    Calls Tryz.prog 26 #[.string s] w fun e w' => e = .returned (.tuple #[.agg #[.int .i64 0, .int .i64 0, .string ⟨#[]⟩], .int .i64 20]) ∧ Below w.heap.size w w' := by
  have HE := Lib.hid hE
  have hnull := eqs false (decide_eq_false hn)
  unfold nullL at hnull
  have hsh : (showL 2 0 t == s.toList) = false := by rw [list_of, ← hb0, Bool.eq_iff_iff]; simp
  have n0 : (-9223372036854775808 : Int) ≤ 0 := by decide
  have n1 : (0 : Int) ≤ 9223372036854775807 := by decide
  unfold isQ at hq
  simp only [Bool.and_eq_true, decide_eq_true_eq] at hq
  obtain ⟨⟨hl, hh⟩, hg⟩ := hq
  have hl1 : 1 < s.size := by rw [size_list]; exact hl
  have a0 : s.data.toList[0]? = some 34 := by rw [← List.head?_eq_getElem?]; exact hh
  have a1 : s.data.toList[s.size - 1]? = some 34 := by rw [List.getLast?_eq_getElem?, ← size_list] at hg; exact hg
  have e0 := str_at (by omega) a0
  have e1 := str_at (by omega) a1
  have HI := Lib.hid (inner_data s hl1)
  have hsl : (s.extract 1 (s.size - 1)).size ≤ 20000 := by
    rw [size_data, HI.out]; unfold inner; simp; omega
  have HT : Hid ((⟨(unqL (s.extract 1 (s.size - 1)).data.toList).1.toArray⟩ : ByteArray) = t) := by
    show (⟨(unqL (s.extract 1 (s.size - 1)).data.toList).1.toArray⟩ : ByteArray) = t
    rw [HI.out, ht]
  have ht64 : t.size ≤ 9223372036854775807 := by
    rw [← HT.out, str_size]; have := unq_len (s.extract 1 (s.size - 1)).data.toList; rw [← size_list] at this; omega
  have HU := fun W => unquoted_any (s.extract 1 (s.size - 1)) W (by omega)
  rw [HT.out] at HU
  have HU := Lib.hid HU
  clear hE hl hh hg a0 a1 hb0 hn ht
  go_enter Tryz.func26, Tryz.ntmps26
  go_wp2_with fail
  refine (null_any _).mono ?_
  rintro e w1 ⟨rfl, hb⟩
  have R := (Box.new w [.int .i64 0, .int .i64 0, .string ⟨#[]⟩] 47).next hb
  have bw := two (w := w) (by go_grown) hb
  clear hb
  have hz : w.heap.size < w1.heap.size := R.lt
  have hz1 : ¬ w1.heap.size = w.heap.size := by omega
  have hz2 : ¬ w.heap.size = w1.heap.size := by omega
  have V := Box.new w1 [.int .i64 0, .int .i64 0, .string ⟨#[]⟩] 47
  have R := R.alloc (.cells #[.int .i64 0, .int .i64 0, .string ⟨#[]⟩] 47)
  have bw := bw.alloc (Nat.le_of_lt hz) (.cells #[.int .i64 0, .int .i64 0, .string ⟨#[]⟩] 47)
  obtain ⟨r0, r1, r2, q0, q1, q2⟩ := R.three
  obtain ⟨x0, x1, x2, p0, p1, p2⟩ := V.three
  go_wp2_with fail
  refine (HU.out _).mono ?_
  rintro e w2 ⟨rfl, hb⟩
  clear r0 r1 r2 q0 q1 q2 x0 x1 x2 p0 p1 p2
  have R := R.next hb
  have V := V.next hb
  have bw := two bw hb
  clear hb
  obtain ⟨r0, r1, r2, q0, q1, q2⟩ := R.three
  obtain ⟨x0, x1, x2, p0, p1, p2⟩ := V.three
  go_wp2_with fail
  refine (text_any t _).mono ?_
  rintro e w3 ⟨rfl, hb⟩
  clear r0 r1 r2 q0 q1 q2 x0 x1 x2 p0 p1 p2
  have R := R.next hb
  have V := V.next hb
  have bw := two bw hb
  clear hb
  obtain ⟨r0, r1, r2, q0, q1, q2⟩ := R.three
  obtain ⟨x0, x1, x2, p0, p1, p2⟩ := V.three
  have R' := R.other3 hz1 (.int .i64 2) (.int .i64 0) (.string t)
  have V' := V.put3 (.int .i64 2) (.int .i64 0) (.string t)
  have bw' := below3 bw (Nat.le_of_lt hz) (.int .i64 2) (.int .i64 0) (.string t)
  go_wp2_with fail
  generalize (((w3.setCell ⟨w1.heap.size, 0, none⟩ (.int .i64 2)).setCell ⟨w1.heap.size, 1, none⟩ (.int .i64 0)).setCell ⟨w1.heap.size, 2, none⟩ (.string t)) = w4 at R' V' bw' ⊢
  clear r0 r1 r2 q0 q1 q2 x0 x1 x2 p0 p1 p2
  clear R V bw
  have R := R'
  have V := V'
  have bw := bw'
  clear R' V' bw'
  refine (show_any 2 0 t _ ht64 n0 n1 (HE.out.below bw)).mono ?_
  rintro e w6 ⟨rfl, hb⟩
  have R := R.next hb
  have V := V.next hb
  have bw := two bw hb
  clear hb
  obtain ⟨r0, r1, r2, q0, q1, q2⟩ := R.three
  obtain ⟨x0, x1, x2, p0, p1, p2⟩ := V.three
  go_wp2_with fail
  try simp only [Exit.inBlock, Exit.then]
  refine bodyPost_ret (by simp [results, Tryz.results26, go_sem, r0, r1, r2, hz1, hz2]; try rfl) rfl ?_
  exact ⟨rfl, by go_grown⟩
set_option maxHeartbeats 3200000 in
theorem parse_nt (s : ByteArray) (n : Int) (w : World) (hq : isQ s.data.toList = false) (hn : s.data.toList ≠ nullL) (ht : Lib.atoiAll s.data.toList = .ok n) (hb0 : decide ((⟨(showL 1 n ⟨#[]⟩).toArray⟩ : ByteArray).data.toList = s.data.toList) = true) (hs : s.size ≤ 20000) (hE : Env w) :
    Calls Tryz.prog 26 #[.string s] w fun e w' => e = .returned (.tuple #[.agg #[.int .i64 1, .int .i64 n, .string ⟨#[]⟩], .int .i64 0]) ∧ Below w.heap.size w w' := by
  have HE := Lib.hid hE
  have hnull := eqs false (decide_eq_false hn)
  unfold nullL at hnull
  have hsh : (showL 1 n ⟨#[]⟩ == s.toList) = true := by rw [list_of, ← hb0, Bool.eq_iff_iff]; simp
  obtain ⟨n0, n1⟩ := Lib.atoiAll_bounds ht
  have ht64 : (⟨#[]⟩ : ByteArray).size ≤ 9223372036854775807 := by decide
  have HU := Lib.hid (fun W => atoi_yes s (by omega) n ht W)
  clear hE hb0 hn ht
  rcases nq_of hq with h1 | ⟨h1, b, h2, h3⟩ | ⟨h1, h2, b, h3, h4⟩
  · go_enter Tryz.func26, Tryz.ntmps26
    go_wp2_with fail
    refine (null_any _).mono ?_
    rintro e w1 ⟨rfl, hb⟩
    have R := (Box.new w [.int .i64 0, .int .i64 0, .string ⟨#[]⟩] 47).next hb
    have bw := two (w := w) (by go_grown) hb
    clear hb
    have hz : w.heap.size < w1.heap.size := R.lt
    have hz1 : ¬ w1.heap.size = w.heap.size := by omega
    have hz2 : ¬ w.heap.size = w1.heap.size := by omega
    have V := Box.new w1 [.int .i64 0, .int .i64 0, .string ⟨#[]⟩] 47
    have R := R.alloc (.cells #[.int .i64 0, .int .i64 0, .string ⟨#[]⟩] 47)
    have bw := bw.alloc (Nat.le_of_lt hz) (.cells #[.int .i64 0, .int .i64 0, .string ⟨#[]⟩] 47)
    obtain ⟨r0, r1, r2, q0, q1, q2⟩ := R.three
    obtain ⟨x0, x1, x2, p0, p1, p2⟩ := V.three
    go_wp2_with fail
    refine (HU.out _).mono ?_
    rintro e w2 ⟨rfl, hb⟩
    clear r0 r1 r2 q0 q1 q2 x0 x1 x2 p0 p1 p2
    have R := R.next hb
    have V := V.next hb
    have bw := two bw hb
    clear hb
    obtain ⟨r0, r1, r2, q0, q1, q2⟩ := R.three
    obtain ⟨x0, x1, x2, p0, p1, p2⟩ := V.three
    go_wp2_with fail
    refine (of_any n _).mono ?_
    rintro e w3 ⟨rfl, hb⟩
    clear r0 r1 r2 q0 q1 q2 x0 x1 x2 p0 p1 p2
    have R := R.next hb
    have V := V.next hb
    have bw := two bw hb
    clear hb
    obtain ⟨r0, r1, r2, q0, q1, q2⟩ := R.three
    obtain ⟨x0, x1, x2, p0, p1, p2⟩ := V.three
    have R' := R.other3 hz1 (.int .i64 1) (.int .i64 n) (.string ⟨#[]⟩)
    have V' := V.put3 (.int .i64 1) (.int .i64 n) (.string ⟨#[]⟩)
    have bw' := below3 bw (Nat.le_of_lt hz) (.int .i64 1) (.int .i64 n) (.string ⟨#[]⟩)
    go_wp2_with fail
    generalize (((w3.setCell ⟨w1.heap.size, 0, none⟩ (.int .i64 1)).setCell ⟨w1.heap.size, 1, none⟩ (.int .i64 n)).setCell ⟨w1.heap.size, 2, none⟩ (.string ⟨#[]⟩)) = w4 at R' V' bw' ⊢
    clear r0 r1 r2 q0 q1 q2 x0 x1 x2 p0 p1 p2
    clear R V bw
    have R := R'
    have V := V'
    have bw := bw'
    clear R' V' bw'
    refine (show_any 1 n ⟨#[]⟩ _ ht64 n0 n1 (HE.out.below bw)).mono ?_
    rintro e w6 ⟨rfl, hb⟩
    have R := R.next hb
    have V := V.next hb
    have bw := two bw hb
    clear hb
    obtain ⟨r0, r1, r2, q0, q1, q2⟩ := R.three
    obtain ⟨x0, x1, x2, p0, p1, p2⟩ := V.three
    go_wp2_with fail
    try simp only [Exit.inBlock, Exit.then]
    refine bodyPost_ret (by simp [results, Tryz.results26, go_sem, r0, r1, r2, hz1, hz2]; try rfl) rfl ?_
    exact ⟨rfl, by go_grown⟩
  · have e0 := str_at (by omega) h2
    have d0 := ne34 h3
    clear h2 h3
    go_enter Tryz.func26, Tryz.ntmps26
    go_wp2_with fail
    refine (null_any _).mono ?_
    rintro e w1 ⟨rfl, hb⟩
    have R := (Box.new w [.int .i64 0, .int .i64 0, .string ⟨#[]⟩] 47).next hb
    have bw := two (w := w) (by go_grown) hb
    clear hb
    have hz : w.heap.size < w1.heap.size := R.lt
    have hz1 : ¬ w1.heap.size = w.heap.size := by omega
    have hz2 : ¬ w.heap.size = w1.heap.size := by omega
    have V := Box.new w1 [.int .i64 0, .int .i64 0, .string ⟨#[]⟩] 47
    have R := R.alloc (.cells #[.int .i64 0, .int .i64 0, .string ⟨#[]⟩] 47)
    have bw := bw.alloc (Nat.le_of_lt hz) (.cells #[.int .i64 0, .int .i64 0, .string ⟨#[]⟩] 47)
    obtain ⟨r0, r1, r2, q0, q1, q2⟩ := R.three
    obtain ⟨x0, x1, x2, p0, p1, p2⟩ := V.three
    go_wp2_with fail
    refine (HU.out _).mono ?_
    rintro e w2 ⟨rfl, hb⟩
    clear r0 r1 r2 q0 q1 q2 x0 x1 x2 p0 p1 p2
    have R := R.next hb
    have V := V.next hb
    have bw := two bw hb
    clear hb
    obtain ⟨r0, r1, r2, q0, q1, q2⟩ := R.three
    obtain ⟨x0, x1, x2, p0, p1, p2⟩ := V.three
    go_wp2_with fail
    refine (of_any n _).mono ?_
    rintro e w3 ⟨rfl, hb⟩
    clear r0 r1 r2 q0 q1 q2 x0 x1 x2 p0 p1 p2
    have R := R.next hb
    have V := V.next hb
    have bw := two bw hb
    clear hb
    obtain ⟨r0, r1, r2, q0, q1, q2⟩ := R.three
    obtain ⟨x0, x1, x2, p0, p1, p2⟩ := V.three
    have R' := R.other3 hz1 (.int .i64 1) (.int .i64 n) (.string ⟨#[]⟩)
    have V' := V.put3 (.int .i64 1) (.int .i64 n) (.string ⟨#[]⟩)
    have bw' := below3 bw (Nat.le_of_lt hz) (.int .i64 1) (.int .i64 n) (.string ⟨#[]⟩)
    go_wp2_with fail
    generalize (((w3.setCell ⟨w1.heap.size, 0, none⟩ (.int .i64 1)).setCell ⟨w1.heap.size, 1, none⟩ (.int .i64 n)).setCell ⟨w1.heap.size, 2, none⟩ (.string ⟨#[]⟩)) = w4 at R' V' bw' ⊢
    clear r0 r1 r2 q0 q1 q2 x0 x1 x2 p0 p1 p2
    clear R V bw
    have R := R'
    have V := V'
    have bw := bw'
    clear R' V' bw'
    refine (show_any 1 n ⟨#[]⟩ _ ht64 n0 n1 (HE.out.below bw)).mono ?_
    rintro e w6 ⟨rfl, hb⟩
    have R := R.next hb
    have V := V.next hb
    have bw := two bw hb
    clear hb
    obtain ⟨r0, r1, r2, q0, q1, q2⟩ := R.three
    obtain ⟨x0, x1, x2, p0, p1, p2⟩ := V.three
    go_wp2_with fail
    try simp only [Exit.inBlock, Exit.then]
    refine bodyPost_ret (by simp [results, Tryz.results26, go_sem, r0, r1, r2, hz1, hz2]; try rfl) rfl ?_
    exact ⟨rfl, by go_grown⟩
  · have e0 := str_at (by omega) h2
    have e1 := str_at (by omega) h3
    have d1 := ne34 h4
    clear h2 h3 h4
    go_enter Tryz.func26, Tryz.ntmps26
    go_wp2_with fail
    refine (null_any _).mono ?_
    rintro e w1 ⟨rfl, hb⟩
    have R := (Box.new w [.int .i64 0, .int .i64 0, .string ⟨#[]⟩] 47).next hb
    have bw := two (w := w) (by go_grown) hb
    clear hb
    have hz : w.heap.size < w1.heap.size := R.lt
    have hz1 : ¬ w1.heap.size = w.heap.size := by omega
    have hz2 : ¬ w.heap.size = w1.heap.size := by omega
    have V := Box.new w1 [.int .i64 0, .int .i64 0, .string ⟨#[]⟩] 47
    have R := R.alloc (.cells #[.int .i64 0, .int .i64 0, .string ⟨#[]⟩] 47)
    have bw := bw.alloc (Nat.le_of_lt hz) (.cells #[.int .i64 0, .int .i64 0, .string ⟨#[]⟩] 47)
    obtain ⟨r0, r1, r2, q0, q1, q2⟩ := R.three
    obtain ⟨x0, x1, x2, p0, p1, p2⟩ := V.three
    go_wp2_with fail
    refine (HU.out _).mono ?_
    rintro e w2 ⟨rfl, hb⟩
    clear r0 r1 r2 q0 q1 q2 x0 x1 x2 p0 p1 p2
    have R := R.next hb
    have V := V.next hb
    have bw := two bw hb
    clear hb
    obtain ⟨r0, r1, r2, q0, q1, q2⟩ := R.three
    obtain ⟨x0, x1, x2, p0, p1, p2⟩ := V.three
    go_wp2_with fail
    refine (of_any n _).mono ?_
    rintro e w3 ⟨rfl, hb⟩
    clear r0 r1 r2 q0 q1 q2 x0 x1 x2 p0 p1 p2
    have R := R.next hb
    have V := V.next hb
    have bw := two bw hb
    clear hb
    obtain ⟨r0, r1, r2, q0, q1, q2⟩ := R.three
    obtain ⟨x0, x1, x2, p0, p1, p2⟩ := V.three
    have R' := R.other3 hz1 (.int .i64 1) (.int .i64 n) (.string ⟨#[]⟩)
    have V' := V.put3 (.int .i64 1) (.int .i64 n) (.string ⟨#[]⟩)
    have bw' := below3 bw (Nat.le_of_lt hz) (.int .i64 1) (.int .i64 n) (.string ⟨#[]⟩)
    go_wp2_with fail
    generalize (((w3.setCell ⟨w1.heap.size, 0, none⟩ (.int .i64 1)).setCell ⟨w1.heap.size, 1, none⟩ (.int .i64 n)).setCell ⟨w1.heap.size, 2, none⟩ (.string ⟨#[]⟩)) = w4 at R' V' bw' ⊢
    clear r0 r1 r2 q0 q1 q2 x0 x1 x2 p0 p1 p2
    clear R V bw
    have R := R'
    have V := V'
    have bw := bw'
    clear R' V' bw'
    refine (show_any 1 n ⟨#[]⟩ _ ht64 n0 n1 (HE.out.below bw)).mono ?_
    rintro e w6 ⟨rfl, hb⟩
    have R := R.next hb
    have V := V.next hb
    have bw := two bw hb
    clear hb
    obtain ⟨r0, r1, r2, q0, q1, q2⟩ := R.three
    obtain ⟨x0, x1, x2, p0, p1, p2⟩ := V.three
    go_wp2_with fail
    try simp only [Exit.inBlock, Exit.then]
    refine bodyPost_ret (by simp [results, Tryz.results26, go_sem, r0, r1, r2, hz1, hz2]; try rfl) rfl ?_
    exact ⟨rfl, by go_grown⟩
set_option maxHeartbeats 3200000 in
theorem parse_nf (s : ByteArray) (n : Int) (w : World) (hq : isQ s.data.toList = false) (hn : s.data.toList ≠ nullL) (ht : Lib.atoiAll s.data.toList = .ok n) (hb0 : decide ((⟨(showL 1 n ⟨#[]⟩).toArray⟩ : ByteArray).data.toList = s.data.toList) = false) (hs : s.size ≤ 20000) (hE : Env w) :
    Calls Tryz.prog 26 #[.string s] w fun e w' => e = .returned (.tuple #[.agg #[.int .i64 0, .int .i64 0, .string ⟨#[]⟩], .int .i64 20]) ∧ Below w.heap.size w w' := by
  have HE := Lib.hid hE
  have hnull := eqs false (decide_eq_false hn)
  unfold nullL at hnull
  have hsh : (showL 1 n ⟨#[]⟩ == s.toList) = false := by rw [list_of, ← hb0, Bool.eq_iff_iff]; simp
  obtain ⟨n0, n1⟩ := Lib.atoiAll_bounds ht
  have ht64 : (⟨#[]⟩ : ByteArray).size ≤ 9223372036854775807 := by decide
  have HU := Lib.hid (fun W => atoi_yes s (by omega) n ht W)
  clear hE hb0 hn ht
  rcases nq_of hq with h1 | ⟨h1, b, h2, h3⟩ | ⟨h1, h2, b, h3, h4⟩
  · go_enter Tryz.func26, Tryz.ntmps26
    go_wp2_with fail
    refine (null_any _).mono ?_
    rintro e w1 ⟨rfl, hb⟩
    have R := (Box.new w [.int .i64 0, .int .i64 0, .string ⟨#[]⟩] 47).next hb
    have bw := two (w := w) (by go_grown) hb
    clear hb
    have hz : w.heap.size < w1.heap.size := R.lt
    have hz1 : ¬ w1.heap.size = w.heap.size := by omega
    have hz2 : ¬ w.heap.size = w1.heap.size := by omega
    have V := Box.new w1 [.int .i64 0, .int .i64 0, .string ⟨#[]⟩] 47
    have R := R.alloc (.cells #[.int .i64 0, .int .i64 0, .string ⟨#[]⟩] 47)
    have bw := bw.alloc (Nat.le_of_lt hz) (.cells #[.int .i64 0, .int .i64 0, .string ⟨#[]⟩] 47)
    obtain ⟨r0, r1, r2, q0, q1, q2⟩ := R.three
    obtain ⟨x0, x1, x2, p0, p1, p2⟩ := V.three
    go_wp2_with fail
    refine (HU.out _).mono ?_
    rintro e w2 ⟨rfl, hb⟩
    clear r0 r1 r2 q0 q1 q2 x0 x1 x2 p0 p1 p2
    have R := R.next hb
    have V := V.next hb
    have bw := two bw hb
    clear hb
    obtain ⟨r0, r1, r2, q0, q1, q2⟩ := R.three
    obtain ⟨x0, x1, x2, p0, p1, p2⟩ := V.three
    go_wp2_with fail
    refine (of_any n _).mono ?_
    rintro e w3 ⟨rfl, hb⟩
    clear r0 r1 r2 q0 q1 q2 x0 x1 x2 p0 p1 p2
    have R := R.next hb
    have V := V.next hb
    have bw := two bw hb
    clear hb
    obtain ⟨r0, r1, r2, q0, q1, q2⟩ := R.three
    obtain ⟨x0, x1, x2, p0, p1, p2⟩ := V.three
    have R' := R.other3 hz1 (.int .i64 1) (.int .i64 n) (.string ⟨#[]⟩)
    have V' := V.put3 (.int .i64 1) (.int .i64 n) (.string ⟨#[]⟩)
    have bw' := below3 bw (Nat.le_of_lt hz) (.int .i64 1) (.int .i64 n) (.string ⟨#[]⟩)
    go_wp2_with fail
    generalize (((w3.setCell ⟨w1.heap.size, 0, none⟩ (.int .i64 1)).setCell ⟨w1.heap.size, 1, none⟩ (.int .i64 n)).setCell ⟨w1.heap.size, 2, none⟩ (.string ⟨#[]⟩)) = w4 at R' V' bw' ⊢
    clear r0 r1 r2 q0 q1 q2 x0 x1 x2 p0 p1 p2
    clear R V bw
    have R := R'
    have V := V'
    have bw := bw'
    clear R' V' bw'
    refine (show_any 1 n ⟨#[]⟩ _ ht64 n0 n1 (HE.out.below bw)).mono ?_
    rintro e w6 ⟨rfl, hb⟩
    have R := R.next hb
    have V := V.next hb
    have bw := two bw hb
    clear hb
    obtain ⟨r0, r1, r2, q0, q1, q2⟩ := R.three
    obtain ⟨x0, x1, x2, p0, p1, p2⟩ := V.three
    go_wp2_with fail
    try simp only [Exit.inBlock, Exit.then]
    refine bodyPost_ret (by simp [results, Tryz.results26, go_sem, r0, r1, r2, hz1, hz2]; try rfl) rfl ?_
    exact ⟨rfl, by go_grown⟩
  · have e0 := str_at (by omega) h2
    have d0 := ne34 h3
    clear h2 h3
    go_enter Tryz.func26, Tryz.ntmps26
    go_wp2_with fail
    refine (null_any _).mono ?_
    rintro e w1 ⟨rfl, hb⟩
    have R := (Box.new w [.int .i64 0, .int .i64 0, .string ⟨#[]⟩] 47).next hb
    have bw := two (w := w) (by go_grown) hb
    clear hb
    have hz : w.heap.size < w1.heap.size := R.lt
    have hz1 : ¬ w1.heap.size = w.heap.size := by omega
    have hz2 : ¬ w.heap.size = w1.heap.size := by omega
    have V := Box.new w1 [.int .i64 0, .int .i64 0, .string ⟨#[]⟩] 47
    have R := R.alloc (.cells #[.int .i64 0, .int .i64 0, .string ⟨#[]⟩] 47)
    have bw := bw.alloc (Nat.le_of_lt hz) (.cells #[.int .i64 0, .int .i64 0, .string ⟨#[]⟩] 47)
    obtain ⟨r0, r1, r2, q0, q1, q2⟩ := R.three
    obtain ⟨x0, x1, x2, p0, p1, p2⟩ := V.three
    go_wp2_with fail
    refine (HU.out _).mono ?_
    rintro e w2 ⟨rfl, hb⟩
    clear r0 r1 r2 q0 q1 q2 x0 x1 x2 p0 p1 p2
    have R := R.next hb
    have V := V.next hb
    have bw := two bw hb
    clear hb
    obtain ⟨r0, r1, r2, q0, q1, q2⟩ := R.three
    obtain ⟨x0, x1, x2, p0, p1, p2⟩ := V.three
    go_wp2_with fail
    refine (of_any n _).mono ?_
    rintro e w3 ⟨rfl, hb⟩
    clear r0 r1 r2 q0 q1 q2 x0 x1 x2 p0 p1 p2
    have R := R.next hb
    have V := V.next hb
    have bw := two bw hb
    clear hb
    obtain ⟨r0, r1, r2, q0, q1, q2⟩ := R.three
    obtain ⟨x0, x1, x2, p0, p1, p2⟩ := V.three
    have R' := R.other3 hz1 (.int .i64 1) (.int .i64 n) (.string ⟨#[]⟩)
    have V' := V.put3 (.int .i64 1) (.int .i64 n) (.string ⟨#[]⟩)
    have bw' := below3 bw (Nat.le_of_lt hz) (.int .i64 1) (.int .i64 n) (.string ⟨#[]⟩)
    go_wp2_with fail
    generalize (((w3.setCell ⟨w1.heap.size, 0, none⟩ (.int .i64 1)).setCell ⟨w1.heap.size, 1, none⟩ (.int .i64 n)).setCell ⟨w1.heap.size, 2, none⟩ (.string ⟨#[]⟩)) = w4 at R' V' bw' ⊢
    clear r0 r1 r2 q0 q1 q2 x0 x1 x2 p0 p1 p2
    clear R V bw
    have R := R'
    have V := V'
    have bw := bw'
    clear R' V' bw'
    refine (show_any 1 n ⟨#[]⟩ _ ht64 n0 n1 (HE.out.below bw)).mono ?_
    rintro e w6 ⟨rfl, hb⟩
    have R := R.next hb
    have V := V.next hb
    have bw := two bw hb
    clear hb
    obtain ⟨r0, r1, r2, q0, q1, q2⟩ := R.three
    obtain ⟨x0, x1, x2, p0, p1, p2⟩ := V.three
    go_wp2_with fail
    try simp only [Exit.inBlock, Exit.then]
    refine bodyPost_ret (by simp [results, Tryz.results26, go_sem, r0, r1, r2, hz1, hz2]; try rfl) rfl ?_
    exact ⟨rfl, by go_grown⟩
  · have e0 := str_at (by omega) h2
    have e1 := str_at (by omega) h3
    have d1 := ne34 h4
    clear h2 h3 h4
    go_enter Tryz.func26, Tryz.ntmps26
    go_wp2_with fail
    refine (null_any _).mono ?_
    rintro e w1 ⟨rfl, hb⟩
    have R := (Box.new w [.int .i64 0, .int .i64 0, .string ⟨#[]⟩] 47).next hb
    have bw := two (w := w) (by go_grown) hb
    clear hb
    have hz : w.heap.size < w1.heap.size := R.lt
    have hz1 : ¬ w1.heap.size = w.heap.size := by omega
    have hz2 : ¬ w.heap.size = w1.heap.size := by omega
    have V := Box.new w1 [.int .i64 0, .int .i64 0, .string ⟨#[]⟩] 47
    have R := R.alloc (.cells #[.int .i64 0, .int .i64 0, .string ⟨#[]⟩] 47)
    have bw := bw.alloc (Nat.le_of_lt hz) (.cells #[.int .i64 0, .int .i64 0, .string ⟨#[]⟩] 47)
    obtain ⟨r0, r1, r2, q0, q1, q2⟩ := R.three
    obtain ⟨x0, x1, x2, p0, p1, p2⟩ := V.three
    go_wp2_with fail
    refine (HU.out _).mono ?_
    rintro e w2 ⟨rfl, hb⟩
    clear r0 r1 r2 q0 q1 q2 x0 x1 x2 p0 p1 p2
    have R := R.next hb
    have V := V.next hb
    have bw := two bw hb
    clear hb
    obtain ⟨r0, r1, r2, q0, q1, q2⟩ := R.three
    obtain ⟨x0, x1, x2, p0, p1, p2⟩ := V.three
    go_wp2_with fail
    refine (of_any n _).mono ?_
    rintro e w3 ⟨rfl, hb⟩
    clear r0 r1 r2 q0 q1 q2 x0 x1 x2 p0 p1 p2
    have R := R.next hb
    have V := V.next hb
    have bw := two bw hb
    clear hb
    obtain ⟨r0, r1, r2, q0, q1, q2⟩ := R.three
    obtain ⟨x0, x1, x2, p0, p1, p2⟩ := V.three
    have R' := R.other3 hz1 (.int .i64 1) (.int .i64 n) (.string ⟨#[]⟩)
    have V' := V.put3 (.int .i64 1) (.int .i64 n) (.string ⟨#[]⟩)
    have bw' := below3 bw (Nat.le_of_lt hz) (.int .i64 1) (.int .i64 n) (.string ⟨#[]⟩)
    go_wp2_with fail
    generalize (((w3.setCell ⟨w1.heap.size, 0, none⟩ (.int .i64 1)).setCell ⟨w1.heap.size, 1, none⟩ (.int .i64 n)).setCell ⟨w1.heap.size, 2, none⟩ (.string ⟨#[]⟩)) = w4 at R' V' bw' ⊢
    clear r0 r1 r2 q0 q1 q2 x0 x1 x2 p0 p1 p2
    clear R V bw
    have R := R'
    have V := V'
    have bw := bw'
    clear R' V' bw'
    refine (show_any 1 n ⟨#[]⟩ _ ht64 n0 n1 (HE.out.below bw)).mono ?_
    rintro e w6 ⟨rfl, hb⟩
    have R := R.next hb
    have V := V.next hb
    have bw := two bw hb
    clear hb
    obtain ⟨r0, r1, r2, q0, q1, q2⟩ := R.three
    obtain ⟨x0, x1, x2, p0, p1, p2⟩ := V.three
    go_wp2_with fail
    try simp only [Exit.inBlock, Exit.then]
    refine bodyPost_ret (by simp [results, Tryz.results26, go_sem, r0, r1, r2, hz1, hz2]; try rfl) rfl ?_
    exact ⟨rfl, by go_grown⟩
set_option maxHeartbeats 3200000 in
theorem parse_no (s : ByteArray) (w : World) (hq : isQ s.data.toList = false) (hn : s.data.toList ≠ nullL) (ht : ∀ v, Lib.atoiAll s.data.toList ≠ .ok v) (hs : s.size ≤ 20000) (hE : Env w) (hR : Errs w) :
    Calls Tryz.prog 26 #[.string s] w fun e w' => e = .returned (.tuple #[.agg #[.int .i64 0, .int .i64 0, .string ⟨#[]⟩], .int .i64 20]) ∧ Below w.heap.size w w' := by
  have HRR := Lib.hid hR
  have hnull := eqs false (decide_eq_false hn)
  unfold nullL at hnull
  have HU := Lib.hid (fun W => atoi_no s (by omega) ht W)
  clear hE hn ht hR
  rcases nq_of hq with h1 | ⟨h1, b, h2, h3⟩ | ⟨h1, h2, b, h3, h4⟩
  · go_enter Tryz.func26, Tryz.ntmps26
    go_wp2_with fail
    refine (null_any _).mono ?_
    rintro e w1 ⟨rfl, hb⟩
    have R := (Box.new w [.int .i64 0, .int .i64 0, .string ⟨#[]⟩] 47).next hb
    have bw := two (w := w) (by go_grown) hb
    clear hb
    have hz : w.heap.size < w1.heap.size := R.lt
    have hz1 : ¬ w1.heap.size = w.heap.size := by omega
    have hz2 : ¬ w.heap.size = w1.heap.size := by omega
    have V := Box.new w1 [.int .i64 0, .int .i64 0, .string ⟨#[]⟩] 47
    have R := R.alloc (.cells #[.int .i64 0, .int .i64 0, .string ⟨#[]⟩] 47)
    have bw := bw.alloc (Nat.le_of_lt hz) (.cells #[.int .i64 0, .int .i64 0, .string ⟨#[]⟩] 47)
    obtain ⟨r0, r1, r2, q0, q1, q2⟩ := R.three
    obtain ⟨x0, x1, x2, p0, p1, p2⟩ := V.three
    go_wp2_with fail
    refine (HU.out _ (HRR.out.below bw)).mono ?_
    rintro e w2 ⟨n, N, rfl, hb⟩
    clear r0 r1 r2 q0 q1 q2 x0 x1 x2 p0 p1 p2
    have R := R.next hb
    have V := V.next hb
    have bw := two bw hb
    clear hb
    obtain ⟨r0, r1, r2, q0, q1, q2⟩ := R.three
    obtain ⟨x0, x1, x2, p0, p1, p2⟩ := V.three
    go_wp2_with fail
    try simp only [Exit.inBlock, Exit.then]
    refine bodyPost_ret (by simp [results, Tryz.results26, go_sem, r0, r1, r2, hz1, hz2]; try rfl) rfl ?_
    exact ⟨rfl, by go_grown⟩
  · have e0 := str_at (by omega) h2
    have d0 := ne34 h3
    clear h2 h3
    go_enter Tryz.func26, Tryz.ntmps26
    go_wp2_with fail
    refine (null_any _).mono ?_
    rintro e w1 ⟨rfl, hb⟩
    have R := (Box.new w [.int .i64 0, .int .i64 0, .string ⟨#[]⟩] 47).next hb
    have bw := two (w := w) (by go_grown) hb
    clear hb
    have hz : w.heap.size < w1.heap.size := R.lt
    have hz1 : ¬ w1.heap.size = w.heap.size := by omega
    have hz2 : ¬ w.heap.size = w1.heap.size := by omega
    have V := Box.new w1 [.int .i64 0, .int .i64 0, .string ⟨#[]⟩] 47
    have R := R.alloc (.cells #[.int .i64 0, .int .i64 0, .string ⟨#[]⟩] 47)
    have bw := bw.alloc (Nat.le_of_lt hz) (.cells #[.int .i64 0, .int .i64 0, .string ⟨#[]⟩] 47)
    obtain ⟨r0, r1, r2, q0, q1, q2⟩ := R.three
    obtain ⟨x0, x1, x2, p0, p1, p2⟩ := V.three
    go_wp2_with fail
    refine (HU.out _ (HRR.out.below bw)).mono ?_
    rintro e w2 ⟨n, N, rfl, hb⟩
    clear r0 r1 r2 q0 q1 q2 x0 x1 x2 p0 p1 p2
    have R := R.next hb
    have V := V.next hb
    have bw := two bw hb
    clear hb
    obtain ⟨r0, r1, r2, q0, q1, q2⟩ := R.three
    obtain ⟨x0, x1, x2, p0, p1, p2⟩ := V.three
    go_wp2_with fail
    try simp only [Exit.inBlock, Exit.then]
    refine bodyPost_ret (by simp [results, Tryz.results26, go_sem, r0, r1, r2, hz1, hz2]; try rfl) rfl ?_
    exact ⟨rfl, by go_grown⟩
  · have e0 := str_at (by omega) h2
    have e1 := str_at (by omega) h3
    have d1 := ne34 h4
    clear h2 h3 h4
    go_enter Tryz.func26, Tryz.ntmps26
    go_wp2_with fail
    refine (null_any _).mono ?_
    rintro e w1 ⟨rfl, hb⟩
    have R := (Box.new w [.int .i64 0, .int .i64 0, .string ⟨#[]⟩] 47).next hb
    have bw := two (w := w) (by go_grown) hb
    clear hb
    have hz : w.heap.size < w1.heap.size := R.lt
    have hz1 : ¬ w1.heap.size = w.heap.size := by omega
    have hz2 : ¬ w.heap.size = w1.heap.size := by omega
    have V := Box.new w1 [.int .i64 0, .int .i64 0, .string ⟨#[]⟩] 47
    have R := R.alloc (.cells #[.int .i64 0, .int .i64 0, .string ⟨#[]⟩] 47)
    have bw := bw.alloc (Nat.le_of_lt hz) (.cells #[.int .i64 0, .int .i64 0, .string ⟨#[]⟩] 47)
    obtain ⟨r0, r1, r2, q0, q1, q2⟩ := R.three
    obtain ⟨x0, x1, x2, p0, p1, p2⟩ := V.three
    go_wp2_with fail
    refine (HU.out _ (HRR.out.below bw)).mono ?_
    rintro e w2 ⟨n, N, rfl, hb⟩
    clear r0 r1 r2 q0 q1 q2 x0 x1 x2 p0 p1 p2
    have R := R.next hb
    have V := V.next hb
    have bw := two bw hb
    clear hb
    obtain ⟨r0, r1, r2, q0, q1, q2⟩ := R.three
    obtain ⟨x0, x1, x2, p0, p1, p2⟩ := V.three
    go_wp2_with fail
    try simp only [Exit.inBlock, Exit.then]
    refine bodyPost_ret (by simp [results, Tryz.results26, go_sem, r0, r1, r2, hz1, hz2]; try rfl) rfl ?_
    exact ⟨rfl, by go_grown⟩

/-- Any text read as a value. -/
theorem parse_is (s : ByteArray) (k n : Int) (t : ByteArray) (er : Int) (w : World) (h : ParsesTo s.data.toList k n t.data.toList er) (hs : s.size ≤ 20000) (hE : Env w) (hR : Errs w) :
    Calls Tryz.prog 26 #[.string s] w fun e w' => e = .returned (.tuple #[.agg #[.int .i64 k, .int .i64 n, .string t], .int .i64 er]) ∧ Below w.heap.size w w' := by
  by_cases hn : s.data.toList = nullL
  · obtain rfl : s = ⟨#[110, 117, 108, 108]⟩ := str_of hn
    have hv : k = 0 ∧ n = 0 ∧ t = ⟨#[]⟩ ∧ er = 0 := by
      rcases h with ⟨rfl, hc, hs⟩ | ⟨rfl, rfl, rfl, ht, hx⟩
      · have hc' : candV nullL = some (k, n, t.data.toList) := hc
        rw [cand_null] at hc'
        simp only [Option.some.injEq, Prod.mk.injEq] at hc'
        obtain ⟨rfl, rfl, h3⟩ := hc'
        exact ⟨rfl, rfl, str_of h3.symm, rfl⟩
      · exact absurd (by decide +kernel) (hx 0 0 [] cand_null)
    obtain ⟨rfl, rfl, rfl, rfl⟩ := hv
    exact parse_null w hE
  by_cases hq : isQ s.data.toList = true
  · have hc : candV s.data.toList = some (2, 0, (unqL (inner s.data.toList)).1) := by unfold candV; rw [if_neg hn, if_pos hq]
    rcases h with ⟨rfl, hc2, hs2⟩ | ⟨rfl, rfl, rfl, ht, hx⟩
    · rw [hc] at hc2
      simp only [Option.some.injEq, Prod.mk.injEq] at hc2
      obtain ⟨rfl, rfl, h3⟩ := hc2
      rw [list_eta] at hs2
      exact parse_qt s t w hq hn h3 (decide_eq_true hs2) hs hE
    · obtain rfl : t = ⟨#[]⟩ := str_of ht
      exact parse_qf s ⟨(unqL (inner s.data.toList)).1.toArray⟩ w hq hn rfl (decide_eq_false (hx _ _ _ hc)) hs hE
  have hq' : isQ s.data.toList = false := by simpa using hq
  cases ha : Lib.atoiAll s.data.toList with
  | ok v =>
    have hc : candV s.data.toList = some (1, v, []) := by unfold candV; rw [if_neg hn, if_neg hq, ha]
    rcases h with ⟨rfl, hc2, hs2⟩ | ⟨rfl, rfl, rfl, ht, hx⟩
    · rw [hc] at hc2
      simp only [Option.some.injEq, Prod.mk.injEq] at hc2
      obtain ⟨rfl, rfl, h3⟩ := hc2
      obtain rfl : t = ⟨#[]⟩ := str_of h3.symm
      exact parse_nt s v w hq' hn ha (decide_eq_true hs2) hs hE
    · obtain rfl : t = ⟨#[]⟩ := str_of ht
      exact parse_nf s v w hq' hn ha (decide_eq_false (hx _ _ _ hc)) hs hE
  | _ =>
    have hc : candV s.data.toList = none := by unfold candV; rw [if_neg hn, if_neg hq, ha]
    rcases h with ⟨rfl, hc2, hs2⟩ | ⟨rfl, rfl, rfl, ht, hx⟩
    · rw [hc] at hc2; cases hc2
    · obtain rfl : t = ⟨#[]⟩ := str_of ht
      exact parse_no s w hq' hn (fun v hv => by rw [ha] at hv; cases hv) hs hE hR
end Go.Proofs.YtfmjeggomphliaaGreatDoor.Va
