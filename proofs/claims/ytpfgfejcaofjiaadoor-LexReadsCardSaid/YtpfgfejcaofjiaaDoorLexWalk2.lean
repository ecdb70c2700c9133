/- Walks: the token at a place. -/
import Derived.Test.YtpfgfejcaofjiaaDoorLexWalk1
import Derived.Test.YtpfgfejcaofjiaaDoorValRead
import Derived.Test.YtpfgfejcaofjiaaDoorShelf
import Derived.Deep.Cut
set_option linter.unusedVariables false
set_option linter.unusedSimpArgs false
namespace Go.Proofs.YtpfgfejcaofjiaaDoor.Lx
open Go.RowKit Go Ba Va

/-- The signs, the longer ones first. -/
def sgL : List (List UInt8) := [[33, 61], [60, 61], [62, 61], [46, 46], [40], [41], [44], [59], [58], [124], [43], [45], [42], [47], [37], [61], [60], [62]]
theorem hp0 (x : List UInt8) (y : UInt8) (z : List UInt8) : Lib.hasPrefix [] (y :: z) = false := rfl
theorem hp1 (a x : UInt8) (r : List UInt8) : Lib.hasPrefix (a :: r) [x] = (x == a) := by simp [Lib.hasPrefix, List.isPrefixOf]
theorem hp2 (a b x y : UInt8) (r : List UInt8) : Lib.hasPrefix (a :: b :: r) [x, y] = (x == a && y == b) := by simp [Lib.hasPrefix, List.isPrefixOf]
theorem hp3 (a x y : UInt8) : Lib.hasPrefix [a] [x, y] = false := by simp [Lib.hasPrefix, List.isPrefixOf]
theorem beq_no {x a : UInt8} (h : ¬ a = x) : (x == a) = false := by rw [beq_eq_false_iff_ne]; exact fun e => h e.symm
theorem sg_one (a : UInt8) : signN [a] = if a ∈ sign1L then 1 else 0 := rfl
theorem sg_two (a b : UInt8) (r : List UInt8) : signN (a :: b :: r) = if sign2B a b = true then 2 else if a ∈ sign1L then 1 else 0 := rfl
theorem first_one (a : UInt8) : sgL.find? (fun x => Lib.hasPrefix [a] x) = if signN [a] = 0 then none else some ([a].take (signN [a])) := by
  unfold sgL
  simp only [List.find?_cons, List.find?_nil, hp1, hp3]
  by_cases h : a ∈ sign1L
  · have hm := h
    unfold sign1L at hm
    simp only [List.mem_cons, List.not_mem_nil, or_false] at hm
    rcases hm with rfl | rfl | rfl | rfl | rfl | rfl | rfl | rfl | rfl | rfl | rfl | rfl | rfl | rfl <;> decide
  · have hs : signN [a] = 0 := by rw [sg_one, if_neg h]
    rw [if_pos hs]
    unfold sign1L at h
    simp only [List.mem_cons, List.not_mem_nil, or_false, not_or] at h
    obtain ⟨h1, h2, h3, h4, h5, h6, h7, h8, h9, h10, h11, h12, h13, h14⟩ := h
    simp only [beq_no h1, beq_no h2, beq_no h3, beq_no h4, beq_no h5, beq_no h6, beq_no h7, beq_no h8, beq_no h9, beq_no h10, beq_no h11, beq_no h12, beq_no h13, beq_no h14]
theorem first_two (a b : UInt8) (r : List UInt8) : sgL.find? (fun x => Lib.hasPrefix (a :: b :: r) x) = if signN (a :: b :: r) = 0 then none else some ((a :: b :: r).take (signN (a :: b :: r))) := by
  unfold sgL
  simp only [List.find?_cons, List.find?_nil, hp1, hp2]
  by_cases h2 : sign2B a b = true
  · have hs : signN (a :: b :: r) = 2 := by rw [sg_two, if_pos h2]
    rw [hs, if_neg (by decide)]
    unfold sign2B at h2
    simp only [decide_eq_true_eq] at h2
    rcases h2 with ⟨rfl, rfl⟩ | ⟨rfl, rfl⟩ | ⟨rfl, rfl⟩ | ⟨rfl, rfl⟩ <;> rfl
  · have hs : signN (a :: b :: r) = if a ∈ sign1L then 1 else 0 := by rw [sg_two, if_neg h2]
    rw [hs]
    unfold sign2B at h2
    simp only [decide_eq_true_eq, not_or, not_and] at h2
    obtain ⟨n1, n2, n3, n4⟩ := h2
    have m1 : ((33 : UInt8) == a && (61 : UInt8) == b) = false := by
      by_cases e : a = 33
      · rw [beq_no (n1 e), Bool.and_false]
      · rw [beq_no e, Bool.false_and]
    have m2 : ((60 : UInt8) == a && (61 : UInt8) == b) = false := by
      by_cases e : a = 60
      · rw [beq_no (n2 e), Bool.and_false]
      · rw [beq_no e, Bool.false_and]
    have m3 : ((62 : UInt8) == a && (61 : UInt8) == b) = false := by
      by_cases e : a = 62
      · rw [beq_no (n3 e), Bool.and_false]
      · rw [beq_no e, Bool.false_and]
    have m4 : ((46 : UInt8) == a && (46 : UInt8) == b) = false := by
      by_cases e : a = 46
      · rw [beq_no (n4 e), Bool.and_false]
      · rw [beq_no e, Bool.false_and]
    simp only [m1, m2, m3, m4]
    by_cases h : a ∈ sign1L
    · rw [if_pos h]
      have hm := h
      unfold sign1L at hm
      simp only [List.mem_cons, List.not_mem_nil, or_false] at hm
      clear n1 n2 n3 n4 m1 m2 m3 m4 hs h
      rcases hm with rfl | rfl | rfl | rfl | rfl | rfl | rfl | rfl | rfl | rfl | rfl | rfl | rfl | rfl <;> rfl
    · rw [if_neg h]
      unfold sign1L at h
      simp only [List.mem_cons, List.not_mem_nil, or_false, not_or] at h
      obtain ⟨h1, h2, h3, h4, h5, h6, h7, h8, h9, h10, h11, h12, h13, h14⟩ := h
      simp only [beq_no h1, beq_no h2, beq_no h3, beq_no h4, beq_no h5, beq_no h6, beq_no h7, beq_no h8, beq_no h9, beq_no h10, beq_no h11, beq_no h12, beq_no h13, beq_no h14]
      rfl
theorem first_sign (l : List UInt8) (h : l ≠ []) : sgL.find? (fun x => Lib.hasPrefix l x) = if signN l = 0 then none else some (l.take (signN l)) := by
  match l, h with
  | [a], _ => exact first_one a
  | a :: b :: r, _ => exact first_two a b r
theorem signN_le (l : List UInt8) : signN l ≤ l.length ∧ signN l ≤ 2 := by
  match l with
  | [] => exact ⟨Nat.le_refl _, by decide⟩
  | [a] => rw [sg_one]; split <;> simp
  | a :: b :: r =>
    rw [sg_two]
    split
    · simp
    · split <;> simp
def sgB (k : Nat) : ByteArray := ⟨(sgL.getD k []).toArray⟩
theorem sgB_data (k : Nat) : (sgB k).data.toList = sgL.getD k [] := rfl
theorem sgAt0 (w : World) : (Instr.index 61 (.agg #[.string ⟨#[33, 61]⟩, .string ⟨#[60, 61]⟩, .string ⟨#[62, 61]⟩, .string ⟨#[46, 46]⟩, .string ⟨#[40]⟩, .string ⟨#[41]⟩, .string ⟨#[44]⟩, .string ⟨#[59]⟩, .string ⟨#[58]⟩, .string ⟨#[124]⟩, .string ⟨#[43]⟩, .string ⟨#[45]⟩, .string ⟨#[42]⟩, .string ⟨#[47]⟩, .string ⟨#[37]⟩, .string ⟨#[61]⟩, .string ⟨#[60]⟩, .string ⟨#[62]⟩]) (.int .i64 0)).run Tryd.prog w = .ok (.string ⟨#[33, 61]⟩) w := by kernel_rfl
theorem sgAt1 (w : World) : (Instr.index 61 (.agg #[.string ⟨#[33, 61]⟩, .string ⟨#[60, 61]⟩, .string ⟨#[62, 61]⟩, .string ⟨#[46, 46]⟩, .string ⟨#[40]⟩, .string ⟨#[41]⟩, .string ⟨#[44]⟩, .string ⟨#[59]⟩, .string ⟨#[58]⟩, .string ⟨#[124]⟩, .string ⟨#[43]⟩, .string ⟨#[45]⟩, .string ⟨#[42]⟩, .string ⟨#[47]⟩, .string ⟨#[37]⟩, .string ⟨#[61]⟩, .string ⟨#[60]⟩, .string ⟨#[62]⟩]) (.int .i64 1)).run Tryd.prog w = .ok (.string ⟨#[60, 61]⟩) w := by kernel_rfl
theorem sgAt2 (w : World) : (Instr.index 61 (.agg #[.string ⟨#[33, 61]⟩, .string ⟨#[60, 61]⟩, .string ⟨#[62, 61]⟩, .string ⟨#[46, 46]⟩, .string ⟨#[40]⟩, .string ⟨#[41]⟩, .string ⟨#[44]⟩, .string ⟨#[59]⟩, .string ⟨#[58]⟩, .string ⟨#[124]⟩, .string ⟨#[43]⟩, .string ⟨#[45]⟩, .string ⟨#[42]⟩, .string ⟨#[47]⟩, .string ⟨#[37]⟩, .string ⟨#[61]⟩, .string ⟨#[60]⟩, .string ⟨#[62]⟩]) (.int .i64 2)).run Tryd.prog w = .ok (.string ⟨#[62, 61]⟩) w := by kernel_rfl
theorem sgAt3 (w : World) : (Instr.index 61 (.agg #[.string ⟨#[33, 61]⟩, .string ⟨#[60, 61]⟩, .string ⟨#[62, 61]⟩, .string ⟨#[46, 46]⟩, .string ⟨#[40]⟩, .string ⟨#[41]⟩, .string ⟨#[44]⟩, .string ⟨#[59]⟩, .string ⟨#[58]⟩, .string ⟨#[124]⟩, .string ⟨#[43]⟩, .string ⟨#[45]⟩, .string ⟨#[42]⟩, .string ⟨#[47]⟩, .string ⟨#[37]⟩, .string ⟨#[61]⟩, .string ⟨#[60]⟩, .string ⟨#[62]⟩]) (.int .i64 3)).run Tryd.prog w = .ok (.string ⟨#[46, 46]⟩) w := by kernel_rfl
theorem sgAt4 (w : World) : (Instr.index 61 (.agg #[.string ⟨#[33, 61]⟩, .string ⟨#[60, 61]⟩, .string ⟨#[62, 61]⟩, .string ⟨#[46, 46]⟩, .string ⟨#[40]⟩, .string ⟨#[41]⟩, .string ⟨#[44]⟩, .string ⟨#[59]⟩, .string ⟨#[58]⟩, .string ⟨#[124]⟩, .string ⟨#[43]⟩, .string ⟨#[45]⟩, .string ⟨#[42]⟩, .string ⟨#[47]⟩, .string ⟨#[37]⟩, .string ⟨#[61]⟩, .string ⟨#[60]⟩, .string ⟨#[62]⟩]) (.int .i64 4)).run Tryd.prog w = .ok (.string ⟨#[40]⟩) w := by kernel_rfl
theorem sgAt5 (w : World) : (Instr.index 61 (.agg #[.string ⟨#[33, 61]⟩, .string ⟨#[60, 61]⟩, .string ⟨#[62, 61]⟩, .string ⟨#[46, 46]⟩, .string ⟨#[40]⟩, .string ⟨#[41]⟩, .string ⟨#[44]⟩, .string ⟨#[59]⟩, .string ⟨#[58]⟩, .string ⟨#[124]⟩, .string ⟨#[43]⟩, .string ⟨#[45]⟩, .string ⟨#[42]⟩, .string ⟨#[47]⟩, .string ⟨#[37]⟩, .string ⟨#[61]⟩, .string ⟨#[60]⟩, .string ⟨#[62]⟩]) (.int .i64 5)).run Tryd.prog w = .ok (.string ⟨#[41]⟩) w := by kernel_rfl
theorem sgAt6 (w : World) : (Instr.index 61 (.agg #[.string ⟨#[33, 61]⟩, .string ⟨#[60, 61]⟩, .string ⟨#[62, 61]⟩, .string ⟨#[46, 46]⟩, .string ⟨#[40]⟩, .string ⟨#[41]⟩, .string ⟨#[44]⟩, .string ⟨#[59]⟩, .string ⟨#[58]⟩, .string ⟨#[124]⟩, .string ⟨#[43]⟩, .string ⟨#[45]⟩, .string ⟨#[42]⟩, .string ⟨#[47]⟩, .string ⟨#[37]⟩, .string ⟨#[61]⟩, .string ⟨#[60]⟩, .string ⟨#[62]⟩]) (.int .i64 6)).run Tryd.prog w = .ok (.string ⟨#[44]⟩) w := by kernel_rfl
theorem sgAt7 (w : World) : (Instr.index 61 (.agg #[.string ⟨#[33, 61]⟩, .string ⟨#[60, 61]⟩, .string ⟨#[62, 61]⟩, .string ⟨#[46, 46]⟩, .string ⟨#[40]⟩, .string ⟨#[41]⟩, .string ⟨#[44]⟩, .string ⟨#[59]⟩, .string ⟨#[58]⟩, .string ⟨#[124]⟩, .string ⟨#[43]⟩, .string ⟨#[45]⟩, .string ⟨#[42]⟩, .string ⟨#[47]⟩, .string ⟨#[37]⟩, .string ⟨#[61]⟩, .string ⟨#[60]⟩, .string ⟨#[62]⟩]) (.int .i64 7)).run Tryd.prog w = .ok (.string ⟨#[59]⟩) w := by kernel_rfl
theorem sgAt8 (w : World) : (Instr.index 61 (.agg #[.string ⟨#[33, 61]⟩, .string ⟨#[60, 61]⟩, .string ⟨#[62, 61]⟩, .string ⟨#[46, 46]⟩, .string ⟨#[40]⟩, .string ⟨#[41]⟩, .string ⟨#[44]⟩, .string ⟨#[59]⟩, .string ⟨#[58]⟩, .string ⟨#[124]⟩, .string ⟨#[43]⟩, .string ⟨#[45]⟩, .string ⟨#[42]⟩, .string ⟨#[47]⟩, .string ⟨#[37]⟩, .string ⟨#[61]⟩, .string ⟨#[60]⟩, .string ⟨#[62]⟩]) (.int .i64 8)).run Tryd.prog w = .ok (.string ⟨#[58]⟩) w := by kernel_rfl
theorem sgAt9 (w : World) : (Instr.index 61 (.agg #[.string ⟨#[33, 61]⟩, .string ⟨#[60, 61]⟩, .string ⟨#[62, 61]⟩, .string ⟨#[46, 46]⟩, .string ⟨#[40]⟩, .string ⟨#[41]⟩, .string ⟨#[44]⟩, .string ⟨#[59]⟩, .string ⟨#[58]⟩, .string ⟨#[124]⟩, .string ⟨#[43]⟩, .string ⟨#[45]⟩, .string ⟨#[42]⟩, .string ⟨#[47]⟩, .string ⟨#[37]⟩, .string ⟨#[61]⟩, .string ⟨#[60]⟩, .string ⟨#[62]⟩]) (.int .i64 9)).run Tryd.prog w = .ok (.string ⟨#[124]⟩) w := by kernel_rfl
theorem sgAt10 (w : World) : (Instr.index 61 (.agg #[.string ⟨#[33, 61]⟩, .string ⟨#[60, 61]⟩, .string ⟨#[62, 61]⟩, .string ⟨#[46, 46]⟩, .string ⟨#[40]⟩, .string ⟨#[41]⟩, .string ⟨#[44]⟩, .string ⟨#[59]⟩, .string ⟨#[58]⟩, .string ⟨#[124]⟩, .string ⟨#[43]⟩, .string ⟨#[45]⟩, .string ⟨#[42]⟩, .string ⟨#[47]⟩, .string ⟨#[37]⟩, .string ⟨#[61]⟩, .string ⟨#[60]⟩, .string ⟨#[62]⟩]) (.int .i64 10)).run Tryd.prog w = .ok (.string ⟨#[43]⟩) w := by kernel_rfl
theorem sgAt11 (w : World) : (Instr.index 61 (.agg #[.string ⟨#[33, 61]⟩, .string ⟨#[60, 61]⟩, .string ⟨#[62, 61]⟩, .string ⟨#[46, 46]⟩, .string ⟨#[40]⟩, .string ⟨#[41]⟩, .string ⟨#[44]⟩, .string ⟨#[59]⟩, .string ⟨#[58]⟩, .string ⟨#[124]⟩, .string ⟨#[43]⟩, .string ⟨#[45]⟩, .string ⟨#[42]⟩, .string ⟨#[47]⟩, .string ⟨#[37]⟩, .string ⟨#[61]⟩, .string ⟨#[60]⟩, .string ⟨#[62]⟩]) (.int .i64 11)).run Tryd.prog w = .ok (.string ⟨#[45]⟩) w := by kernel_rfl
theorem sgAt12 (w : World) : (Instr.index 61 (.agg #[.string ⟨#[33, 61]⟩, .string ⟨#[60, 61]⟩, .string ⟨#[62, 61]⟩, .string ⟨#[46, 46]⟩, .string ⟨#[40]⟩, .string ⟨#[41]⟩, .string ⟨#[44]⟩, .string ⟨#[59]⟩, .string ⟨#[58]⟩, .string ⟨#[124]⟩, .string ⟨#[43]⟩, .string ⟨#[45]⟩, .string ⟨#[42]⟩, .string ⟨#[47]⟩, .string ⟨#[37]⟩, .string ⟨#[61]⟩, .string ⟨#[60]⟩, .string ⟨#[62]⟩]) (.int .i64 12)).run Tryd.prog w = .ok (.string ⟨#[42]⟩) w := by kernel_rfl
theorem sgAt13 (w : World) : (Instr.index 61 (.agg #[.string ⟨#[33, 61]⟩, .string ⟨#[60, 61]⟩, .string ⟨#[62, 61]⟩, .string ⟨#[46, 46]⟩, .string ⟨#[40]⟩, .string ⟨#[41]⟩, .string ⟨#[44]⟩, .string ⟨#[59]⟩, .string ⟨#[58]⟩, .string ⟨#[124]⟩, .string ⟨#[43]⟩, .string ⟨#[45]⟩, .string ⟨#[42]⟩, .string ⟨#[47]⟩, .string ⟨#[37]⟩, .string ⟨#[61]⟩, .string ⟨#[60]⟩, .string ⟨#[62]⟩]) (.int .i64 13)).run Tryd.prog w = .ok (.string ⟨#[47]⟩) w := by kernel_rfl
theorem sgAt14 (w : World) : (Instr.index 61 (.agg #[.string ⟨#[33, 61]⟩, .string ⟨#[60, 61]⟩, .string ⟨#[62, 61]⟩, .string ⟨#[46, 46]⟩, .string ⟨#[40]⟩, .string ⟨#[41]⟩, .string ⟨#[44]⟩, .string ⟨#[59]⟩, .string ⟨#[58]⟩, .string ⟨#[124]⟩, .string ⟨#[43]⟩, .string ⟨#[45]⟩, .string ⟨#[42]⟩, .string ⟨#[47]⟩, .string ⟨#[37]⟩, .string ⟨#[61]⟩, .string ⟨#[60]⟩, .string ⟨#[62]⟩]) (.int .i64 14)).run Tryd.prog w = .ok (.string ⟨#[37]⟩) w := by kernel_rfl
theorem sgAt15 (w : World) : (Instr.index 61 (.agg #[.string ⟨#[33, 61]⟩, .string ⟨#[60, 61]⟩, .string ⟨#[62, 61]⟩, .string ⟨#[46, 46]⟩, .string ⟨#[40]⟩, .string ⟨#[41]⟩, .string ⟨#[44]⟩, .string ⟨#[59]⟩, .string ⟨#[58]⟩, .string ⟨#[124]⟩, .string ⟨#[43]⟩, .string ⟨#[45]⟩, .string ⟨#[42]⟩, .string ⟨#[47]⟩, .string ⟨#[37]⟩, .string ⟨#[61]⟩, .string ⟨#[60]⟩, .string ⟨#[62]⟩]) (.int .i64 15)).run Tryd.prog w = .ok (.string ⟨#[61]⟩) w := by kernel_rfl
theorem sgAt16 (w : World) : (Instr.index 61 (.agg #[.string ⟨#[33, 61]⟩, .string ⟨#[60, 61]⟩, .string ⟨#[62, 61]⟩, .string ⟨#[46, 46]⟩, .string ⟨#[40]⟩, .string ⟨#[41]⟩, .string ⟨#[44]⟩, .string ⟨#[59]⟩, .string ⟨#[58]⟩, .string ⟨#[124]⟩, .string ⟨#[43]⟩, .string ⟨#[45]⟩, .string ⟨#[42]⟩, .string ⟨#[47]⟩, .string ⟨#[37]⟩, .string ⟨#[61]⟩, .string ⟨#[60]⟩, .string ⟨#[62]⟩]) (.int .i64 16)).run Tryd.prog w = .ok (.string ⟨#[60]⟩) w := by kernel_rfl
theorem sgAt17 (w : World) : (Instr.index 61 (.agg #[.string ⟨#[33, 61]⟩, .string ⟨#[60, 61]⟩, .string ⟨#[62, 61]⟩, .string ⟨#[46, 46]⟩, .string ⟨#[40]⟩, .string ⟨#[41]⟩, .string ⟨#[44]⟩, .string ⟨#[59]⟩, .string ⟨#[58]⟩, .string ⟨#[124]⟩, .string ⟨#[43]⟩, .string ⟨#[45]⟩, .string ⟨#[42]⟩, .string ⟨#[47]⟩, .string ⟨#[37]⟩, .string ⟨#[61]⟩, .string ⟨#[60]⟩, .string ⟨#[62]⟩]) (.int .i64 17)).run Tryd.prog w = .ok (.string ⟨#[62]⟩) w := by kernel_rfl
theorem sgAt (k : Nat) (hk : k < 18) (w : World) : (Instr.index 61 (.agg #[.string ⟨#[33, 61]⟩, .string ⟨#[60, 61]⟩, .string ⟨#[62, 61]⟩, .string ⟨#[46, 46]⟩, .string ⟨#[40]⟩, .string ⟨#[41]⟩, .string ⟨#[44]⟩, .string ⟨#[59]⟩, .string ⟨#[58]⟩, .string ⟨#[124]⟩, .string ⟨#[43]⟩, .string ⟨#[45]⟩, .string ⟨#[42]⟩, .string ⟨#[47]⟩, .string ⟨#[37]⟩, .string ⟨#[61]⟩, .string ⟨#[60]⟩, .string ⟨#[62]⟩]) (.int .i64 (k : Int))).run Tryd.prog w = .ok (.string (sgB k)) w := by
  match k, hk with
  | 0, _ => exact sgAt0 w
  | 1, _ => exact sgAt1 w
  | 2, _ => exact sgAt2 w
  | 3, _ => exact sgAt3 w
  | 4, _ => exact sgAt4 w
  | 5, _ => exact sgAt5 w
  | 6, _ => exact sgAt6 w
  | 7, _ => exact sgAt7 w
  | 8, _ => exact sgAt8 w
  | 9, _ => exact sgAt9 w
  | 10, _ => exact sgAt10 w
  | 11, _ => exact sgAt11 w
  | 12, _ => exact sgAt12 w
  | 13, _ => exact sgAt13 w
  | 14, _ => exact sgAt14 w
  | 15, _ => exact sgAt15 w
  | 16, _ => exact sgAt16 w
  | 17, _ => exact sgAt17 w
  | n + 18, h => exact absurd h (by omega)

/-- What the walks of tokens lean on. -/
structure EnvL (w : World) : Prop where
  pow : Va.Env w
  err : Errs w
  sg : ∀ j, j < 18 → w.cell? ⟨0, j, none⟩ = some (.string (sgB j))
theorem EnvL.below {w w' : World} (h : EnvL w) (hb : Below w.heap.size w w') : EnvL w' :=
  ⟨Va.Env.below h.pow hb, h.err.below hb, fun j hj => (hb.cell (by exact lt_of_cell (h.sg j hj))).trans (h.sg j hj)⟩
/-- What is told of the token at a place. -/
def nextV (a : Nat) (r : TokR) : Value := match r with
  | .ok k t n m => .tuple #[.agg #[.int .i64 k, .string ⟨t.toArray⟩, .int .i64 n, .int .i64 (a : Int)], .int .i64 ((a + m : Nat) : Int), .int .i64 0]
  | .err e => .tuple #[.agg #[.int .i64 0, .string ⟨#[]⟩, .int .i64 0, .int .i64 (a : Int)], .int .i64 0, .int .i64 e]
theorem four {W : World} {B : Nat} {a b c d : Value} (h : Box W B [a, b, c, d]) : W.cell? ⟨B, 0, none⟩ = some a ∧ W.cell? ⟨B, 1, none⟩ = some b ∧ W.cell? ⟨B, 2, none⟩ = some c ∧ W.cell? ⟨B, 3, none⟩ = some d ∧ W.frozen? ⟨B, 0, none⟩ = false ∧ W.frozen? ⟨B, 1, none⟩ = false ∧ W.frozen? ⟨B, 2, none⟩ = false ∧ W.frozen? ⟨B, 3, none⟩ = false :=
  ⟨h.cl 0 _ rfl, h.cl 1 _ rfl, h.cl 2 _ rfl, h.cl 3 _ rfl, h.fr 0 (by simp), h.fr 1 (by simp), h.fr 2 (by simp), h.fr 3 (by simp)⟩
theorem take_is (s : ByteArray) (a n : Nat) : s.extract a (a + n) = ⟨((s.data.toList.drop a).take n).toArray⟩ := by
  refine str_of ?_
  rw [Lib.extract_data]
  congr 2
  omega
theorem put4 {W : World} {B : Nat} {a b c d : Value} (h : Box W B [a, b, c, d]) (a' b' c' d' : Value) :
    Box ((((W.setCell ⟨B, 0, none⟩ a').setCell ⟨B, 1, none⟩ b').setCell ⟨B, 2, none⟩ c').setCell ⟨B, 3, none⟩ d') B [a', b', c', d'] := ((((h.put 0 a').put 1 b').put 2 c').put 3 d')
theorem bput4 {W w : World} {B C : Nat} (h : Below B w W) (hC : B ≤ C) (a' b' c' d' : Value) :
    Below B w ((((W.setCell ⟨C, 0, none⟩ a').setCell ⟨C, 1, none⟩ b').setCell ⟨C, 2, none⟩ c').setCell ⟨C, 3, none⟩ d') :=
  (((h.setCell hC _).setCell hC _).setCell hC _).setCell hC _
theorem bput2 {W w : World} {B C : Nat} (h : Below B w W) (hC : B ≤ C) (i j : Nat) (a' b' : Value) :
    Below B w ((W.setCell ⟨C, i, none⟩ a').setCell ⟨C, j, none⟩ b') :=
  (h.setCell hC _).setCell hC _
set_option maxHeartbeats 1600000 in
theorem next_word (s : ByteArray) (a : Nat) (c : UInt8) (w : World) (ha : a < s.size) (hs : s.size ≤ 20000) (hc : s.data.toList[a]? = some c) (h1 : letB c = true) (h3 : runN wordB (s.data.toList.drop a) ≤ 16) :
    Calls Tryd.prog 15 #[.string s, .int .i64 (a : Int)] w fun e w' => e = .returned (nextV a (.ok 1 ((s.data.toList.drop a).take (runN wordB (s.data.toList.drop a))) 0 (runN wordB (s.data.toList.drop a)))) ∧ Below w.heap.size w w' := by
  have hat := str_at ha hc
  have HL := Lib.hid (fun W => by have := letter_any c W; rw [h1] at this; exact this)
  have hbd := run_bd wordB s.data.toList a (by rw [← size_list]; omega)
  rw [← size_list] at hbd
  have HRUN := Lib.hid (fun W => run_word s a W (by omega) (by omega))
  have hx := take_is s a (runN wordB (s.data.toList.drop a))
  obtain ⟨m, hm⟩ : ∃ m, runN wordB (s.data.toList.drop a) = m := ⟨_, rfl⟩
  rw [hm] at hx h3 hbd HRUN ⊢
  obtain ⟨X, hX⟩ : ∃ X : ByteArray, s.extract a (a + m) = X := ⟨_, rfl⟩
  have HNV : Hid (nextV a (.ok 1 ((s.data.toList.drop a).take m) 0 m) = .tuple #[.agg #[.int .i64 1, .string X, .int .i64 0, .int .i64 (a : Int)], .int .i64 ((a + m : Nat) : Int), .int .i64 0]) := by
    show nextV a (.ok 1 ((s.data.toList.drop a).take m) 0 m) = _
    rw [← hX, hx]; rfl
  obtain ⟨z, hz⟩ : ∃ z : Nat, a + m = z := ⟨_, rfl⟩
  rw [hz] at hX hbd HRUN HNV
  have haz : a ≤ z := by omega
  have hz16 : z ≤ a + 16 := by omega
  clear h1 h3 hc hm hx hz
  go_enter Tryd.func15, Tryd.ntmps15
  go_wp2_with (first | (go_at_call 27; refine (HL.out _).mono ?_; rintro e w' ⟨rfl, rfl⟩) | (go_at_call 29; refine (HD.out _).mono ?_; rintro e w' ⟨rfl, rfl⟩) | (go_at_call 25; refine (HRUN.out _).mono ?_; rintro e w' ⟨rfl, rfl⟩) | (go_at_call 31; refine (HQ.out _).mono ?_; rintro e w' ⟨rfl, rfl⟩))
  go_region
  go_wp2_with (first | (go_at_call 27; refine (HL.out _).mono ?_; rintro e w' ⟨rfl, rfl⟩) | (go_at_call 29; refine (HD.out _).mono ?_; rintro e w' ⟨rfl, rfl⟩) | (go_at_call 25; refine (HRUN.out _).mono ?_; rintro e w' ⟨rfl, rfl⟩) | (go_at_call 31; refine (HQ.out _).mono ?_; rintro e w' ⟨rfl, rfl⟩))
  try simp only [Exit.inBlock, Exit.then]
  refine bodyPost_ret (by simp [results, Tryd.results15, go_sem]; try rfl) rfl ?_
  exact ⟨by rw [HNV.out], by go_grown⟩
set_option maxHeartbeats 1600000 in
theorem next_word_no (s : ByteArray) (a : Nat) (c : UInt8) (w : World) (ha : a < s.size) (hs : s.size ≤ 20000) (hc : s.data.toList[a]? = some c) (h1 : letB c = true) (h3 : 16 < runN wordB (s.data.toList.drop a)) :
    Calls Tryd.prog 15 #[.string s, .int .i64 (a : Int)] w fun e w' => e = .returned (nextV a (.err 50)) ∧ Below w.heap.size w w' := by
  have hat := str_at ha hc
  have HL := Lib.hid (fun W => by have := letter_any c W; rw [h1] at this; exact this)
  have hbd := run_bd wordB s.data.toList a (by rw [← size_list]; omega)
  rw [← size_list] at hbd
  have HRUN := Lib.hid (fun W => run_word s a W (by omega) (by omega))
  have hx := take_is s a (runN wordB (s.data.toList.drop a))
  obtain ⟨m, hm⟩ : ∃ m, runN wordB (s.data.toList.drop a) = m := ⟨_, rfl⟩
  rw [hm] at h3 hbd HRUN
  obtain ⟨z, hz⟩ : ∃ z : Nat, a + m = z := ⟨_, rfl⟩
  rw [hz] at hbd HRUN
  have hz16 : a + 16 < z := by omega
  clear h1 h3 hc hm hx hz
  go_enter Tryd.func15, Tryd.ntmps15
  go_wp2_with (first | (go_at_call 27; refine (HL.out _).mono ?_; rintro e w' ⟨rfl, rfl⟩) | (go_at_call 29; refine (HD.out _).mono ?_; rintro e w' ⟨rfl, rfl⟩) | (go_at_call 25; refine (HRUN.out _).mono ?_; rintro e w' ⟨rfl, rfl⟩) | (go_at_call 31; refine (HQ.out _).mono ?_; rintro e w' ⟨rfl, rfl⟩))
  try simp only [Exit.inBlock, Exit.then]
  refine bodyPost_ret (by simp [results, Tryd.results15, go_sem]; try rfl) rfl ?_
  exact ⟨rfl, by go_grown⟩
theorem run_one {f : UInt8 → Bool} {l : List UInt8} {a : Nat} {c : UInt8} (h : l[a]? = some c) (hf : f c = true) : 1 ≤ runN f (l.drop a) := by
  rw [drop_at l a c h, runN_cons, if_pos hf]; omega
set_option maxHeartbeats 1600000 in
theorem next_zero (s : ByteArray) (a : Nat) (c : UInt8) (w : World) (ha : a < s.size) (hs : s.size ≤ 20000) (hc : s.data.toList[a]? = some c) (h1 : letB c = false) (h2 : digB c = true) (h0 : c = 48) (h3 : 1 < runN digB (s.data.toList.drop a)) :
    Calls Tryd.prog 15 #[.string s, .int .i64 (a : Int)] w fun e w' => e = .returned (nextV a (.err 50)) ∧ Below w.heap.size w w' := by
  have hat := str_at ha hc
  have HL := Lib.hid (fun W => by have := letter_any c W; rw [h1] at this; exact this)
  have HD := Lib.hid (fun W => by have := digit_any c W; rw [h2] at this; exact this)
  have hbd := run_bd digB s.data.toList a (by rw [← size_list]; omega)
  rw [← size_list] at hbd
  have HRUN := Lib.hid (fun W => run_dig s a W (by omega) (by omega))
  have hx := take_is s a (runN digB (s.data.toList.drop a))
  obtain ⟨m, hm⟩ : ∃ m, runN digB (s.data.toList.drop a) = m := ⟨_, rfl⟩
  rw [hm] at h3 hbd HRUN
  obtain ⟨z, hz⟩ : ∃ z : Nat, a + m = z := ⟨_, rfl⟩
  rw [hz] at hbd HRUN
  have hz1 : a + 1 < z := by omega
  subst h0
  clear h1 h2 h3 hc hm hx hz
  go_enter Tryd.func15, Tryd.ntmps15
  go_wp2_with (first | (go_at_call 27; refine (HL.out _).mono ?_; rintro e w' ⟨rfl, rfl⟩) | (go_at_call 29; refine (HD.out _).mono ?_; rintro e w' ⟨rfl, rfl⟩) | (go_at_call 25; refine (HRUN.out _).mono ?_; rintro e w' ⟨rfl, rfl⟩) | (go_at_call 31; refine (HQ.out _).mono ?_; rintro e w' ⟨rfl, rfl⟩))
  try simp only [Exit.inBlock, Exit.then]
  refine bodyPost_ret (by simp [results, Tryd.results15, go_sem]; try rfl) rfl ?_
  exact ⟨rfl, by go_grown⟩
set_option maxHeartbeats 1600000 in
theorem next_num (s : ByteArray) (a : Nat) (c : UInt8) (w : World) (ha : a < s.size) (hs : s.size ≤ 20000) (hc : s.data.toList[a]? = some c) (h1 : letB c = false) (h2 : digB c = true) (h0 : ¬ (c = 48 ∧ 1 < runN digB (s.data.toList.drop a))) (h3 : decV 0 ((s.data.toList.drop a).take (runN digB (s.data.toList.drop a))) ≤ 9223372036854775807) (hE : EnvL w) :
    Calls Tryd.prog 15 #[.string s, .int .i64 (a : Int)] w fun e w' => e = .returned (nextV a (.ok 2 [] (decV 0 ((s.data.toList.drop a).take (runN digB (s.data.toList.drop a))) : Nat) (runN digB (s.data.toList.drop a)))) ∧ Below w.heap.size w w' := by
  have HE := Lib.hid hE
  have hall := runN_all digB (s.data.toList.drop a)
  have hpos := run_one hc h2
  have hat := str_at ha hc
  have HL := Lib.hid (fun W => by have := letter_any c W; rw [h1] at this; exact this)
  have HD := Lib.hid (fun W => by have := digit_any c W; rw [h2] at this; exact this)
  have hbd := run_bd digB s.data.toList a (by rw [← size_list]; omega)
  rw [← size_list] at hbd
  have HRUN := Lib.hid (fun W => run_dig s a W (by omega) (by omega))
  have hx := take_is s a (runN digB (s.data.toList.drop a))
  obtain ⟨m, hm⟩ : ∃ m, runN digB (s.data.toList.drop a) = m := ⟨_, rfl⟩
  have hlm : ((s.data.toList.drop a).take (runN digB (s.data.toList.drop a))).length = runN digB (s.data.toList.drop a) := by
    rw [List.length_take]
    have := runN_le digB (s.data.toList.drop a)
    omega
  rw [hm] at hx h3 hbd h0 hall hpos hlm HRUN ⊢
  obtain ⟨L, hL⟩ : ∃ L, (s.data.toList.drop a).take m = L := ⟨_, rfl⟩
  rw [hL] at hx h3 hall hlm ⊢
  have hne : L ≠ [] := by
    intro e
    rw [e] at hlm
    simp only [List.length_nil] at hlm
    omega
  have hat2 := atoi_dig L hall hne
  rw [if_pos h3] at hat2
  have hsz : (s.extract a (a + m)).data.toList = L := by rw [hx]
  have hsz2 : (s.extract a (a + m)).size ≤ 20000 := by rw [size_data, hsz, hlm]; omega
  have HAT := Lib.hid (fun W  => atoi_yes (s.extract a (a + m)) (by omega) (decV 0 L : Nat) (by rw [hsz]; exact hat2) W)
  obtain ⟨n, hn⟩ : ∃ n : Nat, decV 0 L = n := ⟨_, rfl⟩
  rw [hn] at HAT ⊢
  have HNV : Hid (nextV a (.ok 2 [] ((n : Nat) : Int) m) = .tuple #[.agg #[.int .i64 2, .string ⟨#[]⟩, .int .i64 ((n : Nat) : Int), .int .i64 (a : Int)], .int .i64 ((a + m : Nat) : Int), .int .i64 0]) := by
    show nextV a (.ok 2 [] ((n : Nat) : Int) m) = _
    rfl
  obtain ⟨X, hX⟩ : ∃ X : ByteArray, s.extract a (a + m) = X := ⟨_, rfl⟩
  rw [hX] at HAT
  obtain ⟨z, hz⟩ : ∃ z : Nat, a + m = z := ⟨_, rfl⟩
  rw [hz] at hX hbd HRUN HNV
  have haz : a ≤ z := by omega
  by_cases h48 : c = 48
  · have hz1 : z ≤ a + 1 := by
      have : ¬ 1 < m := fun h => h0 ⟨h48, h⟩
      omega
    have hd1 : decide ((a : Int) + 1 < (z : Int)) = false := by rw [decide_eq_false_iff_not]; omega
    have hd2 : decide (a + 1 < z) = false := by rw [decide_eq_false_iff_not]; omega
    subst h48
    clear h0 h1 h2 h3 hc hm hx hz hE hall hpos hlm hL hne hat2 hsz hsz2 hn
    go_enter Tryd.func15, Tryd.ntmps15
    go_wp2_with (first | (go_at_call 27; refine (HL.out _).mono ?_; rintro e w' ⟨rfl, rfl⟩) | (go_at_call 29; refine (HD.out _).mono ?_; rintro e w' ⟨rfl, rfl⟩) | (go_at_call 25; refine (HRUN.out _).mono ?_; rintro e w' ⟨rfl, rfl⟩) | (go_at_call 31; refine (HQ.out _).mono ?_; rintro e w' ⟨rfl, rfl⟩))
    try any_goals (exfalso; omega)
    refine (HAT.out _).mono ?_
    rintro e w3 ⟨rfl, hb⟩
    have V := (Box.new w [.int .i64 0, .string ⟨#[]⟩, .int .i64 0, .int .i64 (a : Int)] 33).next hb
    have bw := two (w := w) (by go_grown) hb
    clear hb
    obtain ⟨v0, v1, v2, v3, g0, g1, g2, g3⟩ := four V
    have V' : Box ((w3.setCell ⟨w.heap.size, 0, none⟩ (.int .i64 2)).setCell ⟨w.heap.size, 2, none⟩ (.int .i64 (n : Int))) w.heap.size [.int .i64 2, .string ⟨#[]⟩, .int .i64 (n : Int), .int .i64 (a : Int)] := (V.put 0 (.int .i64 2)).put 2 (.int .i64 (n : Int))
    have bw' := bput2 bw (Nat.le_refl _) 0 2 (.int .i64 2) (.int .i64 (n : Int))
    have V'' := put4 V' (.int .i64 2) (.string ⟨#[]⟩) (.int .i64 (n : Int)) (.int .i64 (a : Int))
    have bw'' := bput4 bw' (Nat.le_refl _) (.int .i64 2) (.string ⟨#[]⟩) (.int .i64 (n : Int)) (.int .i64 (a : Int))
    go_wp2_with (first | (go_at_call 27; refine (HL.out _).mono ?_; rintro e w' ⟨rfl, rfl⟩) | (go_at_call 29; refine (HD.out _).mono ?_; rintro e w' ⟨rfl, rfl⟩) | (go_at_call 25; refine (HRUN.out _).mono ?_; rintro e w' ⟨rfl, rfl⟩) | (go_at_call 31; refine (HQ.out _).mono ?_; rintro e w' ⟨rfl, rfl⟩))
    clear v0 v1 v2 v3 g0 g1 g2 g3
    generalize ((((((w3.setCell ⟨w.heap.size, 0, none⟩ (.int .i64 2)).setCell ⟨w.heap.size, 2, none⟩ (.int .i64 (n : Int))).setCell ⟨w.heap.size, 0, none⟩ (.int .i64 2)).setCell ⟨w.heap.size, 1, none⟩ (.string ⟨#[]⟩)).setCell ⟨w.heap.size, 2, none⟩ (.int .i64 (n : Int))).setCell ⟨w.heap.size, 3, none⟩ (.int .i64 (a : Int))) = W2 at V'' bw'' ⊢
    obtain ⟨v0, v1, v2, v3, g0, g1, g2, g3⟩ := four V''
    try simp only [Exit.inBlock, Exit.then]
    refine bodyPost_ret (by simp [results, Tryd.results15, go_sem, v0, v1, v2, v3]; try rfl) rfl ?_
    exact ⟨by rw [HNV.out], bw''⟩
  · have t48 : ((c.toNat : Int) == 48) = false := bne_byte (n := 48) (by decide) h48
    clear h0 h1 h2 h3 hc hm hx hz hE hall hpos hlm hL hne hat2 hsz hsz2 h48 hn
    go_enter Tryd.func15, Tryd.ntmps15
    go_wp2_with (first | (go_at_call 27; refine (HL.out _).mono ?_; rintro e w' ⟨rfl, rfl⟩) | (go_at_call 29; refine (HD.out _).mono ?_; rintro e w' ⟨rfl, rfl⟩) | (go_at_call 25; refine (HRUN.out _).mono ?_; rintro e w' ⟨rfl, rfl⟩) | (go_at_call 31; refine (HQ.out _).mono ?_; rintro e w' ⟨rfl, rfl⟩))
    try any_goals (exfalso; omega)
    refine (HAT.out _).mono ?_
    rintro e w3 ⟨rfl, hb⟩
    have V := (Box.new w [.int .i64 0, .string ⟨#[]⟩, .int .i64 0, .int .i64 (a : Int)] 33).next hb
    have bw := two (w := w) (by go_grown) hb
    clear hb
    obtain ⟨v0, v1, v2, v3, g0, g1, g2, g3⟩ := four V
    have V' : Box ((w3.setCell ⟨w.heap.size, 0, none⟩ (.int .i64 2)).setCell ⟨w.heap.size, 2, none⟩ (.int .i64 (n : Int))) w.heap.size [.int .i64 2, .string ⟨#[]⟩, .int .i64 (n : Int), .int .i64 (a : Int)] := (V.put 0 (.int .i64 2)).put 2 (.int .i64 (n : Int))
    have bw' := bput2 bw (Nat.le_refl _) 0 2 (.int .i64 2) (.int .i64 (n : Int))
    have V'' := put4 V' (.int .i64 2) (.string ⟨#[]⟩) (.int .i64 (n : Int)) (.int .i64 (a : Int))
    have bw'' := bput4 bw' (Nat.le_refl _) (.int .i64 2) (.string ⟨#[]⟩) (.int .i64 (n : Int)) (.int .i64 (a : Int))
    go_wp2_with (first | (go_at_call 27; refine (HL.out _).mono ?_; rintro e w' ⟨rfl, rfl⟩) | (go_at_call 29; refine (HD.out _).mono ?_; rintro e w' ⟨rfl, rfl⟩) | (go_at_call 25; refine (HRUN.out _).mono ?_; rintro e w' ⟨rfl, rfl⟩) | (go_at_call 31; refine (HQ.out _).mono ?_; rintro e w' ⟨rfl, rfl⟩))
    clear v0 v1 v2 v3 g0 g1 g2 g3
    generalize ((((((w3.setCell ⟨w.heap.size, 0, none⟩ (.int .i64 2)).setCell ⟨w.heap.size, 2, none⟩ (.int .i64 (n : Int))).setCell ⟨w.heap.size, 0, none⟩ (.int .i64 2)).setCell ⟨w.heap.size, 1, none⟩ (.string ⟨#[]⟩)).setCell ⟨w.heap.size, 2, none⟩ (.int .i64 (n : Int))).setCell ⟨w.heap.size, 3, none⟩ (.int .i64 (a : Int))) = W2 at V'' bw'' ⊢
    obtain ⟨v0, v1, v2, v3, g0, g1, g2, g3⟩ := four V''
    try simp only [Exit.inBlock, Exit.then]
    refine bodyPost_ret (by simp [results, Tryd.results15, go_sem, v0, v1, v2, v3]; try rfl) rfl ?_
    exact ⟨by rw [HNV.out], bw''⟩
set_option maxHeartbeats 1600000 in
theorem next_over (s : ByteArray) (a : Nat) (c : UInt8) (w : World) (ha : a < s.size) (hs : s.size ≤ 20000) (hc : s.data.toList[a]? = some c) (h1 : letB c = false) (h2 : digB c = true) (h0 : ¬ (c = 48 ∧ 1 < runN digB (s.data.toList.drop a))) (h3 : ¬ decV 0 ((s.data.toList.drop a).take (runN digB (s.data.toList.drop a))) ≤ 9223372036854775807) (hE : EnvL w) :
    Calls Tryd.prog 15 #[.string s, .int .i64 (a : Int)] w fun e w' => e = .returned (nextV a (.err 10)) ∧ Below w.heap.size w w' := by
  have HE := Lib.hid hE
  have hall := runN_all digB (s.data.toList.drop a)
  have hpos := run_one hc h2
  have hat := str_at ha hc
  have HL := Lib.hid (fun W => by have := letter_any c W; rw [h1] at this; exact this)
  have HD := Lib.hid (fun W => by have := digit_any c W; rw [h2] at this; exact this)
  have hbd := run_bd digB s.data.toList a (by rw [← size_list]; omega)
  rw [← size_list] at hbd
  have HRUN := Lib.hid (fun W => run_dig s a W (by omega) (by omega))
  have hx := take_is s a (runN digB (s.data.toList.drop a))
  obtain ⟨m, hm⟩ : ∃ m, runN digB (s.data.toList.drop a) = m := ⟨_, rfl⟩
  have hlm : ((s.data.toList.drop a).take (runN digB (s.data.toList.drop a))).length = runN digB (s.data.toList.drop a) := by
    rw [List.length_take]
    have := runN_le digB (s.data.toList.drop a)
    omega
  rw [hm] at hx h3 hbd h0 hall hpos hlm HRUN 
  obtain ⟨L, hL⟩ : ∃ L, (s.data.toList.drop a).take m = L := ⟨_, rfl⟩
  rw [hL] at hx h3 hall hlm 
  have hne : L ≠ [] := by
    intro e
    rw [e] at hlm
    simp only [List.length_nil] at hlm
    omega
  have hat2 := atoi_dig L hall hne
  rw [if_neg h3] at hat2
  have hsz : (s.extract a (a + m)).data.toList = L := by rw [hx]
  have hsz2 : (s.extract a (a + m)).size ≤ 20000 := by rw [size_data, hsz, hlm]; omega
  have HAT := Lib.hid (fun W (hW : Errs W) => atoi_no (s.extract a (a + m)) (by omega) (fun v hv => by rw [hsz, hat2] at hv; cases hv) W hW)
  obtain ⟨X, hX⟩ : ∃ X : ByteArray, s.extract a (a + m) = X := ⟨_, rfl⟩
  rw [hX] at HAT
  obtain ⟨z, hz⟩ : ∃ z : Nat, a + m = z := ⟨_, rfl⟩
  rw [hz] at hX hbd HRUN 
  have haz : a ≤ z := by omega
  by_cases h48 : c = 48
  · have hz1 : z ≤ a + 1 := by
      have : ¬ 1 < m := fun h => h0 ⟨h48, h⟩
      omega
    have hd1 : decide ((a : Int) + 1 < (z : Int)) = false := by rw [decide_eq_false_iff_not]; omega
    have hd2 : decide (a + 1 < z) = false := by rw [decide_eq_false_iff_not]; omega
    subst h48
    clear h0 h1 h2 h3 hc hm hx hz hE hall hpos hlm hL hne hat2 hsz hsz2 
    go_enter Tryd.func15, Tryd.ntmps15
    go_wp2_with (first | (go_at_call 27; refine (HL.out _).mono ?_; rintro e w' ⟨rfl, rfl⟩) | (go_at_call 29; refine (HD.out _).mono ?_; rintro e w' ⟨rfl, rfl⟩) | (go_at_call 25; refine (HRUN.out _).mono ?_; rintro e w' ⟨rfl, rfl⟩) | (go_at_call 31; refine (HQ.out _).mono ?_; rintro e w' ⟨rfl, rfl⟩))
    try any_goals (exfalso; omega)
    refine (HAT.out _ (HE.out.below (by go_grown)).err).mono ?_
    rintro e w3 ⟨q, N, rfl, hb⟩
    have V := (Box.new w [.int .i64 0, .string ⟨#[]⟩, .int .i64 0, .int .i64 (a : Int)] 33).next hb
    have bw := two (w := w) (by go_grown) hb
    clear hb
    obtain ⟨v0, v1, v2, v3, g0, g1, g2, g3⟩ := four V
    have V' := put4 V (.int .i64 0) (.string ⟨#[]⟩) (.int .i64 0) (.int .i64 (a : Int))
    have bw' := bput4 bw (Nat.le_refl _) (.int .i64 0) (.string ⟨#[]⟩) (.int .i64 0) (.int .i64 (a : Int))
    go_wp2_with (first | (go_at_call 27; refine (HL.out _).mono ?_; rintro e w' ⟨rfl, rfl⟩) | (go_at_call 29; refine (HD.out _).mono ?_; rintro e w' ⟨rfl, rfl⟩) | (go_at_call 25; refine (HRUN.out _).mono ?_; rintro e w' ⟨rfl, rfl⟩) | (go_at_call 31; refine (HQ.out _).mono ?_; rintro e w' ⟨rfl, rfl⟩))
    clear v0 v1 v2 v3 g0 g1 g2 g3
    generalize ((((w3.setCell ⟨w.heap.size, 0, none⟩ (.int .i64 0)).setCell ⟨w.heap.size, 1, none⟩ (.string ⟨#[]⟩)).setCell ⟨w.heap.size, 2, none⟩ (.int .i64 0)).setCell ⟨w.heap.size, 3, none⟩ (.int .i64 (a : Int))) = W2 at V' bw' ⊢
    obtain ⟨v0, v1, v2, v3, g0, g1, g2, g3⟩ := four V'
    try simp only [Exit.inBlock, Exit.then]
    refine bodyPost_ret (by simp [results, Tryd.results15, go_sem, v0, v1, v2, v3]; try rfl) rfl ?_
    first | exact ⟨rfl, bw'⟩ | exact ⟨rfl, bw'.drew⟩
  · have t48 : ((c.toNat : Int) == 48) = false := bne_byte (n := 48) (by decide) h48
    clear h0 h1 h2 h3 hc hm hx hz hE hall hpos hlm hL hne hat2 hsz hsz2 h48 
    go_enter Tryd.func15, Tryd.ntmps15
    go_wp2_with (first | (go_at_call 27; refine (HL.out _).mono ?_; rintro e w' ⟨rfl, rfl⟩) | (go_at_call 29; refine (HD.out _).mono ?_; rintro e w' ⟨rfl, rfl⟩) | (go_at_call 25; refine (HRUN.out _).mono ?_; rintro e w' ⟨rfl, rfl⟩) | (go_at_call 31; refine (HQ.out _).mono ?_; rintro e w' ⟨rfl, rfl⟩))
    try any_goals (exfalso; omega)
    refine (HAT.out _ (HE.out.below (by go_grown)).err).mono ?_
    rintro e w3 ⟨q, N, rfl, hb⟩
    have V := (Box.new w [.int .i64 0, .string ⟨#[]⟩, .int .i64 0, .int .i64 (a : Int)] 33).next hb
    have bw := two (w := w) (by go_grown) hb
    clear hb
    obtain ⟨v0, v1, v2, v3, g0, g1, g2, g3⟩ := four V
    have V' := put4 V (.int .i64 0) (.string ⟨#[]⟩) (.int .i64 0) (.int .i64 (a : Int))
    have bw' := bput4 bw (Nat.le_refl _) (.int .i64 0) (.string ⟨#[]⟩) (.int .i64 0) (.int .i64 (a : Int))
    go_wp2_with (first | (go_at_call 27; refine (HL.out _).mono ?_; rintro e w' ⟨rfl, rfl⟩) | (go_at_call 29; refine (HD.out _).mono ?_; rintro e w' ⟨rfl, rfl⟩) | (go_at_call 25; refine (HRUN.out _).mono ?_; rintro e w' ⟨rfl, rfl⟩) | (go_at_call 31; refine (HQ.out _).mono ?_; rintro e w' ⟨rfl, rfl⟩))
    clear v0 v1 v2 v3 g0 g1 g2 g3
    generalize ((((w3.setCell ⟨w.heap.size, 0, none⟩ (.int .i64 0)).setCell ⟨w.heap.size, 1, none⟩ (.string ⟨#[]⟩)).setCell ⟨w.heap.size, 2, none⟩ (.int .i64 0)).setCell ⟨w.heap.size, 3, none⟩ (.int .i64 (a : Int))) = W2 at V' bw' ⊢
    obtain ⟨v0, v1, v2, v3, g0, g1, g2, g3⟩ := four V'
    try simp only [Exit.inBlock, Exit.then]
    refine bodyPost_ret (by simp [results, Tryd.results15, go_sem, v0, v1, v2, v3]; try rfl) rfl ?_
    first | exact ⟨rfl, bw'⟩ | exact ⟨rfl, bw'.drew⟩
theorem list_last {l : List UInt8} {n : Nat} {b : UInt8} (h : l[n]? = some b) (hl : l.length = n + 1) : l.getLast? = some b := by
  rw [List.getLast?_eq_getElem?, hl]; exact h
/-- What a piece that begins and ends with a quote is read as. -/
theorem quote_piece {r : List UInt8} {n : Nat} (h : scanQ r = some n) : isQ (34 :: r.take n) = true := by
  obtain ⟨h1, h2, h3⟩ := scanQ_le r.length r n (Nat.le_refl _) h
  have hl : (34 :: r.take n).length = n + 1 := by rw [List.length_cons, List.length_take]; omega
  have e : (34 :: r.take n).getLast? = some 34 := by
    refine list_last (n := n) ?_ hl
    obtain ⟨m, rfl⟩ : ∃ m, n = m + 1 := ⟨n - 1, by omega⟩
    rw [List.getElem?_cons_succ, List.getElem?_take_of_lt (by omega)]
    exact h3
  unfold isQ
  rw [e, hl, decide_eq_true (by omega : 1 < n + 1)]
  rfl
theorem not_null (r : List UInt8) : (34 :: r) ≠ nullL := by
  unfold nullL
  intro e
  injection e with e1 e2
  exact absurd e1 (by decide)
theorem plain_of {t : List UInt8} (h : ∀ c ∈ t, 32 ≤ c.toNat ∧ c.toNat ≤ 126) (hl : t.length ≤ 64) : rightB 2 0 ⟨t.toArray⟩ = true := by
  unfold rightB plainB
  rw [if_neg (by decide), if_neg (by decide), if_pos rfl]
  simp only [decide_true, Bool.true_and, Bool.and_eq_true, decide_eq_true_eq]
  refine ⟨?_, by rw [str_size]; exact hl⟩
  rw [List.all_eq_true]
  intro c hc
  have := h c hc
  unfold okByte
  rw [decide_eq_true_eq]
  omega
theorem plain_to {t : List UInt8} (h : rightB 2 0 ⟨t.toArray⟩ = true) : (∀ c ∈ t, 32 ≤ c.toNat ∧ c.toNat ≤ 126) ∧ t.length ≤ 64 := by
  unfold rightB plainB at h
  rw [if_neg (by decide), if_neg (by decide), if_pos rfl] at h
  simp only [decide_true, Bool.true_and, Bool.and_eq_true, decide_eq_true_eq] at h
  refine ⟨fun c hc => ?_, by rw [← str_size]; exact h.2⟩
  have := List.all_eq_true.1 h.1 c hc
  unfold okByte at this
  rw [decide_eq_true_eq] at this
  omega
/-- What is read between quotes is what the document reads there. -/
theorem qTok_parse {r : List UInt8} {n : Nat} (h : scanQ r = some n) :
    (∃ t, qTok r = some (t, n + 1) ∧ ParsesTo (34 :: r.take n) 2 0 t 0) ∨ (qTok r = none ∧ ParsesTo (34 :: r.take n) 0 0 [] 20) := by
  have hc : candV (34 :: r.take n) = some (2, 0, (unqL (inner (34 :: r.take n))).1) := by
    unfold candV
    rw [if_neg (not_null _), if_pos (quote_piece h)]
  obtain ⟨t, ht⟩ : ∃ t, (unqL (inner (34 :: r.take n))).1 = t := ⟨_, rfl⟩
  rw [ht] at hc
  by_cases hs : showL 2 0 ⟨t.toArray⟩ = 34 :: r.take n
  · left
    have hr : rightB 2 0 ⟨t.toArray⟩ = true := show_right hs (by simp)
    obtain ⟨p1, p2⟩ := plain_to hr
    refine ⟨t, ?_, .inl ⟨rfl, hc, hs⟩⟩
    have e : 34 :: r.take n = quotedL t := by
      rw [← hs]; unfold showL; rw [if_pos hr, if_neg (by decide), if_neg (by decide)]
    have e2 : r.take n = esc t ++ [34] := by
      unfold quotedL at e
      rw [List.cons_append] at e
      injection e
    have e3 : r = esc t ++ 34 :: r.drop n := by
      conv => lhs; rw [← List.take_append_drop n r, e2]
      simp
    have e4 := rdQ_esc t (r.drop n) p1
    rw [← e3] at e4
    have e5 := (rdQ_scan r.length r t _ (Nat.le_refl _) e4).1
    rw [h] at e5
    injection e5 with e5
    unfold qTok
    rw [e4]
    simp only
    rw [if_pos p2, e5]
  · right
    refine ⟨?_, .inr ⟨rfl, rfl, rfl, rfl, fun k' n' t' h' => ?_⟩⟩
    · unfold qTok
      cases hq : rdQ r with
      | none => rfl
      | some x =>
        obtain ⟨t', n'⟩ := x
        obtain ⟨a1, a2, a3, a4, a5⟩ := rdQ_scan r.length r t' n' (Nat.le_refl _) hq
        rw [h] at a1
        injection a1 with a1
        subst a1
        simp only
        by_cases h64 : t'.length ≤ 64
        · exfalso
          have e : 34 :: r.take n = quotedL t' := by rw [a3]; rfl
          have hc2 := cand_quoted t'
          rw [← e, hc] at hc2
          simp only [Option.some.injEq, Prod.mk.injEq, true_and] at hc2
          subst hc2
          apply hs
          unfold showL
          rw [if_pos (plain_of a4 h64), if_neg (by decide), if_neg (by decide)]
          exact e.symm
        · rw [if_neg h64]
    · rw [hc] at h'
      simp only [Option.some.injEq, Prod.mk.injEq] at h'
      obtain ⟨rfl, rfl, rfl⟩ := h'
      exact hs
theorem qTok_none {r : List UInt8} (h : scanQ r = none) : qTok r = none := by
  unfold qTok
  cases hq : rdQ r with
  | none => rfl
  | some x =>
    obtain ⟨t', n'⟩ := x
    rw [(rdQ_scan r.length r t' n' (Nat.le_refl _) hq).1] at h
    cases h
set_option maxHeartbeats 1600000 in
theorem next_open (s : ByteArray) (a : Nat) (c : UInt8) (w : World) (ha : a < s.size) (hs : s.size ≤ 20000) (hc : s.data.toList[a]? = some c) (h0 : c = 34) (h3 : scanQ (s.data.toList.drop (a + 1)) = none) :
    Calls Tryd.prog 15 #[.string s, .int .i64 (a : Int)] w fun e w' => e = .returned (nextV a (.err 50)) ∧ Below w.heap.size w w' := by
  subst h0
  have hat := str_at ha hc
  have HL := Lib.hid (fun W => by have := letter_any 34 W; rw [show letB 34 = false by decide] at this; exact this)
  have HD := Lib.hid (fun W => by have := digit_any 34 W; rw [show digB 34 = false by decide] at this; exact this)
  have hq := fun W => quoted_end s a W (by omega) (by omega)
  rw [h3] at hq
  have HQ := Lib.hid hq
  clear hq h3 hc
  go_enter Tryd.func15, Tryd.ntmps15
  go_wp2_with (first | (go_at_call 27; refine (HL.out _).mono ?_; rintro e w' ⟨rfl, rfl⟩) | (go_at_call 29; refine (HD.out _).mono ?_; rintro e w' ⟨rfl, rfl⟩) | (go_at_call 25; refine (HRUN.out _).mono ?_; rintro e w' ⟨rfl, rfl⟩) | (go_at_call 31; refine (HQ.out _).mono ?_; rintro e w' ⟨rfl, rfl⟩))
  try simp only [Exit.inBlock, Exit.then]
  refine bodyPost_ret (by simp [results, Tryd.results15, go_sem]; try rfl) rfl ?_
  exact ⟨rfl, by go_grown⟩
set_option maxHeartbeats 1600000 in
theorem next_text (s : ByteArray) (a : Nat) (c : UInt8) (w : World) (ha : a < s.size) (hs : s.size ≤ 20000) (hc : s.data.toList[a]? = some c) (h0 : c = 34) (n : Nat) (h3 : scanQ (s.data.toList.drop (a + 1)) = some n) (t : List UInt8) (hp : ParsesTo (34 :: (s.data.toList.drop (a + 1)).take n) 2 0 t 0) (hE : EnvL w) :
    Calls Tryd.prog 15 #[.string s, .int .i64 (a : Int)] w fun e w' => e = .returned (nextV a (.ok 3 t 0 (n + 1))) ∧ Below w.heap.size w w' := by
  subst h0
  have hat := str_at ha hc
  have HL := Lib.hid (fun W => by have := letter_any 34 W; rw [show letB 34 = false by decide] at this; exact this)
  have HD := Lib.hid (fun W => by have := digit_any 34 W; rw [show digB 34 = false by decide] at this; exact this)
  have hq := fun W => quoted_end s a W (by omega) (by omega)
  rw [h3] at hq
  have hql : resQ (a + 1) (some n) = ((a + (n + 1) : Nat) : Int) := by
    show ((a + 1 + n : Nat) : Int) = _
    omega
  rw [hql] at hq
  have HQ := Lib.hid hq
  have hn := (scanQ_le _ _ n (Nat.le_refl _) h3).1
  rw [List.length_drop, ← size_list] at hn
  have hx : (s.extract a (a + (n + 1))).data.toList = 34 :: (s.data.toList.drop (a + 1)).take n := by
    rw [take_is, drop_at _ a 34 hc]; rfl
  obtain ⟨z, hz⟩ : ∃ z : Nat, a + (n + 1) = z := ⟨_, rfl⟩
  rw [hz] at hx HQ
  have haz : a ≤ z := by omega
  have hzs : z ≤ s.size := by omega
  obtain ⟨X, hX⟩ : ∃ X : ByteArray, s.extract a z = X := ⟨_, rfl⟩
  rw [hX] at hx
  have hXs : X.size ≤ 20000 := by
    rw [← hX, ByteArray.size_extract]; omega
  rw [← hx] at hp
  obtain ⟨Y, hY⟩ : ∃ Y : ByteArray, (⟨t.toArray⟩ : ByteArray) = Y := ⟨_, rfl⟩
  have hYd : t = Y.data.toList := by rw [← hY]
  rw [hYd] at hp
  have HP := Lib.hid (fun W (h1 : EnvL W) => parse_is X 2 0 Y 0 W hp hXs h1.pow h1.err)
  have HNV : Hid (nextV a (.ok 3 t 0 (n + 1)) = .tuple #[.agg #[.int .i64 3, .string Y, .int .i64 0, .int .i64 (a : Int)], .int .i64 (z : Int), .int .i64 0]) := by
    show nextV a (.ok 3 t 0 (n + 1)) = _
    rw [← hY, ← hz]; rfl
  have HE := Lib.hid hE
  clear hp hx hql hq hn hz hc h3 hE hY hYd hXs
  go_enter Tryd.func15, Tryd.ntmps15
  go_wp2_with (first | (go_at_call 27; refine (HL.out _).mono ?_; rintro e w' ⟨rfl, rfl⟩) | (go_at_call 29; refine (HD.out _).mono ?_; rintro e w' ⟨rfl, rfl⟩) | (go_at_call 25; refine (HRUN.out _).mono ?_; rintro e w' ⟨rfl, rfl⟩) | (go_at_call 31; refine (HQ.out _).mono ?_; rintro e w' ⟨rfl, rfl⟩))
  refine (HP.out _ (HE.out.below (by go_grown))).mono ?_
  rintro e w3 ⟨rfl, hb⟩
  have V := ((Box.new w [.int .i64 0, .string ⟨#[]⟩, .int .i64 0, .int .i64 (a : Int)] 33).next hb).alloc (.cells #[.int .i64 2, .int .i64 0, .string Y] 50)
  have X2 := Box.new w3 [.int .i64 2, .int .i64 0, .string Y] 50
  have bw := (two (w := w) (by go_grown) hb).alloc (by have := hb.size; simp at this; omega) (.cells #[.int .i64 2, .int .i64 0, .string Y] 50)
  have hzz : w.heap.size < w3.heap.size := by have := hb.size; simp at this; omega
  have hz1 : ¬ w3.heap.size = w.heap.size := by omega
  have hz2 : ¬ w.heap.size = w3.heap.size := by omega
  clear hb
  obtain ⟨v0, v1, v2, v3, g0, g1, g2, g3⟩ := four V
  obtain ⟨x0, x1, x2, p0, p1, p2⟩ := X2.three
  have V' : Box (((w3.alloc (.cells #[.int .i64 2, .int .i64 0, .string Y] 50)).setCell ⟨w.heap.size, 0, none⟩ (.int .i64 3)).setCell ⟨w.heap.size, 1, none⟩ (.string Y)) w.heap.size [.int .i64 3, .string Y, .int .i64 0, .int .i64 (a : Int)] := (V.put 0 (.int .i64 3)).put 1 (.string Y)
  have bw' := bput2 bw (Nat.le_refl _) 0 1 (.int .i64 3) (.string Y)
  go_wp2_with (first | (go_at_call 27; refine (HL.out _).mono ?_; rintro e w' ⟨rfl, rfl⟩) | (go_at_call 29; refine (HD.out _).mono ?_; rintro e w' ⟨rfl, rfl⟩) | (go_at_call 25; refine (HRUN.out _).mono ?_; rintro e w' ⟨rfl, rfl⟩) | (go_at_call 31; refine (HQ.out _).mono ?_; rintro e w' ⟨rfl, rfl⟩))
  generalize (w3.alloc (.cells #[.int .i64 2, .int .i64 0, .string Y] 50)) = W3 at *
  go_region
  all_goals clear x0 x1 x2 p0 p1 p2
  all_goals (clear v0 v1 v2 v3 g0 g1 g2 g3; generalize (W3.setCell ⟨w.heap.size, 0, none⟩ (.int .i64 3)).setCell ⟨w.heap.size, 1, none⟩ (.string Y) = W1 at V' bw' ⊢; clear V bw; have V := V'; have bw := bw'; clear V' bw'; obtain ⟨v0, v1, v2, v3, g0, g1, g2, g3⟩ := four V)
  have V' := put4 V (.int .i64 3) (.string Y) (.int .i64 0) (.int .i64 (a : Int))
  have bw' := bput4 bw (Nat.le_refl _) (.int .i64 3) (.string Y) (.int .i64 0) (.int .i64 (a : Int))
  go_wp2_with (first | (go_at_call 27; refine (HL.out _).mono ?_; rintro e w' ⟨rfl, rfl⟩) | (go_at_call 29; refine (HD.out _).mono ?_; rintro e w' ⟨rfl, rfl⟩) | (go_at_call 25; refine (HRUN.out _).mono ?_; rintro e w' ⟨rfl, rfl⟩) | (go_at_call 31; refine (HQ.out _).mono ?_; rintro e w' ⟨rfl, rfl⟩))
  clear v0 v1 v2 v3 g0 g1 g2 g3
  generalize ((((W1.setCell ⟨w.heap.size, 0, none⟩ (.int .i64 3)).setCell ⟨w.heap.size, 1, none⟩ (.string Y)).setCell ⟨w.heap.size, 2, none⟩ (.int .i64 0)).setCell ⟨w.heap.size, 3, none⟩ (.int .i64 (a : Int))) = W2 at V' bw' ⊢
  obtain ⟨v0, v1, v2, v3, g0, g1, g2, g3⟩ := four V'
  try simp only [Exit.inBlock, Exit.then]
  refine bodyPost_ret (by simp [results, Tryd.results15, go_sem, v0, v1, v2, v3]; try rfl) rfl ?_
  first | exact ⟨by rw [HNV.out], bw'⟩ | exact ⟨by rw [HNV.out], bw'.drew⟩
set_option maxHeartbeats 1600000 in
theorem next_bad (s : ByteArray) (a : Nat) (c : UInt8) (w : World) (ha : a < s.size) (hs : s.size ≤ 20000) (hc : s.data.toList[a]? = some c) (h0 : c = 34) (n : Nat) (h3 : scanQ (s.data.toList.drop (a + 1)) = some n) (hp : ParsesTo (34 :: (s.data.toList.drop (a + 1)).take n) 0 0 [] 20) (hE : EnvL w) :
    Calls Tryd.prog 15 #[.string s, .int .i64 (a : Int)] w fun e w' => e = .returned (nextV a (.err 50)) ∧ Below w.heap.size w w' := by
  subst h0
  have hat := str_at ha hc
  have HL := Lib.hid (fun W => by have := letter_any 34 W; rw [show letB 34 = false by decide] at this; exact this)
  have HD := Lib.hid (fun W => by have := digit_any 34 W; rw [show digB 34 = false by decide] at this; exact this)
  have hq := fun W => quoted_end s a W (by omega) (by omega)
  rw [h3] at hq
  have hql : resQ (a + 1) (some n) = ((a + (n + 1) : Nat) : Int) := by
    show ((a + 1 + n : Nat) : Int) = _
    omega
  rw [hql] at hq
  have HQ := Lib.hid hq
  have hn := (scanQ_le _ _ n (Nat.le_refl _) h3).1
  rw [List.length_drop, ← size_list] at hn
  have hx : (s.extract a (a + (n + 1))).data.toList = 34 :: (s.data.toList.drop (a + 1)).take n := by
    rw [take_is, drop_at _ a 34 hc]; rfl
  obtain ⟨z, hz⟩ : ∃ z : Nat, a + (n + 1) = z := ⟨_, rfl⟩
  rw [hz] at hx HQ
  have haz : a ≤ z := by omega
  have hzs : z ≤ s.size := by omega
  obtain ⟨X, hX⟩ : ∃ X : ByteArray, s.extract a z = X := ⟨_, rfl⟩
  rw [hX] at hx
  have hXs : X.size ≤ 20000 := by
    rw [← hX, ByteArray.size_extract]; omega
  rw [← hx] at hp
  have HP := Lib.hid (fun W (h1 : EnvL W) => parse_is X 0 0 ⟨#[]⟩ 20 W hp hXs h1.pow h1.err)
  have HE := Lib.hid hE
  clear hp hx hql hq hn hz hc h3 hE hXs
  go_enter Tryd.func15, Tryd.ntmps15
  go_wp2_with (first | (go_at_call 27; refine (HL.out _).mono ?_; rintro e w' ⟨rfl, rfl⟩) | (go_at_call 29; refine (HD.out _).mono ?_; rintro e w' ⟨rfl, rfl⟩) | (go_at_call 25; refine (HRUN.out _).mono ?_; rintro e w' ⟨rfl, rfl⟩) | (go_at_call 31; refine (HQ.out _).mono ?_; rintro e w' ⟨rfl, rfl⟩))
  refine (HP.out _ (HE.out.below (by go_grown))).mono ?_
  rintro e w3 ⟨rfl, hb⟩
  have V := ((Box.new w [.int .i64 0, .string ⟨#[]⟩, .int .i64 0, .int .i64 (a : Int)] 33).next hb).alloc (.cells #[.int .i64 0, .int .i64 0, .string ⟨#[]⟩] 50)
  have X2 := Box.new w3 [.int .i64 0, .int .i64 0, .string ⟨#[]⟩] 50
  have bw := (two (w := w) (by go_grown) hb).alloc (by have := hb.size; simp at this; omega) (.cells #[.int .i64 0, .int .i64 0, .string ⟨#[]⟩] 50)
  have hzz : w.heap.size < w3.heap.size := by have := hb.size; simp at this; omega
  have hz1 : ¬ w3.heap.size = w.heap.size := by omega
  have hz2 : ¬ w.heap.size = w3.heap.size := by omega
  clear hb
  obtain ⟨v0, v1, v2, v3, g0, g1, g2, g3⟩ := four V
  obtain ⟨x0, x1, x2, p0, p1, p2⟩ := X2.three
  go_upto_if 102 with (fail)
  clear v0 v1 v2 v3 g0 g1 g2 g3 x0 x1 x2 p0 p1 p2
  generalize (w3.alloc (.cells #[.int .i64 0, .int .i64 0, .string ⟨#[]⟩] 50)) = W3 at *
  obtain ⟨v0, v1, v2, v3, g0, g1, g2, g3⟩ := four V
  have V' := put4 V (.int .i64 0) (.string ⟨#[]⟩) (.int .i64 0) (.int .i64 (a : Int))
  have bw' := bput4 bw (Nat.le_refl _) (.int .i64 0) (.string ⟨#[]⟩) (.int .i64 0) (.int .i64 (a : Int))
  go_wp2_with (first | (go_at_call 27; refine (HL.out _).mono ?_; rintro e w' ⟨rfl, rfl⟩) | (go_at_call 29; refine (HD.out _).mono ?_; rintro e w' ⟨rfl, rfl⟩) | (go_at_call 25; refine (HRUN.out _).mono ?_; rintro e w' ⟨rfl, rfl⟩) | (go_at_call 31; refine (HQ.out _).mono ?_; rintro e w' ⟨rfl, rfl⟩))
  clear v0 v1 v2 v3 g0 g1 g2 g3
  generalize ((((W3.setCell ⟨w.heap.size, 0, none⟩ (.int .i64 0)).setCell ⟨w.heap.size, 1, none⟩ (.string ⟨#[]⟩)).setCell ⟨w.heap.size, 2, none⟩ (.int .i64 0)).setCell ⟨w.heap.size, 3, none⟩ (.int .i64 (a : Int))) = W2 at V' bw' ⊢
  obtain ⟨v0, v1, v2, v3, g0, g1, g2, g3⟩ := four V'
  try simp only [Exit.inBlock, Exit.then]
  refine bodyPost_ret (by simp [results, Tryd.results15, go_sem, v0, v1, v2, v3]; try rfl) rfl ?_
  first | exact ⟨rfl, bw'⟩ | exact ⟨rfl, bw'.drew⟩
end Go.Proofs.YtpfgfejcaofjiaaDoor.Lx
