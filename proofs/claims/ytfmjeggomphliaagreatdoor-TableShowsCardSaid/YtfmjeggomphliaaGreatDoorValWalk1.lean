/- Walks: values made; texts that may stand in a cell; a text between quotes. -/
import Derived.Test.YtfmjeggomphliaaGreatDoorBase
set_option linter.unusedVariables false
set_option linter.unusedSimpArgs false
namespace Go.Proofs.YtfmjeggomphliaaGreatDoor.Va
open Go.RowKit Go Ba

theorem info5 : (Tryz.prog.info? 5).map (fun i => (i.zero, i.size, i.bytes)) = some (some (.int .u8 0), 1, 1) := by kernel_rfl

theorem null_any (w : World) : Calls Tryz.prog 19 #[] w fun e w' => e = .returned (.agg #[.int .i64 0, .int .i64 0, .string ⟨#[]⟩]) ∧ Below w.heap.size w w' := by
  go_enter Tryz.func19, Tryz.ntmps19
  go_wp2_with fail
  go_returns
  exact ⟨rfl, by go_grown⟩
theorem of_any (n : Int) (w : World) : Calls Tryz.prog 18 #[.int .i64 n] w fun e w' => e = .returned (.agg #[.int .i64 1, .int .i64 n, .string ⟨#[]⟩]) ∧ Below w.heap.size w w' := by
  go_enter Tryz.func18, Tryz.ntmps18
  go_wp2_with fail
  go_returns
  exact ⟨rfl, by go_grown⟩
/-- May a byte stand in a text? -/
def okByte (b : UInt8) : Bool := decide (32 ≤ (b.toNat : Int) ∧ (b.toNat : Int) ≤ 126)
/-- May a text have these bytes? -/
def plainB (s : ByteArray) : Bool := s.data.toList.all okByte && decide (s.size ≤ 64)

theorem take_one {α : Type} (l : List α) (k : Nat) (x : α) (h : l[k]? = some x) : l.take (k + 1) = l.take k ++ [x] := by
  rw [List.take_add_one, h]; rfl

theorem plain_no {s : ByteArray} {b : UInt8} (h : b ∈ s.data.toList) (hb : okByte b = false) : plainB s = false := by
  unfold plainB
  have : s.data.toList.all okByte = false := by
    rw [List.all_eq_false]
    exact ⟨b, h, by simp [hb]⟩
  rw [this, Bool.false_and]

set_option maxHeartbeats 400000 in
theorem plain_any (s : ByteArray) (w : World) (hs : s.size ≤ 9223372036854775807) :
    Calls Tryz.prog 114 #[.string s] w fun e w' => e = .returned (.bool (plainB s)) ∧ Below w.heap.size w w' := by
  have hcv := fun w => Lib.run_convert_string_bytes (P := Tryz.prog) w 9 75 5 s Tryz.underlying9 Tryz.underlying75 Tryz.underlying5
  have hcell := bytes_cells (w := w) 5 s
  have hb := Lib.bytesWorld_below w 5 s
  go_enter Tryz.func114, Tryz.ntmps114
  go_wp2_with fail
  generalize Lib.bytesWorld w 5 s = w1 at *
  clear hcv
  have HC := Lib.hid hcell
  have HB := Lib.hid hb
  clear hcell hb
  go_loop [8] (fun i => ∃ k : Nat, k ≤ s.size ∧ i = .int .i64 k ∧ (s.data.toList.take k).all okByte = true) (fun i => s.size - (intOf i).toNat)
  case atStart => exact ⟨0, by omega, rfl, by simp⟩
  case round =>
    obtain ⟨k, hk, rfl, hall⟩ := hrel
    have HA := Lib.hid hall
    clear hall
    by_cases hlt : k < s.size
    · obtain ⟨b, hbk⟩ := bat s k hlt
      have hc := HC.out k b hbk
      have HBK := Lib.hid hbk
      clear hbk
      have hb8 : (b.toNat : Int) ≤ 255 := by have := b.toNat_lt; omega
      by_cases h1 : (b.toNat : Int) < 32
      · go_wp2_with fail
        go_ret
        exact ⟨ret_bool (plain_no (List.mem_of_getElem? HBK.out) (by unfold okByte; simp; omega)).symm, HB.out⟩
      · by_cases h2 : 126 < (b.toNat : Int)
        · go_wp2_with fail
          go_ret
          exact ⟨ret_bool (plain_no (List.mem_of_getElem? HBK.out) (by unfold okByte; simp; omega)).symm, HB.out⟩
        · go_wp2_with fail
          go_round
          case rel => exact ⟨k + 1, by omega, by go_num, by rw [take_one _ _ _ HBK.out, List.all_append, HA.out]; simp [okByte]; omega⟩
          case measure => simp [intOf]; omega
    · have ek : k = s.size := by omega
      have HK := Lib.hid ek
      clear ek
      go_wp2_with fail
      go_ret
      refine ⟨ret_bool ?_, HB.out⟩
      have ha := HA.out
      rw [HK.out, size_list, List.take_length] at ha
      unfold plainB
      rw [ha, Bool.true_and, Bool.eq_iff_iff]
      simp
      omega

theorem empty_iff (s : ByteArray) : s.toList.isEmpty = true ↔ s = ⟨#[]⟩ := by
  rw [List.isEmpty_iff, toList_nil_iff_emptyBytes]; rfl

/-- Is it right? -/
def rightB (k n : Int) (s : ByteArray) : Bool :=
  if k = 0 then decide (n = 0) && s.toList.isEmpty else if k = 1 then s.toList.isEmpty else if k = 2 then decide (n = 0) && plainB s else false

set_option maxHeartbeats 400000 in
theorem right_any (k n : Int) (s : ByteArray) (w : World) (hs : s.size ≤ 9223372036854775807) :
    Calls Tryz.prog 86 #[.agg #[.int .i64 k, .int .i64 n, .string s]] w fun e w' => e = .returned (.bool (rightB k n s)) ∧ Below w.heap.size w w' := by
  by_cases h0 : k = 0
  · subst h0
    by_cases hn : n = 0
    · subst hn
      go_enter Tryz.func86, Tryz.ntmps86
      go_wp2_with fail
      go_ret
      exact ⟨ret_bool (by simp [rightB]), by go_grown⟩
    · have hb : (n == 0) = false := by simpa using hn
      have H := Lib.hid hn
      clear hn
      go_enter Tryz.func86, Tryz.ntmps86
      go_wp2_with fail
      go_ret
      exact ⟨ret_bool (by simp [rightB, H.out]), by go_grown⟩
  by_cases h1 : k = 1
  · subst h1
    clear h0
    go_enter Tryz.func86, Tryz.ntmps86
    go_wp2_with fail
    go_ret
    exact ⟨ret_bool (by simp [rightB]), by go_grown⟩
  by_cases h2 : k = 2
  · subst h2
    clear h0 h1
    by_cases hn : n = 0
    · subst hn
      go_enter Tryz.func86, Tryz.ntmps86
      go_wp2_with fail
      refine (plain_any s _ hs).mono ?_
      rintro e w1 ⟨rfl, hb⟩
      have b1 := two (w := w) (by go_grown) hb
      go_wp2_with fail
      go_ret
      exact ⟨ret_bool (by simp [rightB]), b1⟩
    · have hb : (n == 0) = false := by simpa using hn
      have H := Lib.hid hn
      clear hn
      go_enter Tryz.func86, Tryz.ntmps86
      go_wp2_with fail
      go_ret
      exact ⟨ret_bool (by simp [rightB, H.out]), by go_grown⟩
  have b0 : (k == 0) = false := by simpa using h0
  have b1 : (k == 1) = false := by simpa using h1
  have b2 : (k == 2) = false := by simpa using h2
  have HR : Hid (rightB k n s = false) := by show rightB k n s = false; unfold rightB; rw [if_neg h0, if_neg h1, if_neg h2]
  clear h0 h1 h2
  go_enter Tryz.func86, Tryz.ntmps86
  go_wp2_with fail
  go_ret
  exact ⟨ret_bool HR.out.symm, by go_grown⟩
end Go.Proofs.YtfmjeggomphliaaGreatDoor.Va
