/- Walks: the text of a value, in the document's word. -/
import Derived.Test.YtfmjeggomphliaaGreatDoorTextWalk1
import Derived.Test.YtfmjeggomphliaaGreatDoorTabVal
set_option linter.unusedVariables false
set_option linter.unusedSimpArgs false
namespace Go.Proofs.YtfmjeggomphliaaGreatDoor.Va
open Go.RowKit Go Ba

theorem add_data (a b : ByteArray) : (a ++ b).data.toList = a.data.toList ++ b.data.toList := by simp
theorem size_data (a : ByteArray) : a.size = a.data.toList.length := size_list a
theorem str_of {a : ByteArray} {l : List UInt8} (h : a.data.toList = l) : a = ⟨l.toArray⟩ := by subst h; simp
theorem one_data (s : ByteArray) (k : Nat) (b : UInt8) (h : s.data.toList[k]? = some b) : (s.extract k (k + 1)).data.toList = [b] := by
  rw [Lib.extract_data]
  obtain ⟨hk, he⟩ := List.getElem?_eq_some_iff.1 h
  rw [show k + 1 - k = 1 from by omega, List.drop_eq_getElem_cons hk, he]
  simp
set_option maxHeartbeats 1600000 in
theorem refShow_any (k n : Int) (s : ByteArray) (w : World) (hr : rightB k n s = true) (n0 : -9223372036854775808 ≤ n) (n1 : n ≤ 9223372036854775807) :
    Calls Tryz.prog 30 #[.agg #[.int .i64 k, .int .i64 n, .string s]] w fun e w' => e = .returned (.string ⟨(showL k n s).toArray⟩) ∧ Below w.heap.size w w' := by
  obtain ⟨hk, h64⟩ := right_text hr
  have HR := Lib.hid hr
  clear hr
  rcases hk with rfl | rfl | rfl
  · have HS : Hid (showL 0 n s = [110, 117, 108, 108]) := by show showL 0 n s = _; unfold showL; rw [if_pos HR.out, if_pos rfl]
    go_enter Tryz.func30, Tryz.ntmps30
    go_wp2_with fail
    go_ret
    exact ⟨by rw [HS.out]; rfl, by go_grown⟩
  · have HS : Hid (showL 1 n s = Lib.itoa n) := by show showL 1 n s = _; unfold showL; rw [if_pos HR.out]; simp
    go_enter Tryz.func30, Tryz.ntmps30
    go_wp2_with fail
    refine (number_any n _ n0 n1).mono ?_
    rintro e w1 ⟨rfl, hb⟩
    have b1 := two (w := w) (by go_grown) hb
    go_wp2_with fail
    go_ret
    exact ⟨by rw [HS.out]; rfl, b1⟩
  · have HS : Hid (showL 2 n s = quotedL s.data.toList) := by show showL 2 n s = _; unfold showL; rw [if_pos HR.out]; simp
    go_enter Tryz.func30, Tryz.ntmps30
    go_wp2_with fail
    go_loop [3, 4] (fun v i => ∃ k : Nat, k ≤ s.size ∧ i = .int .i64 k ∧ ∃ x : ByteArray, v = .string x ∧ x.data.toList = 34 :: esc (s.data.toList.take k)) (fun _ i => s.size - (intOf i).toNat)
    case atStart => exact ⟨0, by omega, rfl, _, rfl, rfl⟩
    case round =>
      obtain ⟨k, hk, rfl, x, rfl, hx⟩ := hrel
      have hxs : x.size ≤ 8193 := by
        rw [size_data, hx]
        exact quoted_bd s.data.toList k (by rw [← size_list]; omega)
      by_cases hlt : k < s.size
      · obtain ⟨b, hbk⟩ := bat s k hlt
        have hat := str_at hlt hbk
        have HX := Lib.hid hx
        have HST := Lib.hid (quoted_step s.data.toList k b hbk)
        have HO := Lib.hid (one_data s k b hbk)
        have hsz : (s.extract k (k + 1)).size = 1 := by rw [size_data, HO.out]; rfl
        clear hx hbk
        by_cases h1 : (b.toNat : Int) = 34
        · have h2 : ((b.toNat : Int) == 34) = true := by simpa using h1
          have HB : Hid (esc [b] = [92, b]) := esc_yes b (.inl (byte_eq (by rw [h1]; rfl)))
          clear h1
          go_wp2_with fail
          go_round
          case rel => exact ⟨k + 1, by omega, by go_num, _, rfl, by rw [HST.out, HB.out, add_data, add_data, HX.out, HO.out]; simp⟩
          case measure => simp [intOf]; omega
        by_cases h3 : (b.toNat : Int) = 92
        · have h2 : ((b.toNat : Int) == 34) = false := by simpa using h1
          have h4 : ((b.toNat : Int) == 92) = true := by simpa using h3
          have HB : Hid (esc [b] = [92, b]) := esc_yes b (.inr (byte_eq (by rw [h3]; rfl)))
          clear h1 h3
          go_wp2_with fail
          go_round
          case rel => exact ⟨k + 1, by omega, by go_num, _, rfl, by rw [HST.out, HB.out, add_data, add_data, HX.out, HO.out]; simp⟩
          case measure => simp [intOf]; omega
        · have h2 : ((b.toNat : Int) == 34) = false := by simpa using h1
          have h4 : ((b.toNat : Int) == 92) = false := by simpa using h3
          have HB : Hid (esc [b] = [b]) := esc_no b (fun h => by rcases h with rfl | rfl <;> simp at h1 h3)
          clear h1 h3
          go_wp2_with fail
          go_round
          case rel => exact ⟨k + 1, by omega, by go_num, _, rfl, by rw [HST.out, HB.out, add_data, HX.out, HO.out]⟩
          case measure => simp [intOf]; omega
      · have ek : k = s.size := by omega
        have HK : Hid (34 :: esc (s.data.toList.take k) ++ [34] = quotedL s.data.toList) := by
          show 34 :: esc (s.data.toList.take k) ++ [34] = _
          rw [ek, size_list, List.take_length]; rfl
        have HX := Lib.hid hx
        clear ek hx
        go_wp2_with fail
        go_ret
        exact ⟨ret_str (str_of (by rw [HS.out, ← HK.out, add_data, HX.out])), by go_grown⟩
end Go.Proofs.YtfmjeggomphliaaGreatDoor.Va
