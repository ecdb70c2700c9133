/- Walks: what is between quotes; small facts on bytes. -/
import Derived.Test.YtpfgfejcaofjiaaDoorTextMath
set_option linter.unusedVariables false
set_option linter.unusedSimpArgs false
namespace Go.Proofs.YtpfgfejcaofjiaaDoor.Va
open Go.RowKit Go Ba

theorem unq_bd (l : List UInt8) (k : Nat) (hl : l.length ≤ 100000) : (unqL (l.take k)).1.length ≤ 100000 := by
  have := unq_len (l.take k)
  have : (l.take k).length ≤ l.length := List.length_take_le' _ _
  omega
set_option maxHeartbeats 1600000 in
theorem unquoted_any (s : ByteArray) (w : World) (hs : s.size ≤ 100000) :
    Calls Tryd.prog 44 #[.string s] w fun e w' => e = .returned (.string ⟨(unqL s.data.toList).1.toArray⟩) ∧ Below w.heap.size w w' := by
  obtain ⟨i0, hi, hz0, hz1, hz2⟩ := info_parts info5
  have hcv := fun w => Lib.run_convert_string_bytes (P := Tryd.prog) w 9 36 5 s Tryd.underlying9 Tryd.underlying36 Tryd.underlying5
  obtain ⟨C, m, hrow, hC⟩ := bytes_row (w := w) 5 s
  have hb := Lib.bytesWorld_below w 5 s
  have hz : w.heap.size + 1 ≤ (Lib.bytesWorld w 5 s).heap.size := by rw [Lib.bytesWorld_size]; simp
  have hLs : s.data.toList.length ≤ 100000 := by rw [← size_list]; exact hs
  have HC := Lib.hid hC
  clear hC
  go_enter Tryd.func44, Tryd.ntmps44
  go_wp2_with fail
  clear hcv
  generalize Lib.bytesWorld w 5 s = wB at *
  go_loopw [3, 4, 10] (fun v e i wr => ∃ k : Nat, k ≤ s.size ∧ i = .int .i64 k ∧ e = .bool (unqL (s.data.toList.take k)).2 ∧ wr.ownsRow w.heap.size 5 1 v (unqL (s.data.toList.take k)).1.length (bcells (unqL (s.data.toList.take k)).1) ∧ wr.heap[w.heap.size]? = some (.cells C 5 (m, m + 1)) ∧ Below w.heap.size w wr ∧ w.heap.size + 1 ≤ wr.heap.size)
    (fun _ _ i _ => s.size - (intOf i).toNat)
  case atStart => exact ⟨0, by omega, rfl, rfl, World.ownsRow_nil _ _ _ _, hrow, hb, hz⟩
  case round =>
    clear hrow hb hz
    obtain ⟨k, hk, rfl, rfl, hown, hrow, hbel, hz⟩ := hrel
    by_cases hlt : k < s.size
    · obtain ⟨b, hbk⟩ := bat s k hlt
      have hc : wr.cell? ⟨w.heap.size, k, none⟩ = some (.int .u8 b.toNat) := by rw [cell_of_row _ _ _ _ _ _ hrow]; exact HC.out k b hbk
      have hq := unq_bd s.data.toList k hLs
      have HST := Lib.hid (unq_snoc s.data.toList k b hbk)
      have hb8 := byte_lt b
      have hne := own_ne_marked hown hrow
      clear hbk
      obtain ⟨L, E, hL⟩ : ∃ L E, unqL (s.data.toList.take k) = (L, E) := ⟨_, _, rfl⟩
      rw [hL] at hq hown HST ⊢
      dsimp only at hq hown ⊢
      have HL := Lib.hid hL
      clear hL
      have HOWN := Lib.hid hown
      have HROW := Lib.hid hrow
      have HNE := Lib.hid hne
      have HBEL := Lib.hid hbel
      clear hown hrow hne hbel
      by_cases h1 : (b.toNat : Int) = 92
      · have h2 : ((b.toNat : Int) == 92) = true := by simpa using h1
        have hb92 : b = 92 := byte_eq (by rw [h1]; rfl)
        cases E
        · have HB : Hid (unqS (L, false) b = (L, true)) := by show unqS (L, false) b = (L, true); simp [unqS, hb92]
          clear h1 hb92
          go_wp2_with fail
          go_roundw
          case rel => exact ⟨k + 1, by omega, by go_num, by rw [HST.out, HB.out], by rw [HST.out, HB.out]; exact HOWN.out, HROW.out, HBEL.out, by omega⟩
          case measure => simp [intOf]; omega
        · have HB : Hid (unqS (L, true) b = (L ++ [b], false)) := by show unqS (L, true) b = (L ++ [b], false); simp [unqS]
          clear h1 hb92
          go_wp2_with (at_builtin; refine app_byte rfl (.tmp 20) (.tmp 22) 36 5 rfl Tryd.underlying36 hi hz0 hz1 hz2 w.heap.size u3 L b _ ?_ ?_ HOWN.out ?_ ?_ ?_ ?_; rfl; rfl; rfl; omega; omega; intro v1 w1 hown1 hg1)
          obtain ⟨r1, bb1, zz1⟩ := keep_row HOWN.out HROW.out HBEL.out (Nat.le_refl _) (by omega) hg1
          go_roundw
          case rel => exact ⟨k + 1, by omega, by go_num, by rw [HST.out, HB.out], by rw [HST.out, HB.out]; exact hown1, r1, bb1, by omega⟩
          case measure => simp [intOf]; omega
      · have h2 : ((b.toNat : Int) == 92) = false := by simpa using h1
        have HB : Hid (unqS (L, E) b = (L ++ [b], false)) := by
          show unqS (L, E) b = (L ++ [b], false)
          have : b ≠ 92 := fun h => h1 (by rw [h]; rfl)
          simp [unqS, this]
        clear h1
        go_wp2_with (at_builtin; refine app_byte rfl (.tmp 20) (.tmp 22) 36 5 rfl Tryd.underlying36 hi hz0 hz1 hz2 w.heap.size u3 L b _ ?_ ?_ HOWN.out ?_ ?_ ?_ ?_; rfl; rfl; rfl; omega; omega; intro v1 w1 hown1 hg1)
        obtain ⟨r1, bb1, zz1⟩ := keep_row HOWN.out HROW.out HBEL.out (Nat.le_refl _) (by omega) hg1
        go_roundw
        case rel => exact ⟨k + 1, by omega, by go_num, by rw [HST.out, HB.out], by rw [HST.out, HB.out]; exact hown1, r1, bb1, by omega⟩
        case measure => simp [intOf]; omega
    · have ek : k = s.size := by omega
      rw [ek, size_list, List.take_length] at hown ⊢
      have hst := run_string_of_own 36 9 5 Tryd.underlying36 Tryd.underlying5 Tryd.underlying9 hown rfl
      have hge : s.data.toList.length ≤ s.data.toList.length := Nat.le_refl _
      have HBEL := Lib.hid hbel
      clear ek hown hrow hbel
      go_wp2_with fail
      go_ret
      exact ⟨rfl, HBEL.out⟩
theorem str_add (a b : List UInt8) : (⟨a.toArray⟩ : ByteArray) ++ ⟨b.toArray⟩ = ⟨(a ++ b).toArray⟩ := by rw [ByteArray.mk_append_mk]
theorem str_size (a : List UInt8) : (⟨a.toArray⟩ : ByteArray).size = a.length := by simp [ByteArray.size]
theorem add_data (a b : ByteArray) : (a ++ b).data.toList = a.data.toList ++ b.data.toList := by simp
theorem size_data (a : ByteArray) : a.size = a.data.toList.length := size_list a
theorem str_of {a : ByteArray} {l : List UInt8} (h : a.data.toList = l) : a = ⟨l.toArray⟩ := by subst h; simp
theorem one_data (s : ByteArray) (k : Nat) (b : UInt8) (h : s.data.toList[k]? = some b) : (s.extract k (k + 1)).data.toList = [b] := by
  rw [Lib.extract_data]
  obtain ⟨hk, he⟩ := List.getElem?_eq_some_iff.1 h
  rw [show k + 1 - k = 1 from by omega, List.drop_eq_getElem_cons hk, he]
  simp
theorem str_at {s : ByteArray} {j : Nat} {b : UInt8} (hj : j < s.size) (h : s.data.toList[j]? = some b) : s[j] = b := by
  have : s.data[j]? = some b := by simpa using h
  obtain ⟨_, h2⟩ := Array.getElem?_eq_some_iff.1 this
  exact h2
end Go.Proofs.YtpfgfejcaofjiaaDoor.Va
