/- Walks: a text between quotes; the text of a value. -/
import Derived.Test.YtfmjeggomphliaaGreatDoorValWalk1
import Derived.Test.YtfmjeggomphliaaGreatDoorShelf
set_option linter.unusedVariables false
set_option linter.unusedSimpArgs false
namespace Go.Proofs.YtfmjeggomphliaaGreatDoor.Va
open Go.RowKit Go Ba

/-- The bytes of a text, each quote and each backslash behind a backslash. -/
def esc : List UInt8 → List UInt8
  | [] => []
  | b :: r => (if b = 34 ∨ b = 92 then [92, b] else [b]) ++ esc r
def quotedL (l : List UInt8) : List UInt8 := 34 :: esc l ++ [34]
theorem esc_app (l r : List UInt8) : esc (l ++ r) = esc l ++ esc r := by
  induction l with
  | nil => rfl
  | cons b l ih => simp [esc, ih]
theorem esc_len (l : List UInt8) : (esc l).length ≤ 2 * l.length := by
  induction l with
  | nil => simp [esc]
  | cons b l ih => simp only [esc, List.length_append, List.length_cons]; split <;> simp <;> omega
theorem esc_yes (b : UInt8) (h : b = 34 ∨ b = 92) : esc [b] = [92, b] := by simp [esc, h]
theorem esc_no (b : UInt8) (h : ¬ (b = 34 ∨ b = 92)) : esc [b] = [b] := by simp [esc, h]

theorem b92 : (92 : Int) = ((92 : UInt8).toNat : Int) := by decide
theorem b34 : (34 : Int) = ((34 : UInt8).toNat : Int) := by decide
theorem quoted_step (l : List UInt8) (k : Nat) (b : UInt8) (h : l[k]? = some b) : 34 :: esc (l.take (k + 1)) = 34 :: esc (l.take k) ++ esc [b] := by
  rw [take_one l k b h, esc_app]; rfl
theorem quoted_bd (l : List UInt8) (k : Nat) (hl : l.length ≤ 4096) : (34 :: esc (l.take k)).length ≤ 8193 := by
  have := esc_len (l.take k)
  have : (l.take k).length ≤ l.length := List.length_take_le' _ _
  simp only [List.length_cons]; omega

set_option maxHeartbeats 800000 in
theorem quoted_any (s : ByteArray) (w : World) (hs : s.size ≤ 4096) :
    Calls Tryz.prog 88 #[.string s] w fun e w' => e = .returned (.string ⟨(quotedL s.data.toList).toArray⟩) ∧ Below w.heap.size w w' := by
  obtain ⟨i0, hi, hz0, hz1, hz2⟩ := info_parts info5
  have hcv := fun w => Lib.run_convert_string_bytes (P := Tryz.prog) w 9 75 5 s Tryz.underlying9 Tryz.underlying75 Tryz.underlying5
  obtain ⟨C, m, hrow, hC⟩ := bytes_row (w := w.alloc (.cells #[.int .u8 34] 5)) 5 s
  have hb := Lib.bytesWorld_below (w.alloc (.cells #[.int .u8 34] 5)) 5 s
  have hown := own_below (own_lit (w := w) (base := w.heap.size) (e := 5) [34] #[.int .u8 34] rfl (Nat.le_refl _) (by unfold maxLen; simp)) hb (Nat.le_refl _)
  have b0 := two (w := w) (by go_grown) hb
  have z0 := hb.size
  simp only [World.size_alloc] at hrow z0
  have hz : w.heap.size + 2 ≤ (Lib.bytesWorld (w.alloc (.cells #[.int .u8 34] 5)) 5 s).heap.size := by rw [Lib.bytesWorld_size]; simp
  have hLs : s.data.toList.length ≤ 4096 := by rw [← size_list]; exact hs
  have HC := Lib.hid hC
  clear hC hb
  go_enter Tryz.func88, Tryz.ntmps88
  go_wp2_with fail
  clear hcv
  generalize Lib.bytesWorld (w.alloc (.cells #[.int .u8 34] 5)) 5 s = wB at *
  go_loopw [3, 10] (fun v i wr => ∃ k : Nat, k ≤ s.size ∧ i = .int .i64 k ∧ wr.ownsRow w.heap.size 5 1 v (34 :: esc (s.data.toList.take k)).length (bcells (34 :: esc (s.data.toList.take k))) ∧ wr.heap[w.heap.size + 1]? = some (.cells C 5 (m, m + 1)) ∧ Below w.heap.size w wr ∧ w.heap.size + 2 ≤ wr.heap.size)
    (fun _ i _ => s.size - (intOf i).toNat)
  case atStart => exact ⟨0, by omega, rfl, hown, hrow, b0, hz⟩
  case round =>
    clear hown hrow b0 hz z0
    obtain ⟨k, hk, rfl, hown, hrow, hbel, hz⟩ := hrel
    by_cases hlt : k < s.size
    · obtain ⟨b, hbk⟩ := bat s k hlt
      have hc : wr.cell? ⟨w.heap.size + 1, k, none⟩ = some (.int .u8 b.toNat) := by rw [cell_of_row _ _ _ _ _ _ hrow]; exact HC.out k b hbk
      have hq := quoted_bd s.data.toList k hLs
      have HST := Lib.hid (quoted_step s.data.toList k b hbk)
      have hb8 := byte_lt b
      have hne := own_ne_marked hown hrow
      clear hbk
      obtain ⟨L, hL⟩ : ∃ L, 34 :: esc (s.data.toList.take k) = L := ⟨_, rfl⟩
      rw [hL] at hq hown HST
      have HL := Lib.hid hL
      clear hL
      have HOWN := Lib.hid hown
      have HROW := Lib.hid hrow
      have HNE := Lib.hid hne
      have HBEL := Lib.hid hbel
      clear hown hrow hne hbel
      by_cases h1 : (b.toNat : Int) = 34
      · have h2 : ((b.toNat : Int) == 34) = true := by simpa using h1
        have HB : Hid (esc [b] = [92, b]) := esc_yes b (.inl (byte_eq (by rw [h1]; rfl)))
        clear h1
        go_wp2_with (first | (at_builtin; refine app_byte rfl (.tmp 20) (.tmp 21) 75 5 rfl Tryz.underlying75 hi hz0 hz1 hz2 w.heap.size u3 L 92 _ ?_ ?_ HOWN.out ?_ ?_ ?_ ?_; exact b92; rfl; rfl; omega; omega; intro v1 w1 hown1 hg1; obtain ⟨r1, bb1, zz1⟩ := keep_row HOWN.out HROW.out HBEL.out (Nat.le_refl _) (by omega) hg1; have HOWN1 := Lib.hid hown1; clear hown1 hg1) | (at_builtin; refine app_byte rfl (.tmp 23) (.tmp 25) 75 5 rfl Tryz.underlying75 hi hz0 hz1 hz2 w.heap.size v1 (L ++ [92]) b _ ?_ ?_ HOWN1.out ?_ ?_ ?_ ?_; rfl; rfl; rfl; (simp; omega); omega; intro v2 w2 hown2 hg2))
        obtain ⟨r2, bb2, zz2⟩ := keep_row HOWN1.out r1 bb1 (Nat.le_refl _) (by omega) hg2
        go_roundw
        case rel => exact ⟨k + 1, by omega, by go_num, by rw [HST.out, HB.out]; simpa using hown2, r2, bb2, by omega⟩
        case measure => simp [intOf]; omega
      by_cases h3 : (b.toNat : Int) = 92
      · have h2 : ((b.toNat : Int) == 34) = false := by simpa using h1
        have h4 : ((b.toNat : Int) == 92) = true := by simpa using h3
        have HB : Hid (esc [b] = [92, b]) := esc_yes b (.inr (byte_eq (by rw [h3]; rfl)))
        clear h1 h3
        go_wp2_with (first | (at_builtin; refine app_byte rfl (.tmp 20) (.tmp 21) 75 5 rfl Tryz.underlying75 hi hz0 hz1 hz2 w.heap.size u3 L 92 _ ?_ ?_ HOWN.out ?_ ?_ ?_ ?_; exact b92; rfl; rfl; omega; omega; intro v1 w1 hown1 hg1; obtain ⟨r1, bb1, zz1⟩ := keep_row HOWN.out HROW.out HBEL.out (Nat.le_refl _) (by omega) hg1; have HOWN1 := Lib.hid hown1; clear hown1 hg1) | (at_builtin; refine app_byte rfl (.tmp 23) (.tmp 25) 75 5 rfl Tryz.underlying75 hi hz0 hz1 hz2 w.heap.size v1 (L ++ [92]) b _ ?_ ?_ HOWN1.out ?_ ?_ ?_ ?_; rfl; rfl; rfl; (simp; omega); omega; intro v2 w2 hown2 hg2))
        obtain ⟨r2, bb2, zz2⟩ := keep_row HOWN1.out r1 bb1 (Nat.le_refl _) (by omega) hg2
        go_roundw
        case rel => exact ⟨k + 1, by omega, by go_num, by rw [HST.out, HB.out]; simpa using hown2, r2, bb2, by omega⟩
        case measure => simp [intOf]; omega
      · have h2 : ((b.toNat : Int) == 34) = false := by simpa using h1
        have h4 : ((b.toNat : Int) == 92) = false := by simpa using h3
        have HB : Hid (esc [b] = [b]) := esc_no b (fun h => by rcases h with rfl | rfl <;> simp at h1 h3)
        clear h1 h3
        go_wp2_with (at_builtin; refine app_byte rfl (.tmp 23) (.tmp 25) 75 5 rfl Tryz.underlying75 hi hz0 hz1 hz2 w.heap.size u3 L b _ ?_ ?_ HOWN.out ?_ ?_ ?_ ?_; (first | exact b92 | exact b34 | rfl); rfl; rfl; omega; omega; intro v1 w1 hown1 hg1)
        obtain ⟨r1, bb1, zz1⟩ := keep_row HOWN.out HROW.out HBEL.out (Nat.le_refl _) (by omega) hg1
        go_roundw
        case rel => exact ⟨k + 1, by omega, by go_num, by rw [HST.out, HB.out]; exact hown1, r1, bb1, by omega⟩
        case measure => simp [intOf]; omega
    · have ek : k = s.size := by omega
      have HK : Hid (34 :: esc (s.data.toList.take k) ++ [34] = quotedL s.data.toList) := by
        show 34 :: esc (s.data.toList.take k) ++ [34] = _
        rw [ek, size_list, List.take_length]; rfl
      have hq := quoted_bd s.data.toList k hLs
      obtain ⟨L, hL⟩ : ∃ L, 34 :: esc (s.data.toList.take k) = L := ⟨_, rfl⟩
      rw [hL] at hq hown HK
      have HOWN := Lib.hid hown
      have HROW := Lib.hid hrow
      have HBEL := Lib.hid hbel
      clear hL ek hown hrow hbel
      go_wp2_with (at_builtin; refine app_byte rfl (.tmp 28) (.tmp 29) 75 5 rfl Tryz.underlying75 hi hz0 hz1 hz2 w.heap.size u3 L 34 _ ?_ ?_ HOWN.out ?_ ?_ ?_ ?_; exact b34; rfl; rfl; omega; omega; intro v1 w1 hown1 hg1; obtain ⟨r1, bb1, zz1⟩ := keep_row HOWN.out HROW.out HBEL.out (Nat.le_refl _) (by omega) hg1; rw [HK.out] at hown1; have hst := run_string_of_own 75 9 5 Tryz.underlying75 Tryz.underlying5 Tryz.underlying9 hown1 rfl; clear hown1 hg1 r1)
      go_ret
      exact ⟨rfl, bb1⟩
end Go.Proofs.YtfmjeggomphliaaGreatDoor.Va
