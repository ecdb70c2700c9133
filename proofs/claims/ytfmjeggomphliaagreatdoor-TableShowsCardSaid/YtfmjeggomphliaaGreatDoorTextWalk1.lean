/- Walks: what is between quotes; a number in digits. -/
import Derived.Test.YtfmjeggomphliaaGreatDoorTextMath
set_option linter.unusedVariables false
set_option linter.unusedSimpArgs false
namespace Go.Proofs.YtfmjeggomphliaaGreatDoor.Va
open Go.RowKit Go Ba

theorem unq_bd (l : List UInt8) (k : Nat) (hl : l.length ≤ 100000) : (unqL (l.take k)).1.length ≤ 100000 := by
  have := unq_len (l.take k)
  have : (l.take k).length ≤ l.length := List.length_take_le' _ _
  omega
set_option maxHeartbeats 1600000 in
theorem unquoted_any (s : ByteArray) (w : World) (hs : s.size ≤ 100000) :
    Calls Tryz.prog 57 #[.string s] w fun e w' => e = .returned (.string ⟨(unqL s.data.toList).1.toArray⟩) ∧ Below w.heap.size w w' := by
  obtain ⟨i0, hi, hz0, hz1, hz2⟩ := info_parts info5
  have hcv := fun w => Lib.run_convert_string_bytes (P := Tryz.prog) w 9 75 5 s Tryz.underlying9 Tryz.underlying75 Tryz.underlying5
  obtain ⟨C, m, hrow, hC⟩ := bytes_row (w := w) 5 s
  have hb := Lib.bytesWorld_below w 5 s
  have hz : w.heap.size + 1 ≤ (Lib.bytesWorld w 5 s).heap.size := by rw [Lib.bytesWorld_size]; simp
  have hLs : s.data.toList.length ≤ 100000 := by rw [← size_list]; exact hs
  have HC := Lib.hid hC
  clear hC
  go_enter Tryz.func57, Tryz.ntmps57
  go_wp2_with fail
  clear hcv
  generalize Lib.bytesWorld w 5 s = wB at *
  go_loopw [3, 4, 10] (fun v e i wr => ∃ k : Nat, k ≤ s.size ∧ i = .int .i64 k ∧ e = .bool (unqL (s.data.toList.take k)).2 ∧ wr.ownsRow w.heap.size 5 1 v (unqL (s.data.toList.take k)).1.length (bcells (unqL (s.data.toList.take k)).1) ∧ wr.heap[w.heap.size]? = some (.cells C 5 (m, m + 1)) ∧ Below w.heap.size w wr ∧ w.heap.size + 1 ≤ wr.heap.size)
    (fun _ _ i _ => s.size - (intOf i).toNat)
  case atStart => exact ⟨0, by omega, rfl, rfl, World.ownsRow_nil _ _ _ _, hrow, hb, hz⟩
  case round =>
    clear hrow hb hz
    obtain ⟨k, hk, rfl, rfl, hown, hrow, hbel, hz⟩ := hrel
    by_cases hlt : k < s.size
    · obtain ⟨b, hbk⟩ := bat s k hlt
      have hc : wr.cell? ⟨w.heap.size, k, none⟩ = some (.int .u8 b.toNat) := by rw [cell_of_row _ _ _ _ _ _ hrow]; exact HC.out k b hbk
      have hq := unq_bd s.data.toList k hLs
      have HST := Lib.hid (unq_snoc s.data.toList k b hbk)
      have hb8 := byte_lt b
      have hne := own_ne_marked hown hrow
      clear hbk
      obtain ⟨L, E, hL⟩ : ∃ L E, unqL (s.data.toList.take k) = (L, E) := ⟨_, _, rfl⟩
      rw [hL] at hq hown HST ⊢
      dsimp only at hq hown ⊢
      have HL := Lib.hid hL
      clear hL
      have HOWN := Lib.hid hown
      have HROW := Lib.hid hrow
      have HNE := Lib.hid hne
      have HBEL := Lib.hid hbel
      clear hown hrow hne hbel
      by_cases h1 : (b.toNat : Int) = 92
      · have h2 : ((b.toNat : Int) == 92) = true := by simpa using h1
        have hb92 : b = 92 := byte_eq (by rw [h1]; rfl)
        cases E
        · have HB : Hid (unqS (L, false) b = (L, true)) := by show unqS (L, false) b = (L, true); simp [unqS, hb92]
          clear h1 hb92
          go_wp2_with fail
          go_roundw
          case rel => exact ⟨k + 1, by omega, by go_num, by rw [HST.out, HB.out], by rw [HST.out, HB.out]; exact HOWN.out, HROW.out, HBEL.out, by omega⟩
          case measure => simp [intOf]; omega
        · have HB : Hid (unqS (L, true) b = (L ++ [b], false)) := by show unqS (L, true) b = (L ++ [b], false); simp [unqS]
          clear h1 hb92
          go_wp2_with (at_builtin; refine app_byte rfl (.tmp 20) (.tmp 22) 75 5 rfl Tryz.underlying75 hi hz0 hz1 hz2 w.heap.size u3 L b _ ?_ ?_ HOWN.out ?_ ?_ ?_ ?_; rfl; rfl; rfl; omega; omega; intro v1 w1 hown1 hg1)
          obtain ⟨r1, bb1, zz1⟩ := keep_row HOWN.out HROW.out HBEL.out (Nat.le_refl _) (by omega) hg1
          go_roundw
          case rel => exact ⟨k + 1, by omega, by go_num, by rw [HST.out, HB.out], by rw [HST.out, HB.out]; exact hown1, r1, bb1, by omega⟩
          case measure => simp [intOf]; omega
      · have h2 : ((b.toNat : Int) == 92) = false := by simpa using h1
        have HB : Hid (unqS (L, E) b = (L ++ [b], false)) := by
          show unqS (L, E) b = (L ++ [b], false)
          have : b ≠ 92 := fun h => h1 (by rw [h]; rfl)
          simp [unqS, this]
        clear h1
        go_wp2_with (at_builtin; refine app_byte rfl (.tmp 20) (.tmp 22) 75 5 rfl Tryz.underlying75 hi hz0 hz1 hz2 w.heap.size u3 L b _ ?_ ?_ HOWN.out ?_ ?_ ?_ ?_; rfl; rfl; rfl; omega; omega; intro v1 w1 hown1 hg1)
        obtain ⟨r1, bb1, zz1⟩ := keep_row HOWN.out HROW.out HBEL.out (Nat.le_refl _) (by omega) hg1
        go_roundw
        case rel => exact ⟨k + 1, by omega, by go_num, by rw [HST.out, HB.out], by rw [HST.out, HB.out]; exact hown1, r1, bb1, by omega⟩
        case measure => simp [intOf]; omega
    · have ek : k = s.size := by omega
      rw [ek, size_list, List.take_length] at hown ⊢
      have hst := run_string_of_own 75 9 5 Tryz.underlying75 Tryz.underlying5 Tryz.underlying9 hown rfl
      have hge : s.data.toList.length ≤ s.data.toList.length := Nat.le_refl _
      have HBEL := Lib.hid hbel
      clear ek hown hrow hbel
      go_wp2_with fail
      go_ret
      exact ⟨rfl, HBEL.out⟩

theorem byte_str {P : Program} (w : World) (src dst e : TypeId) (hs : P.underlying src = some (.slice e)) (he : P.underlying e = some (.int .u8)) (hd : P.underlying dst = some .string) (c : Int) (h0 : 0 ≤ c) (h1 : c ≤ 255) :
    (convert src dst (.slice (some ⟨w.heap.size, 0, none⟩) 1 1)).run P (w.alloc (.cells #[.int .u8 c] e)) = .ok (.string ⟨#[UInt8.ofNat c.toNat]⟩) (w.alloc (.cells #[.int .u8 c] e)) := by
  have hc : c = ((UInt8.ofNat c.toNat).toNat : Int) := by rw [UInt8.toNat_ofNat']; omega
  have hcur : (#[Value.int .u8 c] : Array Value).toList = bcells [UInt8.ofNat c.toNat] := by
    rw [bcells_one]
    exact congrArg (fun x => [Value.int .u8 x]) hc
  have hown := own_lit (w := w) (base := w.heap.size) (e := e) [UInt8.ofNat c.toNat] #[.int .u8 c] hcur (Nat.le_refl _) (by unfold maxLen; simp only [List.length_cons, List.length_nil]; omega)
  exact run_string_of_own src dst e hs he hd hown rfl
theorem str_add (a b : List UInt8) : (⟨a.toArray⟩ : ByteArray) ++ ⟨b.toArray⟩ = ⟨(a ++ b).toArray⟩ := by rw [ByteArray.mk_append_mk]
theorem str_size (a : List UInt8) : (⟨a.toArray⟩ : ByteArray).size = a.length := by simp [ByteArray.size]
theorem dec_len (n : Int) (h0 : 0 ≤ n) (h1 : n ≤ 9223372036854775807) : (Lib.decDigits n.toNat).length ≤ 20 := by
  rw [Lib.decDigits_length]; exact Lib.nDigits_le20 _ (by omega)
/-- The digits of a number that is not below nothing. -/
theorem number_pos (d : Nat) : ∀ (n : Int) (w : World), 0 ≤ n → n < 10 ^ d → n ≤ 9223372036854775807 →
    Calls Tryz.prog 63 #[.int .i64 n] w fun e w' => e = .returned (.string ⟨(Lib.decDigits n.toNat).toArray⟩) ∧ Below w.heap.size w w' := by
  induction d with
  | zero =>
    intro n w h0 h1 h2
    obtain rfl : n = 0 := by omega
    have HD : Hid (Lib.decDigits (0 : Int).toNat = [48]) := by show Lib.decDigits 0 = [48]; decide +kernel
    have hst := fun w => byte_str (P := Tryz.prog) w 75 9 5 Tryz.underlying75 Tryz.underlying5 Tryz.underlying9 48 (by omega) (by omega)
    go_enter Tryz.func63, Tryz.ntmps63
    go_wp2_with fail
    go_ret
    exact ⟨by rw [HD.out]; rfl, by go_grown⟩
  | succ d ih =>
    intro n w h0 h1 h2
    have hst := fun w => byte_str (P := Tryz.prog) w 75 9 5 Tryz.underlying75 Tryz.underlying5 Tryz.underlying9 (48 + n % 10) (by omega) (by omega)
    by_cases h10 : n < 10
    · have HD : Hid (Lib.decDigits n.toNat = [UInt8.ofNat (48 + n % 10).toNat]) := by
        show Lib.decDigits n.toNat = _
        rw [Lib.decDigits_one (by omega)]
        congr 2
        omega
      clear h1
      go_enter Tryz.func63, Tryz.ntmps63
      go_wp2_with fail
      go_ret
      exact ⟨by rw [HD.out]; rfl, by go_grown⟩
    · have hq : n / 10 < 10 ^ d := by rw [Int.pow_succ] at h1; omega
      have hl := dec_len (n / 10) (by omega) (by omega)
      have HD : Hid (Lib.decDigits n.toNat = Lib.decDigits (n / 10).toNat ++ [UInt8.ofNat (48 + n % 10).toNat]) := by
        show Lib.decDigits n.toNat = _
        rw [Lib.decDigits, dif_neg (by omega)]
        congr 2
        · omega
        · congr 2; omega
      have HI := Lib.hid (fun w => ih (n / 10) w (by omega) hq (by omega))
      obtain ⟨X, hX⟩ : ∃ X : ByteArray, X = ⟨(Lib.decDigits (n / 10).toNat).toArray⟩ := ⟨_, rfl⟩
      have hXs : X.size ≤ 20 := by rw [hX, str_size]; exact hl
      rw [← hX] at HI
      have HX := Lib.hid hX
      clear hX hl h1 hq ih
      go_enter Tryz.func63, Tryz.ntmps63
      go_wp2_with fail
      refine (HI.out _).mono ?_
      rintro e w1 ⟨rfl, hb⟩
      have b1 := two (w := w) (by go_grown) hb
      clear hb
      go_wp2_with fail
      go_ret
      refine ⟨ret_str ?_, b1⟩
      rw [HD.out, HX.out]
      exact str_add _ _
theorem tmod_m {n m : Int} (h : n = -m) (h0 : 0 ≤ m) : n.tmod 10 = -(m % 10) := by
  subst h; rw [Int.neg_tmod, Int.tmod_eq_emod_of_nonneg h0]
theorem tdiv_m {n m : Int} (h : n = -m) (h0 : 0 ≤ m) : n.tdiv 10 = -(m / 10) := by
  subst h; rw [Int.neg_tdiv, Int.tdiv_eq_ediv_of_nonneg h0]
/-- A number in decimal digits. -/
theorem number_any (n : Int) (w : World) (n0 : -9223372036854775808 ≤ n) (n1 : n ≤ 9223372036854775807) :
    Calls Tryz.prog 63 #[.int .i64 n] w fun e w' => e = .returned (.string ⟨(Lib.itoa n).toArray⟩) ∧ Below w.heap.size w w' := by
  by_cases h0 : 0 ≤ n
  · have e : Lib.itoa n = Lib.decDigits n.toNat := by unfold Lib.itoa; rw [if_neg (by omega)]
    rw [e]
    exact number_pos 19 n w h0 (by omega) n1
  · obtain ⟨m, hm⟩ : ∃ m : Int, n = -m := ⟨-n, by omega⟩
    have hm1 : 1 ≤ m := by omega
    have hm2 : m ≤ 9223372036854775808 := by omega
    have e : Lib.itoa n = 45 :: Lib.decDigits m.toNat := by
      unfold Lib.itoa; rw [if_pos (by omega)]
      congr 2; omega
    have ht := tmod_m hm (by omega)
    have hd := tdiv_m hm (by omega)
    have hst := fun w => byte_str (P := Tryz.prog) w 75 9 5 Tryz.underlying75 Tryz.underlying5 Tryz.underlying9 (48 + m % 10) (by omega) (by omega)
    have hs := fun w => byte_str (P := Tryz.prog) w 75 9 5 Tryz.underlying75 Tryz.underlying5 Tryz.underlying9 (48 - n.tmod 10) (by rw [ht]; omega) (by rw [ht]; omega)
    have he : 48 - n.tmod 10 = 48 + m % 10 := by rw [ht]; omega
    have hlo : 0 ≤ 48 - n.tmod 10 := by rw [ht]; omega
    have hhi : 48 - n.tmod 10 ≤ 255 := by rw [ht]; omega
    by_cases h10 : n ≤ -10
    · have HI := Lib.hid (fun w => number_pos 19 (m / 10) w (by omega) (by omega) (by omega))
      have HD : Hid (Lib.decDigits m.toNat = Lib.decDigits (m / 10).toNat ++ [UInt8.ofNat (48 - n.tmod 10).toNat]) := by
        show Lib.decDigits m.toNat = _
        rw [he, Lib.decDigits, dif_neg (by omega)]
        congr 2
        · omega
        · congr 2; omega
      have hl := dec_len (m / 10) (by omega) (by omega)
      obtain ⟨X, hX⟩ : ∃ X : ByteArray, X = ⟨(Lib.decDigits (m / 10).toNat).toArray⟩ := ⟨_, rfl⟩
      have hXs : X.size ≤ 20 := by rw [hX, str_size]; exact hl
      rw [← hX] at HI
      have HX := Lib.hid hX
      have hneg : -(n.tdiv 10) = m / 10 := by rw [hd]; omega
      have hr0 : 0 ≤ -(n.tdiv 10) := by rw [hneg]; omega
      have hr1 : -(n.tdiv 10) ≤ 9223372036854775807 := by rw [hneg]; omega
      rw [← hneg] at HI
      have HE := Lib.hid e
      clear hX hl e ht hd he hst hneg hm
      go_enter Tryz.func63, Tryz.ntmps63
      go_wp2_with fail
      refine (HI.out _).mono ?_
      rintro e w1 ⟨rfl, hb⟩
      have b1 := two (w := w) (by go_grown) hb
      clear hb
      go_wp2_with fail
      go_ret
      refine ⟨ret_str ?_, b1⟩
      rw [HE.out, HD.out, HX.out]
      exact (congrArg (fun x => (⟨#[45]⟩ : ByteArray) ++ x) (str_add _ _)).trans (str_add _ _)
    · have HD : Hid (Lib.decDigits m.toNat = [UInt8.ofNat (48 - n.tmod 10).toNat]) := by
        show Lib.decDigits m.toNat = _
        rw [he, Lib.decDigits_one (by omega)]
        congr 2
        omega
      have HE := Lib.hid e
      clear e ht hd he hst hm
      go_enter Tryz.func63, Tryz.ntmps63
      go_wp2_with fail
      go_ret
      refine ⟨ret_str ?_, by go_grown⟩
      rw [HE.out, HD.out]
      exact str_add _ _
end Go.Proofs.YtfmjeggomphliaaGreatDoor.Va
