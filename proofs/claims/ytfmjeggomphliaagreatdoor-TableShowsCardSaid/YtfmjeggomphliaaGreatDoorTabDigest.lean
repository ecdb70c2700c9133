/- Walks: the digest of a table, of texts of some length. -/
import Derived.Test.YtfmjeggomphliaaGreatDoorDigWalk
import Derived.Test.YtfmjeggomphliaaGreatDoorCutsMath
import Derived.Lib.AtoiErrMem
set_option linter.unusedVariables false
set_option linter.unusedSimpArgs false
namespace Go.Proofs.YtfmjeggomphliaaGreatDoor.Tb
open Go.RowKit Go Go.Sort Ba Va Sr
set_option maxHeartbeats 3200000 in
theorem digestB_is (v : Value) (l : List UInt8) (w : World) (hl : l.length ≤ 1000000) (hv : BytesAt w v l) :
    Calls Tryz.prog 37 #[v] w fun e w' => e = .returned (.int .u64 (digL l)) ∧ Below w.heap.size w w' := by
  obtain ⟨ao, cap, rfl, hcap, _⟩ := hv.len
  obtain ⟨n, hn⟩ : ∃ n, l.length = n := ⟨_, rfl⟩
  have HV := Lib.hid hv
  rw [hn] at hcap hl HV ⊢
  have HN := Lib.hid hn
  clear hv hn
  go_enter Tryz.func37, Tryz.ntmps37
  go_wp2_with fail
  go_loopw [3, 8] (fun vd i wr => ∃ (k : Nat) (d : Int), k ≤ n ∧ vd = .int .u64 d ∧ 0 ≤ d ∧ d < 18446744073709551616 ∧ i = .int .i64 k ∧ Hid (Below w.heap.size w wr) ∧ Hid (digL (l.take k) = d)) (fun vd i _ => n - (intOf i).toNat)
  case atStart => exact ⟨0, 14695981039346656037, Nat.zero_le _, rfl, by omega, by omega, rfl, Below.refl _ _, (rfl : digL (l.take 0) = 14695981039346656037)⟩
  case round =>
    obtain ⟨k, d, hk, rfl, d0, d1, rfl, BW, HD⟩ := hrel
    by_cases hlt : k < n
    · obtain ⟨b, hb⟩ : ∃ b, l[k]? = some b := ⟨_, List.getElem?_eq_getElem (by rw [HN.out]; exact hlt)⟩
      obtain ⟨B, o, rfl, hB, hc⟩ := BytesAt.byte HV.out hb
      replace hc := (BW.out.cell (by exact hB)).trans hc
      have hb8 : (b.toNat : Int) ≤ 255 := by have := b.toNat_lt; omega
      have HS : Hid (digL (l.take (k + 1)) = stepD d b) := by show _ = _; rw [dig_snoc l k b hb, HD.out]
      clear hb
      go_wp2_with fail
      go_roundw
      case rel => exact ⟨k + 1, stepD d b, by omega, rfl, (step_range d b).1, (step_range d b).2, by go_num, BW, HS⟩
      case measure => simp [intOf]; omega
    · obtain rfl : k = n := by omega
      have HR : Hid (d = digL l) := by show d = _; rw [← HD.out, ← HN.out, List.take_length]
      go_wp2_with fail
      go_ret
      exact ⟨by rw [HR.out]; rfl, BW.out⟩
set_option maxHeartbeats 3200000 in
theorem refDigB_is (s : ByteArray) (w : World) (hl : s.size ≤ 1000000) :
    Calls Tryz.prog 15 #[.string s] w fun e w' => e = .returned (.int .u64 (digL s.data.toList)) ∧ Below w.heap.size w w' := by
  go_enter Tryz.func15, Tryz.ntmps15
  go_wp2_with fail
  go_loopw [3, 4] (fun vd i wr => ∃ (k : Nat) (d : Int), k ≤ s.size ∧ vd = .int .u64 d ∧ 0 ≤ d ∧ d < 18446744073709551616 ∧ i = .int .i64 k ∧ Hid (Below w.heap.size w wr) ∧ Hid (digL (s.data.toList.take k) = d)) (fun vd i _ => s.size - (intOf i).toNat)
  case atStart => exact ⟨0, 14695981039346656037, Nat.zero_le _, rfl, by omega, by omega, rfl, Below.refl _ _, (rfl : digL (s.data.toList.take 0) = 14695981039346656037)⟩
  case round =>
    obtain ⟨k, d, hk, rfl, d0, d1, rfl, BW, HD⟩ := hrel
    by_cases hlt : k < s.size
    · obtain ⟨b, hb⟩ := bat s k hlt
      have hz := str_at hlt hb
      have hb8 : (b.toNat : Int) ≤ 255 := by have := b.toNat_lt; omega
      have HS : Hid (digL (s.data.toList.take (k + 1)) = stepD d b) := by show _ = _; rw [dig_snoc _ k b hb, HD.out]
      clear hb
      go_wp2_with fail
      go_roundw
      case rel => exact ⟨k + 1, stepD d b, by omega, by rw [step_ref]; rfl, (step_range d b).1, (step_range d b).2, by go_num, BW, HS⟩
      case measure => simp [intOf]; omega
    · have HR : Hid (d = digL s.data.toList) := by show d = _; rw [← HD.out, show k = s.size by omega, size_list, List.take_length]
      go_wp2_with fail
      go_ret
      exact ⟨by rw [HR.out]; rfl, BW.out⟩
theorem bytes_at (w : World) (s : ByteArray) (h : s.size ≤ 1000000) : BytesAt (Lib.bytesWorld w 5 s) (.slice (some ⟨w.heap.size, 0, none⟩) s.size (grownCap w s.size 0 5)) s.data.toList := by
  refine ⟨some ⟨w.heap.size, 0, none⟩, _, by rw [List.length_map, ← size_list], by rw [List.length_map, ← size_list]; exact grownCap_ge _ _ _ _, grownCap_le_maxLen _ _ _ _ (by unfold maxLen; omega), fun i x hx => ?_⟩
  rw [List.getElem?_map] at hx
  cases hb : s.data.toList[i]? with
  | none => rw [hb] at hx; cases hx
  | some b =>
    rw [hb] at hx
    obtain rfl := Option.some.inj hx
    refine ⟨w.heap.size, 0, rfl, by rw [Lib.bytesWorld_size]; omega, fun j hj => ?_⟩
    have h1 := bytes_cells (w := w) 5 s i b hb
    obtain rfl : j = 0 := by omega
    rw [show 0 + (i * 1 + 0) = i by omega, h1]; rfl
set_option maxHeartbeats 1600000 in
theorem tabDig_is (sa : Option Addr) (sn sc : Nat) (ra : Option Addr) (rn rc : Nat) (w : World) (X : ByteArray) (hX : X.size ≤ 1000000) (HS : Hid (∀ W, Below w.heap.size w W → Calls Tryz.prog 13 #[.agg #[.slice sa sn sc, .slice ra rn rc]] W fun e w' => e = .returned (.string X) ∧ Below W.heap.size W w')) :
    Calls Tryz.prog 14 #[.agg #[.slice sa sn sc, .slice ra rn rc]] w fun e w' => e = .returned (.int .u64 (digL X.data.toList)) ∧ Below w.heap.size w w' := by
  have bw1 : Hid (Below w.heap.size w (w.alloc (.cells #[.slice sa sn sc, .slice ra rn rc] 27))) := (Below.refl _ _).alloc (Nat.le_refl _) _
  go_enter Tryz.func14, Tryz.ntmps14
  go_wp2_with (first | (go_at_call 13; refine (HS.out _ bw1.out).mono ?_; rintro e w1 ⟨rfl, hb1⟩; have hcv := Lib.run_convert_string_bytes (P := Tryz.prog) w1 9 75 5 X Tryz.underlying9 Tryz.underlying75 Tryz.underlying5) | (go_at_call 37; refine (digestB_is _ X.data.toList _ (by rw [← size_list]; exact hX) (bytes_at w1 X hX)).mono ?_; rintro e w2 ⟨rfl, hb2⟩))
  go_ret
  exact ⟨rfl, two (two bw1.out (two hb1 (Lib.bytesWorld_below w1 _ X))) hb2⟩
theorem line_le {cs : List Col} {r : List Val} (h : fitL cs r = true) (hc : chk cs = 0) (hn : ∀ x ∈ r, -9223372036854775808 ≤ x.n ∧ x.n ≤ 9223372036854775807) : (lineL r).length ≤ 3232 := by
  have h1 := fitL_len h
  have h2 := (chk_ty hc).2.2
  have := join_le [44, 32] 200 (r.map fun x => (valB x).data.toList) (fun y hy => by
    obtain ⟨x, hx, rfl⟩ := List.mem_map.1 hy
    exact show_len x (hn x hx))
  rw [List.length_map] at this
  show (Lib.join _ _).length ≤ _
  have h3 : r.length * (200 + ([44, 32] : List UInt8).length) ≤ 16 * 202 := Nat.mul_le_mul (by omega) (by decide)
  omega
theorem lines_rows : ∀ (rs : List (List Val)), (∀ r ∈ rs, ∀ x ∈ r, rightB x.k x.n x.t = true) → linesL (rowsL rs) = rs.map fun r => lineL r ++ [10]
  | [], _ => rfl
  | r :: rs, h => by
    have e : rowsL (r :: rs) = lineL r ++ [10] ++ rowsL rs := by simp [rowsL]
    rw [e, lines_app _ _ (line_nl (h r (by simp))), lines_rows rs (fun x hx => h x (by simp [hx]))]; rfl
theorem rows_le (m : Nat) : ∀ (rs : List (List Val)), (∀ r ∈ rs, (lineL r).length ≤ m) → (rowsL rs).length ≤ rs.length * (m + 1)
  | [], _ => by simp [rowsL]
  | r :: rs, h => by
    have e : rowsL (r :: rs) = lineL r ++ [10] ++ rowsL rs := by simp [rowsL]
    have h1 := h r (by simp)
    have h2 := rows_le m rs (fun x hx => h x (by simp [hx]))
    rw [e, List.length_append, List.length_append]
    simp only [List.length_cons, List.length_nil]
    have h3 : (rs.length + 1) * (m + 1) = rs.length * (m + 1) + (m + 1) := Nat.succ_mul _ _
    omega
theorem cut_show {cs : List Col} {rs : List (List Val)} (h : chk cs = 0) : Lib.cut (showT cs rs) [10] = (showC cs, rowsL rs, true) := by
  unfold showT
  rw [List.append_assoc]
  exact Nu.cut_app 10 [] (showC cs) (rowsL rs) (show_nl_C h)
theorem showT_le {cs : List Col} {rs : List (List Val)} (h : errT cs rs = 0) (hn : ∀ r ∈ rs, ∀ x ∈ r, -9223372036854775808 ≤ x.n ∧ x.n ≤ 9223372036854775807) (h6 : rs.length ≤ 60) : (showT cs rs).length ≤ 200000 := by
  obtain ⟨h1, h2, _, _⟩ := errT_zero h
  have h3 := showC_len h1
  have h4 := rows_le 3232 rs (fun r hr => line_le (h2 r hr) h1 (hn r hr))
  have h5 : rs.length * (3232 + 1) ≤ 60 * 3233 := Nat.mul_le_mul h6 (by decide)
  unfold showT
  rw [List.length_append, List.length_append]
  simp only [List.length_cons, List.length_nil]
  omega
end Go.Proofs.YtfmjeggomphliaaGreatDoor.Tb
