/- Walks: what is right, in the document's word and the law's. -/
import Derived.Test.YtedpgeilamhipaaDoorValWalk7
set_option linter.unusedVariables false
set_option linter.unusedSimpArgs false
namespace Go.Proofs.YtedpgeilamhipaaDoor.Va
open Go.RowKit Go Ba

theorem r_other {k n : Int} {s : ByteArray} (h0 : k ≠ 0) (h1 : k ≠ 1) (h2 : k ≠ 2) : rightB k n s = false := by unfold rightB; rw [if_neg h0, if_neg h1, if_neg h2]
theorem r_num {k n : Int} {s : ByteArray} (h1 : k ≠ 1) (hn : n ≠ 0) : rightB k n s = false := by
  unfold rightB
  by_cases h0 : k = 0
  · rw [if_pos h0]; simp [hn]
  rw [if_neg h0, if_neg h1]
  split <;> simp [hn]
theorem ne_size {s : ByteArray} (h : 0 < s.size) : s.toList.isEmpty = false := by
  rw [Bool.eq_false_iff]; intro hx; rw [empty_iff] at hx; subst hx; exact absurd h (by decide)
theorem em_size {s : ByteArray} (h : s.size ≤ 0) : s.toList.isEmpty = true := (empty_iff s).2 (by
  rcases s with ⟨d⟩; have : d.size = 0 := by have : d.size ≤ 0 := h; omega
  rw [Array.size_eq_zero_iff] at this; rw [this])
theorem r_text {k n : Int} {s : ByteArray} (h2 : k ≠ 2) (hs : 0 < s.size) : rightB k n s = false := by
  unfold rightB; rw [ne_size hs, if_neg h2]
  split
  · simp
  · split <;> rfl
theorem r_null {s : ByteArray} (h : s.size ≤ 0) : rightB 0 0 s = true := by unfold rightB; rw [em_size h]; rfl
theorem r_one {n : Int} {s : ByteArray} (h : s.size ≤ 0) : rightB 1 n s = true := by unfold rightB; rw [em_size h]; rfl
theorem r_two {s : ByteArray} : rightB 2 0 s = plainB s := by unfold rightB; simp
theorem r_long {k n : Int} {s : ByteArray} (h : 64 < s.size) : rightB k n s = false := by
  have : plainB s = false := by unfold plainB; simp; omega
  unfold rightB; rw [ne_size (by omega), this]; simp
theorem plain_empty {s : ByteArray} (h : s.size ≤ 0) : plainB s = true := by
  have : s = ⟨#[]⟩ := (empty_iff s).1 (em_size h)
  subst this; decide
theorem str_at {s : ByteArray} {j : Nat} {b : UInt8} (hj : j < s.size) (h : s.data.toList[j]? = some b) : s[j] = b := by
  have : s.data[j]? = some b := by simpa using h
  obtain ⟨_, h2⟩ := Array.getElem?_eq_some_iff.1 this
  exact h2

set_option maxRecDepth 20000 in
set_option maxHeartbeats 800000 in
theorem refRight_any (k n : Int) (s : ByteArray) (w : World) (hs : s.size ≤ 9223372036854775807) :
    Calls Tryd.prog 21 #[.agg #[.int .i64 k, .int .i64 n, .string s]] w fun e w' => e = .returned (.bool (rightB k n s)) ∧ Below w.heap.size w w' := by
  by_cases g0 : k < 0
  · go_enter Tryd.func21, Tryd.ntmps21
    go_wp2_with fail
    go_ret
    exact ⟨ret_bool (r_other (by omega) (by omega) (by omega)).symm, by go_grown⟩
  by_cases g2 : 2 < k
  · go_enter Tryd.func21, Tryd.ntmps21
    go_wp2_with fail
    go_ret
    exact ⟨ret_bool (r_other (by omega) (by omega) (by omega)).symm, by go_grown⟩
  by_cases k1 : k = 1
  · subst k1
    by_cases gs : 0 < s.size
    · go_enter Tryd.func21, Tryd.ntmps21
      go_wp2_with fail
      go_ret
      exact ⟨ret_bool (r_text (by decide) gs).symm, by go_grown⟩
    · have gs0 : s.size ≤ 0 := by omega
      go_enter Tryd.func21, Tryd.ntmps21
      go_wp2_with fail
      go_loop [3] (fun i => i = .int .i64 0) (fun _ => 0)
      case atStart => rfl
      case round =>
        subst hrel
        go_wp2_with fail
        go_ret
        exact ⟨ret_bool (r_one gs0).symm, by go_grown⟩
  by_cases gn : n = 0
  · subst gn
    by_cases k0 : k = 0
    · subst k0
      by_cases gs : 0 < s.size
      · go_enter Tryd.func21, Tryd.ntmps21
        go_wp2_with fail
        go_ret
        exact ⟨ret_bool (r_text (by decide) gs).symm, by go_grown⟩
      · have gs0 : s.size ≤ 0 := by omega
        go_enter Tryd.func21, Tryd.ntmps21
        go_wp2_with fail
        go_loop [3] (fun i => i = .int .i64 0) (fun _ => 0)
        case atStart => rfl
        case round =>
          subst hrel
          go_wp2_with fail
          go_ret
          exact ⟨ret_bool (r_null gs0).symm, by go_grown⟩
    · obtain rfl : k = 2 := by omega
      by_cases gs : 64 < s.size
      · go_enter Tryd.func21, Tryd.ntmps21
        go_wp2_with fail
        go_ret
        exact ⟨ret_bool (r_long gs).symm, by go_grown⟩
      · go_enter Tryd.func21, Tryd.ntmps21
        go_wp2_with fail
        go_loop [3] (fun i => ∃ j : Nat, j ≤ s.size ∧ i = .int .i64 j ∧ (s.data.toList.take j).all okByte = true) (fun i => s.size - (intOf i).toNat)
        case atStart => exact ⟨0, by omega, rfl, by simp⟩
        case round =>
          obtain ⟨j, hj, rfl, hall⟩ := hrel
          have HA := Lib.hid hall
          clear hall
          by_cases hlt : j < s.size
          · obtain ⟨b, hbk⟩ := bat s j hlt
            have hb8 : (b.toNat : Int) ≤ 255 := by have := b.toNat_lt; omega
            have hat := str_at hlt hbk
            have HBK := Lib.hid hbk
            clear hbk
            by_cases h1 : (b.toNat : Int) < 32
            · go_wp2_with fail
              go_ret
              exact ⟨ret_bool (r_two.trans (plain_no (List.mem_of_getElem? HBK.out) (by unfold okByte; simp; omega))).symm, by go_grown⟩
            · by_cases h2 : 126 < (b.toNat : Int)
              · go_wp2_with fail
                go_ret
                exact ⟨ret_bool (r_two.trans (plain_no (List.mem_of_getElem? HBK.out) (by unfold okByte; simp; omega))).symm, by go_grown⟩
              · go_wp2_with fail
                go_round
                case rel => exact ⟨j + 1, by omega, by go_num, by rw [take_one _ _ _ HBK.out, List.all_append, HA.out]; simp [okByte]; omega⟩
                case measure => simp [intOf]; omega
          · have ek : j = s.size := by omega
            have HK := Lib.hid ek
            clear ek
            go_wp2_with fail
            go_ret
            refine ⟨ret_bool (r_two.trans ?_).symm, by go_grown⟩
            have ha := HA.out
            rw [HK.out, size_list, List.take_length] at ha
            unfold plainB
            rw [ha, Bool.true_and]
            simp
            omega
  · have dn : (n == 0) = false := by simpa using gn
    have d1 : (k == 1) = false := by simpa using k1
    have P : Hid (rightB k n s = false) := r_num k1 gn
    have q0 : 0 ≤ k := by omega
    have q2 : k ≤ 2 := by omega
    have e1 : (k != 1) = true := by simpa using k1
    have en : (n != 0) = true := by simpa using gn
    clear g0 g2
    go_enter Tryd.func21, Tryd.ntmps21
    go_wp2_with fail
    go_ret
    exact ⟨ret_bool (P.out).symm, by go_grown⟩
theorem ref01_any (k n : Int) (s : ByteArray) (w : World) :
    Calls Tryd.prog 22 #[.agg #[.int .i64 k, .int .i64 n, .string s]] w fun e w' => e = .returned (.agg #[.int .i64 k, .int .i64 n, .string s]) ∧ Below w.heap.size w w' := by
  go_enter Tryd.func22, Tryd.ntmps22
  go_wp2_with fail
  go_returns
  exact ⟨rfl, by go_grown⟩
/-- The law's own word. -/
theorem lawRight_any (k n : Int) (s : ByteArray) (w : World) (hs : s.size ≤ 9223372036854775807) (r : Bool) (hr : rightB k n s = r) :
    Calls Tryd.prog 20 #[.agg #[.int .i64 k, .int .i64 n, .string s]] w fun e w' => e = .returned (.bool r) ∧ Below w.heap.size w w' := by
  subst hr
  by_cases g : 200 < s.size
  · have hf : rightB k n s = false := r_long (by omega)
    rw [hf]
    go_enter Tryd.func20, Tryd.ntmps20
    go_wp2_with fail
    go_ret
    exact ⟨rfl, by go_grown⟩
  · go_enter Tryd.func20, Tryd.ntmps20
    go_wp2_with fail
    refine (ref01_any k n s _).mono ?_
    rintro e w1 ⟨rfl, hb1⟩
    go_wp2_with fail
    refine (refRight_any k n s _ hs).mono ?_
    rintro e w2 ⟨rfl, hb⟩
    have b2 := two hb1 hb
    go_wp2_with fail
    go_ret
    exact ⟨rfl, next (by go_grown) b2 (by simp)⟩
end Go.Proofs.YtedpgeilamhipaaDoor.Va
