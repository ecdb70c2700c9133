/- Walks: the document's order. -/
import Derived.Test.YtedpgeilamhipaaDoorValWalk9
set_option linter.unusedVariables false
set_option linter.unusedSimpArgs false
namespace Go.Proofs.YtedpgeilamhipaaDoor.Va
open Go.RowKit Go Ba

/-- The document's order of bytes. -/
theorem cb_one (A B : List UInt8) (j : Nat) (x y : UInt8) (hx : A[j]? = some x) (hy : B[j]? = some y) :
    Lib.compareBytes (A.drop j) (B.drop j) = if x < y then -1 else if y < x then 1 else Lib.compareBytes (A.drop (j + 1)) (B.drop (j + 1)) := by
  obtain ⟨h1, e1⟩ := List.getElem?_eq_some_iff.1 hx
  obtain ⟨h2, e2⟩ := List.getElem?_eq_some_iff.1 hy
  rw [List.drop_eq_getElem_cons h1, List.drop_eq_getElem_cons h2, e1, e2]
  rfl
theorem cb_ends (A B : List UInt8) (j : Nat) (h : A.length ≤ j ∨ B.length ≤ j) (ha : j ≤ A.length) (hb : j ≤ B.length) :
    Lib.compareBytes (A.drop j) (B.drop j) = if A.length < B.length then -1 else if B.length < A.length then 1 else 0 := by
  obtain ⟨a, hA⟩ : ∃ a, A.drop j = a := ⟨_, rfl⟩
  obtain ⟨b, hB⟩ : ∃ b, B.drop j = b := ⟨_, rfl⟩
  have l1 : A.length = j + a.length := by have := congrArg List.length hA; simp at this; omega
  have l2 : B.length = j + b.length := by have := congrArg List.length hB; simp at this; omega
  rw [hA, hB, l1, l2]
  match a, b with
  | [], [] => simp [Lib.compareBytes]
  | [], _ :: _ => simp [Lib.compareBytes]
  | _ :: _, [] => simp [Lib.compareBytes]
  | x :: a, y :: b => simp at l1 l2; omega
theorem bytes_any (sa sb : ByteArray) (c : Int) (w : World) (ha : sa.size ≤ 9223372036854775807) (hb : sb.size ≤ 9223372036854775807) (hc : Lib.compareBytes sa.data.toList sb.data.toList = c) :
    Calls Tryd.prog 37 #[.string sa, .string sb] w fun e w' => e = .returned (.int .i64 c) ∧ Below w.heap.size w w' := by
  have HC := Lib.hid hc
  clear hc
  go_enter Tryd.func37, Tryd.ntmps37
  go_wp2_with fail
  go_loopw [5] (fun i wr => ∃ j : Nat, j ≤ sa.size ∧ j ≤ sb.size ∧ i = .int .i64 j ∧ Lib.compareBytes (sa.data.toList.drop j) (sb.data.toList.drop j) = c ∧ Below w.heap.size w wr) (fun i _ => sa.size - (intOf i).toNat)
  case atStart => exact ⟨0, by omega, by omega, rfl, by simpa using HC.out, Below.refl _ _⟩
  case round =>
    obtain ⟨j, hj1, hj2, rfl, he, hbel⟩ := hrel
    have HE := Lib.hid he
    clear he
    by_cases l1 : j < sa.size
    · by_cases l2 : j < sb.size
      · obtain ⟨x, hx⟩ := bat sa j l1
        obtain ⟨y, hy⟩ := bat sb j l2
        have o := cb_one _ _ j x y hx hy
        rw [HE.out] at o
        have ax := str_at l1 hx
        have ay := str_at l2 hy
        have O := Lib.hid o
        have x8 : (x.toNat : Int) ≤ 255 := by have := x.toNat_lt; omega
        have y8 : (y.toNat : Int) ≤ 255 := by have := y.toNat_lt; omega
        clear o hx hy
        have j0 : (0 : Int) ≤ (j : Int) := by omega
        by_cases g1 : (x.toNat : Int) < (y.toNat : Int)
        · go_wp2_with fail
          go_quiet (fail)
          go_wp2_with fail
          go_ret
          refine ⟨ret_int ?_, (by first | exact hbel | exact Below.drewN hbel _ | exact Below.drewN (Below.drewN hbel _) _)⟩
          have := O.out
          rw [if_pos (by rw [UInt8.lt_iff_toNat_lt]; omega)] at this
          exact this.symm
        · by_cases g2 : (y.toNat : Int) < (x.toNat : Int)
          · go_wp2_with fail
            go_quiet (fail)
            go_wp2_with fail
            go_quiet (fail)
            go_wp2_with fail
            go_ret
            refine ⟨ret_int ?_, (by first | exact hbel | exact Below.drewN hbel _ | exact Below.drewN (Below.drewN hbel _) _)⟩
            have := O.out
            rw [if_neg (by rw [UInt8.lt_iff_toNat_lt]; omega), if_pos (by rw [UInt8.lt_iff_toNat_lt]; omega)] at this
            exact this.symm
          · go_wp2_with fail
            go_quiet (fail)
            go_wp2_with fail
            go_quiet (fail)
            go_wp2_with fail
            go_round
            case rel =>
              refine ⟨j + 1, by omega, by omega, by go_num, ?_, (by first | exact hbel | exact Below.drewN hbel _ | exact Below.drewN (Below.drewN hbel _) _)⟩
              have := O.out
              rw [if_neg (by rw [UInt8.lt_iff_toNat_lt]; omega), if_neg (by rw [UInt8.lt_iff_toNat_lt]; omega)] at this
              exact this.symm
            case measure => simp [intOf]; omega
      · have o := cb_ends sa.data.toList sb.data.toList j (.inr (by have := size_list sa; have := size_list sb; omega)) (by have := size_list sa; have := size_list sb; omega) (by have := size_list sa; have := size_list sb; omega)
        rw [HE.out, ← size_list, ← size_list] at o
        have O := Lib.hid o
        clear o
        by_cases g1 : sa.size < sb.size
        · go_wp2_with fail
          go_ret
          exact ⟨ret_int (by have := O.out; rw [if_pos g1] at this; exact this.symm), hbel⟩
        · by_cases g2 : sb.size < sa.size
          · go_wp2_with fail
            go_ret
            exact ⟨ret_int (by have := O.out; rw [if_neg g1, if_pos g2] at this; exact this.symm), hbel⟩
          · go_wp2_with fail
            go_ret
            exact ⟨ret_int (by have := O.out; rw [if_neg g1, if_neg g2] at this; exact this.symm), hbel⟩
    · have o := cb_ends sa.data.toList sb.data.toList j (.inl (by have := size_list sa; have := size_list sb; omega)) (by have := size_list sa; have := size_list sb; omega) (by have := size_list sa; have := size_list sb; omega)
      rw [HE.out, ← size_list, ← size_list] at o
      have O := Lib.hid o
      clear o
      by_cases g1 : sa.size < sb.size
      · go_wp2_with fail
        go_ret
        exact ⟨ret_int (by have := O.out; rw [if_pos g1] at this; exact this.symm), hbel⟩
      · by_cases g2 : sb.size < sa.size
        · go_wp2_with fail
          go_ret
          exact ⟨ret_int (by have := O.out; rw [if_neg g1, if_pos g2] at this; exact this.symm), hbel⟩
        · go_wp2_with fail
          go_ret
          exact ⟨ret_int (by have := O.out; rw [if_neg g1, if_neg g2] at this; exact this.symm), hbel⟩
theorem cv_kind {ka na : Int} {sa : ByteArray} {kb nb : Int} {sb : ByteArray} (h : ka ≠ kb) : cmpV ka na sa kb nb sb = if ka < kb then -1 else 1 := by
  unfold cmpV pick3 Lib.compareInt
  by_cases g : ka < kb
  · simp [g]
  · have : kb < ka := by omega
    simp [g, this]
theorem cv_num {ka na : Int} {sa : ByteArray} {nb : Int} {sb : ByteArray} (h : na ≠ nb) : cmpV ka na sa ka nb sb = if na < nb then -1 else 1 := by
  unfold cmpV pick3 Lib.compareInt
  by_cases g : na < nb
  · simp [g]
  · have : nb < na := by omega
    simp [g, this]
theorem cv_text {ka na : Int} {sa sb : ByteArray} : cmpV ka na sa ka na sb = Lib.compareBytes sa.data.toList sb.data.toList := by
  unfold cmpV pick3 Lib.compareInt
  simp
set_option maxHeartbeats 800000 in
theorem refCmp_any (ka na : Int) (sa : ByteArray) (kb nb : Int) (sb : ByteArray) (c : Int) (w : World) (ha : sa.size ≤ 9223372036854775807) (hb : sb.size ≤ 9223372036854775807) (hc : cmpV ka na sa kb nb sb = c) :
    Calls Tryd.prog 24 #[.agg #[.int .i64 ka, .int .i64 na, .string sa], .agg #[.int .i64 kb, .int .i64 nb, .string sb]] w fun e w' => e = .returned (.int .i64 c) ∧ Below w.heap.size w w' := by
  by_cases hk : ka = kb
  · subst hk
    by_cases hn : na = nb
    · subst hn
      rw [cv_text] at hc
      have HC := Lib.hid hc
      clear hc
      go_enter Tryd.func24, Tryd.ntmps24
      go_wp2_with fail
      refine (bytes_any sa sb c _ ha hb HC.out).mono ?_
      rintro e w1 ⟨rfl, hb1⟩
      go_wp2_with fail
      go_ret
      exact ⟨rfl, next (by go_grown) hb1 (by simp <;> omega)⟩
    · rw [cv_num hn] at hc
      have d1 : (na != nb) = true := by simpa using hn
      by_cases g : na < nb
      · rw [if_pos g] at hc
        subst hc
        go_enter Tryd.func24, Tryd.ntmps24
        go_wp2_with fail
        go_ret
        exact ⟨rfl, by go_grown⟩
      · have g2 : nb < na := by omega
        rw [if_neg g] at hc
        subst hc
        go_enter Tryd.func24, Tryd.ntmps24
        go_wp2_with fail
        go_ret
        exact ⟨rfl, by go_grown⟩
  · rw [cv_kind hk] at hc
    have d1 : (ka != kb) = true := by simpa using hk
    by_cases g : ka < kb
    · rw [if_pos g] at hc
      subst hc
      go_enter Tryd.func24, Tryd.ntmps24
      go_wp2_with fail
      go_ret
      exact ⟨rfl, by go_grown⟩
    · rw [if_neg g] at hc
      subst hc
      go_enter Tryd.func24, Tryd.ntmps24
      go_wp2_with fail
      go_ret
      exact ⟨rfl, by go_grown⟩
theorem val_eq (ka na : Int) (sa : ByteArray) (kb nb : Int) (sb : ByteArray) (r : Bool) (hr : (ka = kb ∧ na = nb ∧ sa = sb) ↔ r = true) (w : World) :
    (Op.equalIn 10000 23 (.agg #[.int .i64 ka, .int .i64 na, .string sa]) (.agg #[.int .i64 kb, .int .i64 nb, .string sb])).run Tryd.prog w = .ok r w := by
  have u3 := Tryd.underlying3
  have u9 := Tryd.underlying9
  have hS : Tryd.prog.underlying 23 = some (.struct (Tryd.prog.fieldsOf 23)) := by kernel_rfl
  have hp : Tryd.prog.stoodInHeld 23 = false := by kernel_rfl
  rw [show (10000 : Nat) = 9999 + 1 from rfl, run_equalIn_agg w 9999 23 _ _ hS hp]
  simp only [Program.fieldsOf, Tryd.underlying23]
  go_simp
  cases r
  · have e3 : sa.toList = sb.toList ↔ sa = sb := ⟨fun h => by rw [ByteArray.toList_eq, ByteArray.toList_eq] at h; exact Go.WideShapes.bytes_inj h, fun h => by rw [h]⟩
    have hn : ¬ (ka = kb ∧ na = nb ∧ sa = sb) := fun h => by have := hr.1 h; cases this
    by_cases h1 : ka = kb <;> by_cases h2 : na = nb <;> by_cases h3 : sa = sb <;> simp_all
  · obtain ⟨rfl, rfl, rfl⟩ := hr.2 rfl
    simp
theorem refRight_is (k n : Int) (s : ByteArray) (b : Bool) (w : World) (hs : s.size ≤ 9223372036854775807) (hb : rightB k n s = b) :
    Calls Tryd.prog 21 #[.agg #[.int .i64 k, .int .i64 n, .string s]] w fun e w' => e = .returned (.bool b) ∧ Below w.heap.size w w' := by
  rw [← hb]; exact refRight_any k n s w hs
theorem cmp_is {ka na : Int} {sa : ByteArray} {kb nb : Int} {sb : ByteArray} {c : Int} (hc : cmpV ka na sa kb nb sb = c) (w : World) :
    Calls Tryd.prog 23 #[.agg #[.int .i64 ka, .int .i64 na, .string sa], .agg #[.int .i64 kb, .int .i64 nb, .string sb]] w fun e w' => e = .returned (.int .i64 c) ∧ Below w.heap.size w w' := by
  rw [← hc]; exact cmp_any ka na sa kb nb sb w
theorem true_any (k n : Int) (s : ByteArray) (b : Bool) (w : World) (hb : ((k == 1) && (n != 0)) = b) :
    Calls Tryd.prog 25 #[.agg #[.int .i64 k, .int .i64 n, .string s]] w fun e w' => e = .returned (.bool b) ∧ Below w.heap.size w w' := by
  by_cases hk : k = 1
  · subst hk
    go_enter Tryd.func25, Tryd.ntmps25
    go_wp2_with fail
    go_ret
    exact ⟨ret_bool (by rw [← hb]; simp [bne]), by go_grown⟩
  · have d1 : (k == 1) = false := by simpa using hk
    have hf : b = false := by rw [← hb]; simp [hk]
    subst hf
    clear hb
    go_enter Tryd.func25, Tryd.ntmps25
    go_wp2_with fail
    go_ret
    exact ⟨rfl, by go_grown⟩
end Go.Proofs.YtedpgeilamhipaaDoor.Va
