/- Walks: the document's word on the text of a table. -/
import Derived.Test.YtfmjeggomphliaaGreatDoorRefWalk2
import Derived.Test.YtfmjeggomphliaaGreatDoorTextWalk2
import Derived.Test.YtfmjeggomphliaaGreatDoorCutsMath
set_option linter.unusedVariables false
set_option linter.unusedSimpArgs false
namespace Go.Proofs.YtfmjeggomphliaaGreatDoor.Tb
open Go.RowKit Go Go.Sort Ba Va Sr
theorem join_back (sep : List UInt8) : ∀ (xs : List (List UInt8)) (y : List UInt8), Lib.join (xs ++ [y]) sep = (if xs = [] then [] else Lib.join xs sep ++ sep) ++ y
  | [], y => by simp [Lib.join]
  | [x], y => by simp [Lib.join]
  | x :: z :: r, y => by
    have := join_back sep (z :: r) y
    simp only [List.cons_append] at this ⊢
    rw [join_two, join_two, this]; simp
def jn (xs : List (List UInt8)) (k : Nat) : List UInt8 := Lib.join (xs.take k) [44, 32]
theorem jn_step {xs : List (List UInt8)} {k : Nat} {y : List UInt8} (h : xs[k]? = some y) : jn xs (k + 1) = (if k = 0 then [] else jn xs k ++ [44, 32]) ++ y := by
  unfold jn
  rw [take_one xs k y h, join_back]
  by_cases hk : k = 0
  · subst hk; simp
  · have hl := (List.getElem?_eq_some_iff.1 h).1
    rw [if_neg hk, if_neg (by intro e; have h9 := congrArg List.length e; rw [List.length_take] at h9; have h8 : min k xs.length = 0 := h9; omega)]
theorem sz1 : (⟨#[10]⟩ : ByteArray).size = 1 := rfl
theorem sz2 : (⟨#[44, 32]⟩ : ByteArray).size = 2 := rfl
theorem sz4 : (⟨#[32, 105, 110, 116]⟩ : ByteArray).size = 4 := rfl
theorem sz5 : (⟨#[32, 116, 101, 120, 116]⟩ : ByteArray).size = 5 := rfl
set_option maxHeartbeats 3200000 in
theorem refCols_is (sv : Value) (cs : List Col) (w : World) (hck : chk cs = 0) (hs : ColsAt w sv cs) :
    Calls Tryz.prog 29 #[sv] w fun e w' => e = .returned (.string ⟨(showC cs).toArray⟩) ∧ Below w.heap.size w w' := by
  obtain ⟨hty, _, h16⟩ := chk_ty hck
  obtain ⟨ao, cap, rfl, hcap, _⟩ := hs.len
  obtain ⟨n, hn⟩ : ∃ n, cs.length = n := ⟨_, rfl⟩
  have HV := Lib.hid hs
  have HT := Lib.hid hty
  rw [hn] at HV h16 hcap ⊢
  have HN := Lib.hid hn
  clear hs hty hck hn
  go_enter Tryz.func29, Tryz.ntmps29
  go_wp2_with fail
  go_loopw [3, 4] (fun v i wr => ∃ (k : Nat) (x : ByteArray), k ≤ n ∧ i = .int .i64 k ∧ v = .string x ∧ x.size ≤ 1 + 40 * k ∧ Hid (x.data.toList = 40 :: jn (cs.map fun c => (colB c).data.toList) k) ∧ Hid (Below w.heap.size w wr)) (fun v i _ => n - (intOf i).toNat)
  case atStart => exact ⟨0, _, Nat.zero_le _, rfl, rfl, by decide, rfl, Below.refl _ _⟩
  case round =>
    obtain ⟨k, x, hk, rfl, rfl, hxs, HX, BW⟩ := hrel
    by_cases hlt : k < n
    · obtain ⟨c, hc⟩ : ∃ c, cs[k]? = some c := ⟨_, List.getElem?_eq_getElem (by rw [HN.out]; exact hlt)⟩
      obtain ⟨b, o, rfl, hb, x0, x1⟩ := ColsAt.col HV.out hc
      replace x0 := (BW.out.cell (by exact hb)).trans x0
      replace x1 := (BW.out.cell (by exact hb)).trans x1
      obtain ⟨ht, hnm⟩ := HT.out c (List.mem_of_getElem? hc)
      have hsz := name_size hnm
      have HST := Lib.hid (jn_step (xs := cs.map fun c => (colB c).data.toList) (k := k) (y := (colB c).data.toList) (by rw [List.getElem?_map, hc]; rfl))
      obtain ⟨nm, ty⟩ := c
      simp only at ht hsz x0 x1
      clear hc hnm
      have hbl : (k : Int) < (n : Int) := by omega
      rcases Nat.eq_zero_or_pos k with hk0 | hk0
      · have hk1 : ¬ 0 < (k : Int) := by omega
        have HJ : Hid (x.data.toList = [40]) := by show _ = _; rw [HX.out, hk0]; rfl
        have HK0 := Lib.hid hk0
        clear hk0
        rcases ht with rfl | rfl
        · go_wp2_with fail
          go_roundw
          case rel => exact ⟨k + 1, _, by omega, by go_num, rfl, by simp only [ByteArray.size_append, sz2, sz4, sz5]; omega, (by show _ = _; rw [HST.out, if_pos HK0.out]; simp [colB, wordB, wordL, HJ.out]), BW.out⟩
          case measure => simp [intOf]; omega
        · go_wp2_with fail
          go_roundw
          case rel => exact ⟨k + 1, _, by omega, by go_num, rfl, by simp only [ByteArray.size_append, sz2, sz4, sz5]; omega, (by show _ = _; rw [HST.out, if_pos HK0.out]; simp [colB, wordB, wordL, HJ.out]), BW.out⟩
          case measure => simp [intOf]; omega
      · have hk1 : 0 < (k : Int) := by omega
        have hk2 : k ≠ 0 := by omega
        rcases ht with rfl | rfl
        · go_wp2_with fail
          go_roundw
          case rel => exact ⟨k + 1, _, by omega, by go_num, rfl, by simp only [ByteArray.size_append, sz2, sz4, sz5]; omega, (by show _ = _; rw [HST.out, if_neg hk2]; simp [colB, wordB, wordL, HX.out]), BW.out⟩
          case measure => simp [intOf]; omega
        · go_wp2_with fail
          go_roundw
          case rel => exact ⟨k + 1, _, by omega, by go_num, rfl, by simp only [ByteArray.size_append, sz2, sz4, sz5]; omega, (by show _ = _; rw [HST.out, if_neg hk2]; simp [colB, wordB, wordL, HX.out]), BW.out⟩
          case measure => simp [intOf]; omega
    · have hkn : k = n := by omega
      subst hkn
      go_wp2_with fail
      go_ret
      refine ⟨ret_str ?_, BW.out⟩
      have h := HX.out
      unfold jn at h
      rw [List.take_of_length_le (by rw [List.length_map, HN.out]; exact Nat.le_refl _)] at h
      refine str_of ?_
      rw [add_data, h]; rfl
set_option maxHeartbeats 6400000 in
theorem refTab_is (sv v : Value) (cs : List Col) (rs : List (List Val)) (w : World) (he : errT cs rs = 0) (br : BdRs rs) (hs : ColsAt w sv cs) (hv : RowsAt w v rs) :
    Calls Tryz.prog 9 #[sv, v] w fun e w' => e = .returned (.string ⟨(showT cs rs).toArray⟩) ∧ Below w.heap.size w w' := by
  obtain ⟨hck, hfit, _, hl4⟩ := errT_zero he
  obtain ⟨_, _, h16⟩ := chk_ty hck
  have HSH := Lib.hid (refCols_is sv cs w hck hs)
  have hsc := showC_len hck
  obtain ⟨sao, scap, rfl, _, _⟩ := hs.len
  obtain ⟨ao, cap, rfl, hcap, _⟩ := hv.len
  obtain ⟨n, hn⟩ : ∃ n, rs.length = n := ⟨_, rfl⟩
  obtain ⟨S0, hS0⟩ : ∃ S : ByteArray, S = ⟨(showC cs).toArray⟩ := ⟨_, rfl⟩
  rw [← hS0] at HSH
  have hs0 : S0.data.toList = showC cs := by rw [hS0]
  rw [← hs0, ← size_list] at hsc
  have HS0 := Lib.hid hs0
  have HV := Lib.hid hv
  have HF := Lib.hid hfit
  have BR := Lib.hid br
  have HR16 : Hid (∀ r ∈ rs, r.length ≤ 16) := fun r hr => by rw [fitL_len (hfit r hr)]; exact h16
  rw [hn] at HV hl4 hcap ⊢
  have HN := Lib.hid hn
  clear hs hv hck hfit br hn he hS0 hs0 h16
  go_enter Tryz.func9, Tryz.ntmps9
  go_wp2_with (go_at_call 29; refine HSH.out.mono ?_; rintro e w1 ⟨rfl, hb1⟩)
  go_loopw [5, 6] (fun v i wr => ∃ (k : Nat) (x : ByteArray), k ≤ n ∧ i = .int .i64 k ∧ v = .string x ∧ x.size ≤ 2000 + 4000 * k ∧ Hid (x.data.toList = showC cs ++ [10] ++ rowsL (rs.take k)) ∧ Hid (Below w.heap.size w wr)) (fun v i _ => n - (intOf i).toNat)
  case atStart => exact ⟨0, _, Nat.zero_le _, rfl, rfl, by (try simp only [ByteArray.size_append, sz1]); omega, (by show _ = _; rw [add_data, HS0.out]; simp [rowsL]), hb1⟩
  case round =>
    obtain ⟨k, x, hk, rfl, rfl, hxs, HX, BW⟩ := hrel
    by_cases hlt : k < n
    · obtain ⟨r, hr⟩ : ∃ r, rs[k]? = some r := ⟨_, List.getElem?_eq_getElem (by rw [HN.out]; exact hlt)⟩
      obtain ⟨b, o, y, rfl, hb, hc, hy⟩ := RowsAt.row HV.out hr
      have hc0 := hc
      replace hc := (BW.out.cell (by exact hb)).trans hc
      have hm := List.mem_of_getElem? hr
      have hbd := BR.out.row r hm
      have hrt := fit_right (HF.out r hm)
      have h16 := HR16.out r hm
      have HSN : Hid (rowsL (rs.take (k + 1)) = rowsL (rs.take k) ++ (lineL r ++ [10])) := by
        show _ = _
        unfold rowsL
        rw [take_one rs k r hr, List.flatMap_append]; try simp
      have HY := Lib.hid hy
      obtain ⟨ro, rcap, rfl, hrcap, _⟩ := hy.len
      obtain ⟨m, hmm⟩ : ∃ m, r.length = m := ⟨_, rfl⟩
      rw [hmm] at hrcap h16 hc hc0 HY
      have HCW := Lib.hid hc0
      have HM := Lib.hid hmm
      have HBD := Lib.hid hbd
      have HRT := Lib.hid hrt
      have hbl : (k : Int) < (n : Int) := by omega
      clear hr hy hmm hbd hrt hm hc0
      go_wp2_with fail
      go_loopw [5, 7] (fun v i wr => ∃ (j : Nat) (z : ByteArray), j ≤ m ∧ i = .int .i64 j ∧ v = .string z ∧ z.size ≤ 2000 + 4000 * k + 202 * j ∧ Hid (z.data.toList = showC cs ++ [10] ++ rowsL (rs.take k) ++ jn (r.map fun x => (valB x).data.toList) j) ∧ Hid (Below w.heap.size w wr)) (fun v i _ => m - (intOf i).toNat)
      case atStart => exact ⟨0, x, Nat.zero_le _, rfl, rfl, by omega, (by show _ = _; rw [HX.out]; simp [jn, Lib.join]), BW.out⟩
      case round =>
        obtain ⟨j, z, hj, rfl, rfl, hzs, HZ, BW2⟩ := hrel
        have c9 := (BW2.out.cell (by exact hb)).trans HCW.out
        by_cases hjt : j < m
        · obtain ⟨x1, hx1⟩ : ∃ x1, r[j]? = some x1 := ⟨_, List.getElem?_eq_getElem (by rw [HM.out]; exact hjt)⟩
          obtain ⟨b2, o2, e2, hb2, y0, y1, y2⟩ := RowAt.val HY.out hx1
          subst e2
          replace y0 := (BW2.out.cell (by exact hb2)).trans y0
          replace y1 := (BW2.out.cell (by exact hb2)).trans y1
          replace y2 := (BW2.out.cell (by exact hb2)).trans y2
          have hm1 := List.mem_of_getElem? hx1
          have hrx := HRT.out x1 hm1
          have hnx := HBD.out.num x1 hm1
          have hvl := show_len x1 hnx
          have HSJ := Lib.hid (jn_step (xs := r.map fun x => (valB x).data.toList) (k := j) (y := (valB x1).data.toList) (by rw [List.getElem?_map, hx1]; rfl))
          obtain ⟨K, N, T⟩ := x1
          obtain ⟨V1, hV1⟩ : ∃ V : ByteArray, V = valB ⟨K, N, T⟩ := ⟨_, rfl⟩
          have HVS : Hid (∀ W : World, Calls Tryz.prog 30 #[.agg #[.int .i64 K, .int .i64 N, .string T]] W fun e w' => e = .returned (.string V1) ∧ Below W.heap.size W w') := fun W => by rw [hV1]; exact refShow_any K N T W hrx hnx.1 hnx.2
          rw [← hV1] at hvl HSJ
          rw [← size_list] at hvl
          simp only at y0 y1 y2
          clear hx1 hm1 hrx hnx hV1
          have hjl : (j : Int) < (m : Int) := by omega
          rcases Nat.eq_zero_or_pos j with hj0 | hj0
          · have hj1 : ¬ 0 < (j : Int) := by omega
            have HZ1 : Hid (z.data.toList = showC cs ++ [10] ++ rowsL (rs.take k)) := by show _ = _; rw [HZ.out, hj0]; simp [jn, Lib.join]
            have HJ0 := Lib.hid hj0
            clear hj0
            go_wp2_with (go_at_call 30; refine (HVS.out _).mono ?_; rintro e w5 ⟨rfl, hb5⟩)
            go_roundw
            case rel => exact ⟨j + 1, _, by omega, by go_num, rfl, by simp only [ByteArray.size_append, sz2]; omega, (by show _ = _; rw [add_data, HZ1.out, HSJ.out, if_pos HJ0.out]; simp), two BW2.out hb5⟩
            case measure => simp [intOf]; omega
          · have hj1 : 0 < (j : Int) := by omega
            have hj2 : j ≠ 0 := by omega
            go_wp2_with (go_at_call 30; refine (HVS.out _).mono ?_; rintro e w5 ⟨rfl, hb5⟩)
            go_roundw
            case rel => exact ⟨j + 1, _, by omega, by go_num, rfl, by simp only [ByteArray.size_append, sz2]; omega, (by show _ = _; rw [add_data, add_data, HZ.out, HSJ.out, if_neg hj2]; simp), two BW2.out hb5⟩
            case measure => simp [intOf]; omega
        · have hjm : j = m := by omega
          subst hjm
          go_wp2_with fail
          go_roundw
          case rel =>
            refine ⟨k + 1, _, by omega, by go_num, rfl, by simp only [ByteArray.size_append, sz1]; omega, ?_, BW2.out⟩
            show _ = _
            rw [add_data, HZ.out, HSN.out]
            unfold jn
            rw [List.take_of_length_le (l := r.map fun x => (valB x).data.toList) (by rw [List.length_map, HM.out]; exact Nat.le_refl _)]
            simp [lineL]
          case measure => simp [intOf]; omega
    · have hkn : k = n := by omega
      subst hkn
      go_wp2_with fail
      go_ret
      refine ⟨ret_str (str_of ?_), BW.out⟩
      rw [HX.out, ← HN.out, List.take_length]; rfl
end Go.Proofs.YtfmjeggomphliaaGreatDoor.Tb
