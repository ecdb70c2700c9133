/- The law SchemeWithin. -/
import Derived.Test.YtkapkfddbdgmoaaDoorSchIn
set_option linter.unusedVariables false
set_option linter.unusedSimpArgs false
namespace Go.Proofs.YtkapkfddbdgmoaaDoor.Wi
open Go.RowKit Go Go.Sort Ba Sc
open Cal hiding ret_int ret_bool lt_of_cell

set_option maxRecDepth 100000 in
set_option maxHeartbeats 6400000 in
theorem swithin_law (k f l a b : Int) (w : World) (b0 : -9223372036854775808 ≤ f) (b1 : l ≤ 9223372036854775807) (hE : EnvS w) :
    Calls Tryd.prog 8 #[.agg #[.int .i64 k, .int .i64 f, .int .i64 l], .int .i64 a, .int .i64 b] w fun e w' => e = .returned (.bool true) ∧ Below w.heap.size w w' := by
  have HE := Lib.hid hE
  have HLN := Lib.hid hE.len
  have bw : Below w.heap.size w (w.alloc (.cells #[.int .i64 k, .int .i64 f, .int .i64 l] 23)) := by go_grown
  have V := Box.new w [.int .i64 k, .int .i64 f, .int .i64 l] 23
  clear hE
  cases hr : rightS k f l
  · have HR := Lib.hid hr
    clear hr
    go_enter Tryd.func8, Tryd.ntmps8
    go_wp2_with fail
    refine (ref_is k f l _).mono ?_
    rintro e w1 ⟨rfl, hb⟩
    have bw := two bw hb
    clear hb
    go_wp2_with fail
    refine (refRight_is k f l false _ b0 b1 HR.out).mono ?_
    rintro e w2 ⟨rfl, hb⟩
    have bw := two bw hb
    clear hb
    go_wp2_with fail
    refine (awake_any _ (HE.out.below bw)).mono ?_
    rintro e w9 ⟨rfl, hb9⟩
    go_wp2_with fail
    go_ret
    exact ⟨rfl, two bw hb9⟩
  obtain ⟨k1, k5, f0, fl, lf, lst, lfar, lend⟩ := rs_iff hr
  have HR := Lib.hid hr
  obtain ⟨m, hm⟩ : ∃ m : Nat, (l - f + 1).toNat = m := ⟨_, rfl⟩
  have m0 : 0 < m := by omega
  have m1 : f + (m : Int) ≤ 2147483648 := by omega
  have m2 : f + (m : Int) ≤ l + 1 := by omega
  have hP := fun W => parts_is k f l W f0 fl lf (by omega)
  rw [hm] at hP
  have HP := Lib.hid hP
  obtain ⟨p, hp⟩ : ∃ p : Int → Bool, p = inB k a b := ⟨_, rfl⟩
  have HPX : Hid (∀ x, inB k a b x = p x) := fun x => by rw [hp]
  obtain ⟨L, hLL⟩ : ∃ L, inL k f l a b = L := ⟨_, rfl⟩
  have HLF : Hid ((partsL f m).filter p = L) := by
    show (partsL f m).filter p = L
    rw [← hLL, hp, ← hm]; rfl
  have hC := fun W h => within_is k f l a b W h hr
  rw [hLL] at hC
  have HC := Lib.hid hC
  clear hr lst lend hm hP hp hLL hC
  go_enter Tryd.func8, Tryd.ntmps8
  go_wp2_with fail
  refine (ref_is k f l _).mono ?_
  rintro e w1 ⟨rfl, hb⟩
  have bw := two bw hb
  have V := V.next hb
  clear hb
  go_wp2_with fail
  refine (refRight_is k f l true _ b0 b1 HR.out).mono ?_
  rintro e w2 ⟨rfl, hb⟩
  have bw := two bw hb
  have V := V.next hb
  clear hb
  obtain ⟨x0, x1, x2, _, _, _⟩ := V.three
  go_wp2_with fail
  refine (HC.out _ (Len.below HLN.out bw)).mono ?_
  rintro e w3 ⟨hd, cap, rfl, hcell, hb⟩
  have bw := two bw hb
  have V := V.next hb
  have HCELL := Lib.hid hcell
  obtain ⟨N, hN⟩ : ∃ N, L.length = N := ⟨_, rfl⟩
  rw [hN]
  have HN := Lib.hid hN
  clear hb hcell hN x0 x1 x2
  obtain ⟨x0, x1, x2, _, _, _⟩ := V.three
  go_wp2_with fail
  refine (HP.out _).mono ?_
  rintro e w4 ⟨v, rfl, hown, hb⟩
  have b3 : Below w3.heap.size w3 w4 := hb
  have bw := two bw hb
  have V := V.next hb
  clear hb
  rw [parts_len] at hown
  obtain ⟨g, cap2, hv, hg1, hg2, hcl⟩ := ints_shape hown (parts_len f m).symm m0
  rw [hv]
  have HCL := Lib.hid hcl
  clear hv hown hcl x0 x1 x2
  have B3 := Lib.hid b3
  have BW := Lib.hid bw
  have HV := Lib.hid V
  clear b3 bw V
  go_wp2_with fail
  go_loopw [8, 26] (fun c t wr => ∃ s : Nat, s ≤ m ∧ c = .int .i64 ((((partsL f s).filter p).length : Nat) : Int) ∧ t = .int .i64 s ∧ Hid (Box wr w.heap.size [.int .i64 k, .int .i64 f, .int .i64 l]) ∧ Hid (Below w4.heap.size w4 wr))
    (fun _ t _ => m - (intOf t).toNat)
  case atStart => exact ⟨0, Nat.zero_le _, by simp [partsL_zero], rfl, HV, Below.refl _ _⟩
  case round =>
    obtain ⟨s, hs, rfl, rfl, V, B4⟩ := hrel
    obtain ⟨c, hc⟩ : ∃ c, ((partsL f s).filter p).length = c := ⟨_, rfl⟩
    have cs : c ≤ s := by rw [← hc]; exact filt_le
    rw [hc]
    have HCc := Lib.hid hc
    clear hc
    have V := V.out
    obtain ⟨x0, x1, x2, _, _, _⟩ := V.three
    by_cases hlt : s < m
    · have xc := (B4.out.cell hg1).trans (HCL.out s _ (parts_at f m s hlt))
      by_cases h5 : k = 5
      · have HWV : Hid (WinV k f l (f + s) 0 0 54) := .inr (.inl ⟨⟨by omega, by omega⟩, h5, rfl, rfl, rfl⟩)
        have H5 := Lib.hid h5
        clear h5
        have HF : Hid (p (f + s) = false) := (HPX.out _).symm.trans (decide_eq_false (fun h => h.1 H5.out))
        go_wp2_with fail
        refine (window_is k f l (f + s) 0 0 54 _ (Len.below HLN.out (two BW.out B4.out)) f0 lfar HWV.out).mono ?_
        rintro e w7 ⟨rfl, hb⟩
        have B4b : Hid (Below w4.heap.size w4 w7) := two B4.out hb
        have V : Hid (Box w7 w.heap.size [.int .i64 k, .int .i64 f, .int .i64 l]) := V.next hb
        clear hb x0 x1 x2 xc
        go_wp2_with fail
        go_roundw
        case rel => exact ⟨s + 1, by omega, by rw [filt_len_f HF.out, HCc.out], by go_num, V, B4b⟩
        case measure => simp [intOf]; omega
      · obtain ⟨A, hA⟩ : ∃ A, startV k (f + s) = A := ⟨_, rfl⟩
        obtain ⟨B, hB⟩ : ∃ A, startV k (f + s + 1) = A := ⟨_, rfl⟩
        have HWV : Hid (WinV k f l (f + s) A B 0) := .inr (.inr ⟨⟨by omega, by omega⟩, h5, hA, hB, rfl⟩)
        have H5 := Lib.hid h5
        have HA := Lib.hid hA
        have HB := Lib.hid hB
        clear h5 hA hB
        by_cases c1 : a ≤ A
        · by_cases c2 : B ≤ b
          · have HT : Hid (p (f + s) = true) := (HPX.out _).symm.trans (decide_eq_true ⟨H5.out, by rw [HA.out]; exact c1, by rw [HB.out]; exact c2⟩)
            have hat := filt_at HLF.out hlt HT.out
            rw [HCc.out] at hat
            have cN : c < N := by rw [← HN.out]; exact (List.getElem?_eq_some_iff.1 hat).1
            have e1 : decide ((N : Int) ≤ (c : Int)) = false := decide_eq_false (by omega)
            obtain ⟨g2, rfl, hg3, hc2⟩ := HCELL.out _ _ hat
            have HC2 := Lib.hid hc2
            clear hat hc2
            go_wp2_with fail
            refine (window_is k f l (f + s) A B 0 _ (Len.below HLN.out (two BW.out B4.out)) f0 lfar HWV.out).mono ?_
            rintro e w7 ⟨rfl, hb⟩
            have B4b : Hid (Below w4.heap.size w4 w7) := two B4.out hb
            have V : Hid (Box w7 w.heap.size [.int .i64 k, .int .i64 f, .int .i64 l]) := V.next hb
            have z0 := (B4b.out.cell (Nat.lt_of_lt_of_le hg3 B3.out.size)).trans ((B3.out.cell hg3).trans HC2.out)
            clear hb x0 x1 x2 xc
            go_wp2_with fail
            go_roundw
            case rel => exact ⟨s + 1, by omega, by rw [filt_len_t HT.out, HCc.out]; go_num, by go_num, V, B4b⟩
            case measure => simp [intOf]; omega
          · have d2 : decide (B ≤ b) = false := decide_eq_false c2
            have HF : Hid (p (f + s) = false) := (HPX.out _).symm.trans (decide_eq_false (fun h => c2 (by rw [← HB.out]; exact h.2.2)))
            go_wp2_with fail
            refine (window_is k f l (f + s) A B 0 _ (Len.below HLN.out (two BW.out B4.out)) f0 lfar HWV.out).mono ?_
            rintro e w7 ⟨rfl, hb⟩
            have B4b : Hid (Below w4.heap.size w4 w7) := two B4.out hb
            have V : Hid (Box w7 w.heap.size [.int .i64 k, .int .i64 f, .int .i64 l]) := V.next hb
            clear hb x0 x1 x2 xc
            go_wp2_with fail
            go_roundw
            case rel => exact ⟨s + 1, by omega, by rw [filt_len_f HF.out, HCc.out], by go_num, V, B4b⟩
            case measure => simp [intOf]; omega
        · have d1 : decide (a ≤ A) = false := decide_eq_false c1
          have HF : Hid (p (f + s) = false) := (HPX.out _).symm.trans (decide_eq_false (fun h => c1 (by rw [← HA.out]; exact h.2.1)))
          go_wp2_with fail
          refine (window_is k f l (f + s) A B 0 _ (Len.below HLN.out (two BW.out B4.out)) f0 lfar HWV.out).mono ?_
          rintro e w7 ⟨rfl, hb⟩
          have B4b : Hid (Below w4.heap.size w4 w7) := two B4.out hb
          have V : Hid (Box w7 w.heap.size [.int .i64 k, .int .i64 f, .int .i64 l]) := V.next hb
          clear hb x0 x1 x2 xc
          go_wp2_with fail
          go_roundw
          case rel => exact ⟨s + 1, by omega, by rw [filt_len_f HF.out, HCc.out], by go_num, V, B4b⟩
          case measure => simp [intOf]; omega
    · have hsm : s = m := by omega
      have hcN : c = N := by rw [← HN.out, ← HLF.out, ← hsm]; exact HCc.out.symm
      subst hcN
      clear hsm
      go_wp2_with fail
      refine (awake_any _ (HE.out.below (two BW.out B4.out))).mono ?_
      rintro e w9 ⟨rfl, hb9⟩
      clear x0 x1 x2
      go_wp2_with fail
      go_ret
      exact ⟨rfl, two (two BW.out B4.out) hb9⟩
end Go.Proofs.YtkapkfddbdgmoaaDoor.Wi
