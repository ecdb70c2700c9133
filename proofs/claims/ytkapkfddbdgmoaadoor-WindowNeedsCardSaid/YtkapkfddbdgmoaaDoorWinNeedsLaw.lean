/- The law WindowNeeds. -/
import Derived.Test.YtkapkfddbdgmoaaDoorWinOf
set_option linter.unusedVariables false
set_option linter.unusedSimpArgs false
namespace Go.Proofs.YtkapkfddbdgmoaaDoor.Wi
open Go.RowKit Go Go.Sort Ba Sc
open Cal hiding ret_int ret_bool lt_of_cell

set_option maxRecDepth 100000 in
set_option maxHeartbeats 3200000 in
theorem wneeds_law (k n lk lf ll uk uf ul i : Int) (w : World) (a0 : -9223372036854775808 ≤ lf) (a1 : ll ≤ 9223372036854775807) (c0 : -9223372036854775808 ≤ uf) (c1 : ul ≤ 9223372036854775807) (hE : EnvW w) (hL : Len w) :
    Calls Tryd.prog 9 #[.agg #[.int .i64 k, .int .i64 n, .int .i64 lk, .int .i64 lf, .int .i64 ll, .int .i64 uk, .int .i64 uf, .int .i64 ul], .int .i64 i] w fun e w' => e = .returned (.bool true) ∧ Below w.heap.size w w' := by
  have HE := Lib.hid hE
  have HLN := Lib.hid hL
  have bw : Below w.heap.size w (w.alloc (.cells #[.int .i64 k, .int .i64 n, .int .i64 lk, .int .i64 lf, .int .i64 ll, .int .i64 uk, .int .i64 uf, .int .i64 ul] 51)) := by go_grown
  have Q := Box.new w [.int .i64 k, .int .i64 n, .int .i64 lk, .int .i64 lf, .int .i64 ll, .int .i64 uk, .int .i64 uf, .int .i64 ul] 51
  obtain ⟨q, hq⟩ : ∃ q, fitsV k n lk lf ll uk uf ul = q := ⟨_, rfl⟩
  have hF := fun W => fits_is k n lk lf ll uk uf ul W a0 a1 c0 c1
  rw [hq] at hF
  have HF := Lib.hid hF
  clear hF hE hL
  obtain ⟨q0, q1, q2, q3, q4, q5, q6, q7⟩ := Box.eight Q
  by_cases h0 : q = 0
  rotate_left
  · have e0 : (q != 0) = true := by simpa using h0
    clear h0 hq
    go_enter Tryd.func9, Tryd.ntmps9
    go_wp2_with fail
    refine (HF.out _).mono ?_
    rintro e w1 ⟨rfl, hb⟩
    have bw := two bw hb
    clear hb
    go_wp2_with fail
    refine (wawake_any _ (HE.out.below bw)).mono ?_
    rintro e w9 ⟨rfl, hb9⟩
    go_wp2_with fail
    go_ret
    exact ⟨rfl, two bw hb9⟩
  subst h0
  obtain ⟨hf, hl, hu, hfit⟩ := fits_zero hq
  obtain ⟨k1, k5⟩ := form_k hf
  obtain ⟨_, _, _, n0, n1⟩ := form_rng hf
  obtain ⟨lk1, lk5, lf0, lfl, llf, _, lfar, _⟩ := rs_iff hl
  obtain ⟨uk1, uk5, uf0, ufl, ulf, _, ufar, _⟩ := rs_iff hu
  obtain ⟨m, hm⟩ : ∃ m : Nat, (ul - uf + 1).toNat = m := ⟨_, rfl⟩
  have m0 : 0 < m := by omega
  have m1 : uf + (m : Int) ≤ 2147483648 := by omega
  have hP := fun W => parts_is uk uf ul W uf0 ufl ulf (by omega)
  rw [hm] at hP
  have HP := Lib.hid hP
  obtain ⟨p, hp⟩ : ∃ p : Int → Bool, p = fun x => needsB k n lk lf ll uk uf ul i x := ⟨_, rfl⟩
  have HPX : Hid (∀ x, needsB k n lk lf ll uk uf ul i x = p x) := fun x => by rw [hp]
  obtain ⟨L, hLL⟩ : ∃ L, ofL k n lk lf ll uk uf ul i = L := ⟨_, rfl⟩
  have HLF : Hid ((partsL uf m).filter p = L) := by
    show (partsL uf m).filter p = L
    rw [← hLL, hp, ← hm]; rfl
  have hC := fun W h => of_is k n lk lf ll uk uf ul i W h hf hl hu hfit
  rw [hLL] at hC
  have HC := Lib.hid hC
  clear hq hf hl hu hfit hm hP hp hLL hC
  go_enter Tryd.func9, Tryd.ntmps9
  go_wp2_with fail
  refine (HF.out _).mono ?_
  rintro e w1 ⟨rfl, hb⟩
  have bw := two bw hb
  have Q := Q.next hb
  clear hb
  clear q0 q1 q2 q3 q4 q5 q6 q7
  obtain ⟨q0, q1, q2, q3, q4, q5, q6, q7⟩ := Box.eight Q
  go_wp2_with fail
  refine (far_any k n lk lf ll uk uf ul _).mono ?_
  rintro e w2 ⟨r, rfl, hb⟩
  have bw := two bw hb
  have Q := Q.next hb
  clear hb
  clear q0 q1 q2 q3 q4 q5 q6 q7
  obtain ⟨q0, q1, q2, q3, q4, q5, q6, q7⟩ := Box.eight Q
  cases r
  rotate_left
  · go_wp2_with fail
    refine (wawake_any _ (HE.out.below bw)).mono ?_
    rintro e w9 ⟨rfl, hb9⟩
    clear q0 q1 q2 q3 q4 q5 q6 q7
    go_wp2_with fail
    go_ret
    exact ⟨rfl, two bw hb9⟩
  go_wp2_with fail
  refine (HC.out _ (Len.below HLN.out bw)).mono ?_
  rintro e w3 ⟨hd, cap, rfl, hcell, hb⟩
  have bw := two bw hb
  have Q := Q.next hb
  have HCELL := Lib.hid hcell
  obtain ⟨N, hN⟩ : ∃ N, L.length = N := ⟨_, rfl⟩
  rw [hN]
  have HN := Lib.hid hN
  clear hb hcell hN
  clear q0 q1 q2 q3 q4 q5 q6 q7
  obtain ⟨q0, q1, q2, q3, q4, q5, q6, q7⟩ := Box.eight Q
  go_wp2_with fail
  refine (HP.out _).mono ?_
  rintro e w4 ⟨v, rfl, hown, hb⟩
  have b3 : Below w3.heap.size w3 w4 := hb
  have bw := two bw hb
  have Q := Q.next hb
  clear hb
  rw [parts_len] at hown
  obtain ⟨g, cap2, hv, hg1, hg2, hcl⟩ := ints_shape hown (parts_len uf m).symm m0
  rw [hv]
  have HCL := Lib.hid hcl
  clear hv hown hcl
  clear q0 q1 q2 q3 q4 q5 q6 q7
  have B3 := Lib.hid b3
  have BW := Lib.hid bw
  have HQ := Lib.hid Q
  clear b3 bw Q
  go_wp2_with fail
  go_loopw [6, 29] (fun c t wr => ∃ s : Nat, s ≤ m ∧ c = .int .i64 ((((partsL uf s).filter p).length : Nat) : Int) ∧ t = .int .i64 s ∧ Hid (Box wr w.heap.size [.int .i64 k, .int .i64 n, .int .i64 lk, .int .i64 lf, .int .i64 ll, .int .i64 uk, .int .i64 uf, .int .i64 ul]) ∧ Hid (Below w4.heap.size w4 wr))
    (fun _ t _ => m - (intOf t).toNat)
  case atStart => exact ⟨0, Nat.zero_le _, by simp [partsL_zero], rfl, HQ, Below.refl _ _⟩
  case round =>
    obtain ⟨s, hs, rfl, rfl, Q, B4⟩ := hrel
    obtain ⟨c, hc⟩ : ∃ c, ((partsL uf s).filter p).length = c := ⟨_, rfl⟩
    have cs : c ≤ s := by rw [← hc]; exact filt_le
    rw [hc]
    have HCc := Lib.hid hc
    clear hc
    have Q := Q.out
    obtain ⟨q0, q1, q2, q3, q4, q5, q6, q7⟩ := Box.eight Q
    by_cases hlt : s < m
    · have x0 := (B4.out.cell hg1).trans (HCL.out s _ (parts_at uf m s hlt))
      cases hr : p (uf + s)
      · have HRR := Lib.hid hr
        clear hr
        go_wp2_with fail
        refine (needs_is k n lk lf ll uk uf ul i (uf + s) false _ k1 k5 n0 n1 lf0 lfar uf0 ufar ((HPX.out _).trans HRR.out)).mono ?_
        rintro e w7 ⟨rfl, hb⟩
        have B4 : Hid (Below w4.heap.size w4 w7) := two B4.out hb
        have Q : Hid (Box w7 w.heap.size [.int .i64 k, .int .i64 n, .int .i64 lk, .int .i64 lf, .int .i64 ll, .int .i64 uk, .int .i64 uf, .int .i64 ul]) := Q.next hb
        clear hb x0
        clear q0 q1 q2 q3 q4 q5 q6 q7
        go_wp2_with fail
        go_roundw
        case rel => exact ⟨s + 1, by omega, by rw [filt_len_f HRR.out, HCc.out], by go_num, Q, B4⟩
        case measure => simp [intOf]; omega
      · have HRR := Lib.hid hr
        have hat := filt_at HLF.out hlt hr
        rw [HCc.out] at hat
        have cN : c < N := by rw [← HN.out]; exact (List.getElem?_eq_some_iff.1 hat).1
        have e1 : decide ((N : Int) ≤ (c : Int)) = false := decide_eq_false (by omega)
        obtain ⟨g2, rfl, hg3, hc2⟩ := HCELL.out _ _ hat
        clear hr hat
        go_wp2_with fail
        refine (needs_is k n lk lf ll uk uf ul i (uf + s) true _ k1 k5 n0 n1 lf0 lfar uf0 ufar ((HPX.out _).trans HRR.out)).mono ?_
        rintro e w7 ⟨rfl, hb⟩
        have B4 : Hid (Below w4.heap.size w4 w7) := two B4.out hb
        have Q : Hid (Box w7 w.heap.size [.int .i64 k, .int .i64 n, .int .i64 lk, .int .i64 lf, .int .i64 ll, .int .i64 uk, .int .i64 uf, .int .i64 ul]) := Q.next hb
        have z0 := (B4.out.cell (Nat.lt_of_lt_of_le hg3 B3.out.size)).trans ((B3.out.cell hg3).trans hc2)
        clear hb x0 hc2
        clear q0 q1 q2 q3 q4 q5 q6 q7
        go_wp2_with fail
        go_roundw
        case rel => exact ⟨s + 1, by omega, by rw [filt_len_t HRR.out, HCc.out]; go_num, by go_num, Q, B4⟩
        case measure => simp [intOf]; omega
    · have hsm : s = m := by omega
      have hcN : c = N := by rw [← HN.out, ← HLF.out, ← hsm]; exact HCc.out.symm
      subst hcN
      have HSM := Lib.hid hsm
      clear hsm
      go_wp2_with fail
      refine (wawake_any _ (HE.out.below (two BW.out B4.out))).mono ?_
      rintro e w9 ⟨rfl, hb9⟩
      clear q0 q1 q2 q3 q4 q5 q6 q7
      go_wp2_with fail
      go_ret
      exact ⟨rfl, two (two BW.out B4.out) hb9⟩
end Go.Proofs.YtkapkfddbdgmoaaDoor.Wi
