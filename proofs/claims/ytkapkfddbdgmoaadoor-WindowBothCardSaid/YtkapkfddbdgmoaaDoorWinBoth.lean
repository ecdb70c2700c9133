/- The law WindowBoth. -/
import Derived.Test.YtkapkfddbdgmoaaDoorWinOf
set_option linter.unusedVariables false
set_option linter.unusedSimpArgs false
namespace Go.Proofs.YtkapkfddbdgmoaaDoor.Wi
open Go.RowKit Go Go.Sort Ba Sc
open Cal hiding ret_int ret_bool lt_of_cell

theorem nb_rng {k n lk lf ll uk uf ul i j : Int} (h : needsB k n lk lf ll uk uf ul i j = true) : lf ≤ i ∧ i ≤ ll ∧ uf ≤ j ∧ j ≤ ul := Classical.byContradiction fun hn => by
  rw [nb_out hn] at h; cases h
theorem parts_mem {f l x : Int} (h1 : f ≤ x) (h2 : x ≤ l) : x ∈ partsL f (l - f + 1).toNat := by
  have := parts_at f (l - f + 1).toNat (x - f).toNat (by omega)
  rw [show f + (((x - f).toNat : Nat) : Int) = x by omega] at this
  exact List.mem_of_getElem? this
theorem mem_ofL {k n lk lf ll uk uf ul i j : Int} : j ∈ ofL k n lk lf ll uk uf ul i ↔ needsB k n lk lf ll uk uf ul i j = true := by
  unfold ofL
  rw [List.mem_filter]
  exact ⟨fun h => h.2, fun h => ⟨parts_mem (nb_rng h).2.2.1 (nb_rng h).2.2.2, h⟩⟩
theorem mem_backL {k n lk lf ll uk uf ul i j : Int} : i ∈ backL k n lk lf ll uk uf ul j ↔ needsB k n lk lf ll uk uf ul i j = true := by
  unfold backL
  rw [List.mem_filter]
  exact ⟨fun h => h.2, fun h => ⟨parts_mem (nb_rng h).1 (nb_rng h).2.1, h⟩⟩
/-- Is it among the first so many? -/
def Seen (L : List Int) (y : Int) (s : Nat) (d : Bool) : Prop := d = true ↔ ∃ t : Nat, t < s ∧ L[t]? = some y
theorem seen_zero (L : List Int) (y : Int) : Seen L y 0 false := ⟨fun h => (by cases h), fun ⟨t, h, _⟩ => absurd h (Nat.not_lt_zero _)⟩
theorem seen_eq {L : List Int} {x y : Int} {s : Nat} (hx : L[s]? = some x) (h : x = y) : Seen L y (s + 1) true := ⟨fun _ => ⟨s, Nat.lt_succ_self _, by rw [hx, h]⟩, fun _ => rfl⟩
theorem seen_old {L : List Int} {y : Int} {s : Nat} (h : Seen L y s true) : Seen L y (s + 1) true := ⟨fun _ => (h.1 rfl).elim fun t ht => ⟨t, by omega, ht.2⟩, fun _ => rfl⟩
theorem seen_ne {L : List Int} {x y : Int} {s : Nat} (h : Seen L y s false) (hx : L[s]? = some x) (hne : x ≠ y) : Seen L y (s + 1) false := ⟨fun h => (by cases h), fun ⟨t, h1, h2⟩ => by
  by_cases ht : t < s
  · exact h.2 ⟨t, ht, h2⟩
  · obtain rfl : t = s := by omega
    rw [hx] at h2
    exact absurd (Option.some.inj h2) hne⟩
theorem seen_all {L : List Int} {y : Int} {s : Nat} {d : Bool} (h : Seen L y s d) (hs : L.length = s) : d = true ↔ y ∈ L := by
  refine Iff.trans h ?_
  rw [List.mem_iff_getElem?]
  exact ⟨fun ⟨t, h1, h2⟩ => ⟨t, h2⟩, fun ⟨t, h2⟩ => ⟨t, by rw [← hs]; exact (List.getElem?_eq_some_iff.1 h2).1, h2⟩⟩

set_option maxRecDepth 100000 in
set_option maxHeartbeats 6400000 in
theorem wboth_law (k n lk lf ll uk uf ul i j : Int) (w : World) (a0 : -9223372036854775808 ≤ lf) (a1 : ll ≤ 9223372036854775807) (c0 : -9223372036854775808 ≤ uf) (c1 : ul ≤ 9223372036854775807) (hE : EnvW w) (hL : Len w) :
    Calls Tryd.prog 12 #[.agg #[.int .i64 k, .int .i64 n, .int .i64 lk, .int .i64 lf, .int .i64 ll, .int .i64 uk, .int .i64 uf, .int .i64 ul], .int .i64 i, .int .i64 j] w fun e w' => e = .returned (.bool true) ∧ Below w.heap.size w w' := by
  have HE := Lib.hid hE
  have HLN := Lib.hid hL
  have bw : Below w.heap.size w (w.alloc (.cells #[.int .i64 k, .int .i64 n, .int .i64 lk, .int .i64 lf, .int .i64 ll, .int .i64 uk, .int .i64 uf, .int .i64 ul] 51)) := by go_grown
  have Q := Box.new w [.int .i64 k, .int .i64 n, .int .i64 lk, .int .i64 lf, .int .i64 ll, .int .i64 uk, .int .i64 uf, .int .i64 ul] 51
  obtain ⟨q, hq⟩ : ∃ q, fitsV k n lk lf ll uk uf ul = q := ⟨_, rfl⟩
  have hF := fun W => fits_is k n lk lf ll uk uf ul W a0 a1 c0 c1
  rw [hq] at hF
  have HF := Lib.hid hF
  clear hF hE hL
  obtain ⟨q0, q1, q2, q3, q4, q5, q6, q7⟩ := Box.eight Q
  by_cases h0 : q = 0
  rotate_left
  · have e0 : (q != 0) = true := by simpa using h0
    clear h0 hq
    go_enter Tryd.func12, Tryd.ntmps12
    go_wp2_with fail
    refine (HF.out _).mono ?_
    rintro e w1 ⟨rfl, hb⟩
    have bw := two bw hb
    clear hb
    go_wp2_with fail
    refine (wawake_any _ (HE.out.below bw)).mono ?_
    rintro e w9 ⟨rfl, hb9⟩
    go_wp2_with fail
    go_ret
    exact ⟨rfl, two bw hb9⟩
  subst h0
  obtain ⟨hf, hl, hu, hfit⟩ := fits_zero hq
  obtain ⟨r, hr⟩ : ∃ r, needsB k n lk lf ll uk uf ul i j = r := ⟨_, rfl⟩
  obtain ⟨L, hLL⟩ : ∃ L, ofL k n lk lf ll uk uf ul i = L := ⟨_, rfl⟩
  have hC := fun W h => of_is k n lk lf ll uk uf ul i W h hf hl hu hfit
  have hm1 : ∀ x, x ∈ L ↔ needsB k n lk lf ll uk uf ul i x = true := fun x => by rw [← hLL]; exact mem_ofL
  obtain ⟨_, _, _, _, llf, _, _, _⟩ := rs_iff hl
  obtain ⟨_, _, _, _, ulf, _, _, _⟩ := rs_iff hu
  have l512 : L.length ≤ 512 := by rw [← hLL]; unfold ofL; exact Nat.le_trans (List.length_filter_le _ _) (by rw [parts_len]; omega)
  have L512 := Lib.hid l512
  clear l512
  rw [hLL] at hC
  obtain ⟨L2, hLL2⟩ : ∃ L, backL k n lk lf ll uk uf ul j = L := ⟨_, rfl⟩
  have hC2 := fun W h => back_is k n lk lf ll uk uf ul j W h hf hl hu hfit
  have hm2 : ∀ x, x ∈ L2 ↔ needsB k n lk lf ll uk uf ul x j = true := fun x => by rw [← hLL2]; exact mem_backL
  have l512 : L2.length ≤ 512 := by rw [← hLL2]; unfold backL; exact Nat.le_trans (List.length_filter_le _ _) (by rw [parts_len]; omega)
  have M512 := Lib.hid l512
  clear l512
  rw [hLL2] at hC2
  have HC := Lib.hid hC
  have HC2 := Lib.hid hC2
  have HM1 := Lib.hid hm1
  have HM2 := Lib.hid hm2
  have HRN := Lib.hid hr
  clear hq hf hl hu hfit hr hLL hLL2 hC hC2 hm1 hm2
  go_enter Tryd.func12, Tryd.ntmps12
  go_wp2_with fail
  refine (HF.out _).mono ?_
  rintro e w1 ⟨rfl, hb⟩
  have bw := two bw hb
  have Q := Q.next hb
  clear hb
  clear q0 q1 q2 q3 q4 q5 q6 q7
  obtain ⟨q0, q1, q2, q3, q4, q5, q6, q7⟩ := Box.eight Q
  go_wp2_with fail
  refine (HC.out _ (Len.below HLN.out bw)).mono ?_
  rintro e w3 ⟨hd, cap, rfl, hcell, hb⟩
  have bw := two bw hb
  have Q := Q.next hb
  have HCELL := Lib.hid hcell
  obtain ⟨N, hN⟩ : ∃ N, L.length = N := ⟨_, rfl⟩
  rw [hN]
  have hNb : N ≤ 512 := by rw [← hN]; exact L512.out
  have HN := Lib.hid hN
  have BW := Lib.hid bw
  have HQ := Lib.hid Q
  clear hb hcell hN bw Q
  clear q0 q1 q2 q3 q4 q5 q6 q7
  go_wp2_with fail
  go_loopw [7, 26] (fun c t wr => ∃ (s : Nat) (d : Bool), s ≤ N ∧ c = .bool d ∧ t = .int .i64 s ∧ Hid (Seen L j s d) ∧ Hid (Box wr w.heap.size [.int .i64 k, .int .i64 n, .int .i64 lk, .int .i64 lf, .int .i64 ll, .int .i64 uk, .int .i64 uf, .int .i64 ul]) ∧ Hid (Below w3.heap.size w3 wr))
    (fun _ t _ => N - (intOf t).toNat)
  case atStart => exact ⟨0, false, Nat.zero_le _, rfl, rfl, seen_zero _ _, HQ, Below.refl _ _⟩
  case round =>
    obtain ⟨s, d, hs, rfl, rfl, SN, Q, B4⟩ := hrel
    have Q := Q.out
    obtain ⟨q0, q1, q2, q3, q4, q5, q6, q7⟩ := Box.eight Q
    by_cases hlt : s < N
    · obtain ⟨x, hx⟩ : ∃ x, L[s]? = some x := ⟨_, List.getElem?_eq_getElem (by rw [HN.out]; exact hlt)⟩
      have hrg := nb_rng ((HM1.out x).1 (List.mem_of_getElem? hx))
      have HH : Hid (decide (uf ≤ x ∧ x ≤ ul) = true) := decide_eq_true ⟨hrg.2.2.1, hrg.2.2.2⟩
      obtain ⟨g, rfl, hg, hc2⟩ := HCELL.out s x hx
      have z0 := (B4.out.cell hg).trans hc2
      have HX := Lib.hid hx
      clear hx hrg hc2
      cases d
      · by_cases hxj : x = j
        · have ex : (x == j) = true := by simpa using hxj
          have HXJ := Lib.hid hxj
          clear hxj
          go_wp2_with fail
          refine (has_is uk uf ul x true _ HH.out).mono ?_
          rintro e w7 ⟨rfl, hb⟩
          have Bb : Hid (Below w3.heap.size w3 w7) := two B4.out hb
          have Qb : Hid (Box w7 w.heap.size [.int .i64 k, .int .i64 n, .int .i64 lk, .int .i64 lf, .int .i64 ll, .int .i64 uk, .int .i64 uf, .int .i64 ul]) := Q.next hb
          clear hb z0 Q
          clear q0 q1 q2 q3 q4 q5 q6 q7
          go_wp2_with fail
          go_roundw
          case rel => exact ⟨s + 1, true, by omega, rfl, by go_num, seen_eq HX.out HXJ.out, Qb, Bb⟩
          case measure => simp [intOf]; omega
        · have ex : (x == j) = false := by simpa using hxj
          have HXJ := Lib.hid hxj
          clear hxj
          go_wp2_with fail
          refine (has_is uk uf ul x true _ HH.out).mono ?_
          rintro e w7 ⟨rfl, hb⟩
          have Bb : Hid (Below w3.heap.size w3 w7) := two B4.out hb
          have Qb : Hid (Box w7 w.heap.size [.int .i64 k, .int .i64 n, .int .i64 lk, .int .i64 lf, .int .i64 ll, .int .i64 uk, .int .i64 uf, .int .i64 ul]) := Q.next hb
          clear hb z0 Q
          clear q0 q1 q2 q3 q4 q5 q6 q7
          go_wp2_with fail
          go_roundw
          case rel => exact ⟨s + 1, false, by omega, rfl, by go_num, seen_ne SN.out HX.out HXJ.out, Qb, Bb⟩
          case measure => simp [intOf]; omega
      · go_wp2_with fail
        refine (has_is uk uf ul x true _ HH.out).mono ?_
        rintro e w7 ⟨rfl, hb⟩
        have Bb : Hid (Below w3.heap.size w3 w7) := two B4.out hb
        have Qb : Hid (Box w7 w.heap.size [.int .i64 k, .int .i64 n, .int .i64 lk, .int .i64 lf, .int .i64 ll, .int .i64 uk, .int .i64 uf, .int .i64 ul]) := Q.next hb
        clear hb z0 Q
        clear q0 q1 q2 q3 q4 q5 q6 q7
        go_wp2_with fail
        go_roundw
        case rel => exact ⟨s + 1, true, by omega, rfl, by go_num, seen_old SN.out, Qb, Bb⟩
        case measure => simp [intOf]; omega
    · have hsn : s = N := by omega
      have HD : Hid (d = r) := by
        show d = r
        have h1 := seen_all SN.out (HN.out.trans hsn.symm)
        rw [Bool.eq_iff_iff, h1, HM1.out j, HRN.out]
      obtain rfl : d = r := HD.out
      clear hsn hs
      go_wp2_with fail
      refine (HC2.out _ (Len.below HLN.out (two BW.out B4.out))).mono ?_
      rintro e w5 ⟨hd2, cap2, rfl, hcell, hb⟩
      have BW2 : Hid (Below w.heap.size w w5) := two (two BW.out B4.out) hb
      have HQ2 : Hid (Box w5 w.heap.size [.int .i64 k, .int .i64 n, .int .i64 lk, .int .i64 lf, .int .i64 ll, .int .i64 uk, .int .i64 uf, .int .i64 ul]) := Q.next hb
      have HCELL2 := Lib.hid hcell
      obtain ⟨N2, hN⟩ : ∃ N, L2.length = N := ⟨_, rfl⟩
      rw [hN]
      have hNb2 : N2 ≤ 512 := by rw [← hN]; exact M512.out
      have HN2 := Lib.hid hN
      clear hb hcell hN Q
      clear q0 q1 q2 q3 q4 q5 q6 q7
      go_wp2_with fail
      go_loopw [8, 51] (fun c t wr => ∃ (s : Nat) (d2 : Bool), s ≤ N2 ∧ c = .bool d2 ∧ t = .int .i64 s ∧ Hid (Seen L2 i s d2) ∧ Hid (Box wr w.heap.size [.int .i64 k, .int .i64 n, .int .i64 lk, .int .i64 lf, .int .i64 ll, .int .i64 uk, .int .i64 uf, .int .i64 ul]) ∧ Hid (Below w5.heap.size w5 wr))
        (fun _ t _ => N2 - (intOf t).toNat)
      case atStart => exact ⟨0, false, Nat.zero_le _, rfl, rfl, seen_zero _ _, HQ2, Below.refl _ _⟩
      case round =>
        obtain ⟨s2, d2, hs2, rfl, rfl, SN2, Q, B5⟩ := hrel
        have Q := Q.out
        obtain ⟨q0, q1, q2, q3, q4, q5, q6, q7⟩ := Box.eight Q
        by_cases hlt : s2 < N2
        · obtain ⟨x, hx⟩ : ∃ x, L2[s2]? = some x := ⟨_, List.getElem?_eq_getElem (by rw [HN2.out]; exact hlt)⟩
          have hrg := nb_rng ((HM2.out x).1 (List.mem_of_getElem? hx))
          have HH : Hid (decide (lf ≤ x ∧ x ≤ ll) = true) := decide_eq_true ⟨hrg.1, hrg.2.1⟩
          obtain ⟨g, rfl, hg, hc2⟩ := HCELL2.out s2 x hx
          have z0 := (B5.out.cell hg).trans hc2
          have HX := Lib.hid hx
          clear hx hrg hc2
          cases d2
          · by_cases hxj : x = i
            · have ex : (x == i) = true := by simpa using hxj
              have HXJ := Lib.hid hxj
              clear hxj
              go_wp2_with fail
              refine (has_is lk lf ll x true _ HH.out).mono ?_
              rintro e w7 ⟨rfl, hb⟩
              have Bb : Hid (Below w5.heap.size w5 w7) := two B5.out hb
              have Qb : Hid (Box w7 w.heap.size [.int .i64 k, .int .i64 n, .int .i64 lk, .int .i64 lf, .int .i64 ll, .int .i64 uk, .int .i64 uf, .int .i64 ul]) := Q.next hb
              clear hb z0 Q
              clear q0 q1 q2 q3 q4 q5 q6 q7
              go_wp2_with fail
              go_roundw
              case rel => exact ⟨s2 + 1, true, by omega, rfl, by go_num, seen_eq HX.out HXJ.out, Qb, Bb⟩
              case measure => simp [intOf]; omega
            · have ex : (x == i) = false := by simpa using hxj
              have HXJ := Lib.hid hxj
              clear hxj
              go_wp2_with fail
              refine (has_is lk lf ll x true _ HH.out).mono ?_
              rintro e w7 ⟨rfl, hb⟩
              have Bb : Hid (Below w5.heap.size w5 w7) := two B5.out hb
              have Qb : Hid (Box w7 w.heap.size [.int .i64 k, .int .i64 n, .int .i64 lk, .int .i64 lf, .int .i64 ll, .int .i64 uk, .int .i64 uf, .int .i64 ul]) := Q.next hb
              clear hb z0 Q
              clear q0 q1 q2 q3 q4 q5 q6 q7
              go_wp2_with fail
              go_roundw
              case rel => exact ⟨s2 + 1, false, by omega, rfl, by go_num, seen_ne SN2.out HX.out HXJ.out, Qb, Bb⟩
              case measure => simp [intOf]; omega
          · go_wp2_with fail
            refine (has_is lk lf ll x true _ HH.out).mono ?_
            rintro e w7 ⟨rfl, hb⟩
            have Bb : Hid (Below w5.heap.size w5 w7) := two B5.out hb
            have Qb : Hid (Box w7 w.heap.size [.int .i64 k, .int .i64 n, .int .i64 lk, .int .i64 lf, .int .i64 ll, .int .i64 uk, .int .i64 uf, .int .i64 ul]) := Q.next hb
            clear hb z0 Q
            clear q0 q1 q2 q3 q4 q5 q6 q7
            go_wp2_with fail
            go_roundw
            case rel => exact ⟨s2 + 1, true, by omega, rfl, by go_num, seen_old SN2.out, Qb, Bb⟩
            case measure => simp [intOf]; omega
        · have hsn : s2 = N2 := by omega
          have HD2 : Hid (d2 = d) := by
            show d2 = d
            have h1 := seen_all SN2.out (HN2.out.trans hsn.symm)
            rw [Bool.eq_iff_iff, h1, HM2.out i, HRN.out]
          obtain rfl : d2 = d := HD2.out
          clear hsn hs2
          cases d2
          · go_wp2_with fail
            refine (wawake_any _ (HE.out.below (two BW2.out B5.out))).mono ?_
            rintro e w9 ⟨rfl, hb9⟩
            clear q0 q1 q2 q3 q4 q5 q6 q7
            go_wp2_with fail
            go_ret
            exact ⟨rfl, two (two BW2.out B5.out) hb9⟩
          · go_wp2_with fail
            refine (wawake_any _ (HE.out.below (two BW2.out B5.out))).mono ?_
            rintro e w9 ⟨rfl, hb9⟩
            clear q0 q1 q2 q3 q4 q5 q6 q7
            go_wp2_with fail
            go_ret
            exact ⟨rfl, two (two BW2.out B5.out) hb9⟩
end Go.Proofs.YtkapkfddbdgmoaaDoor.Wi
