/- Walks: the statement TableCounts. -/
import Derived.Test.YtfmjeggomphliaaDoorLawWalk2
set_option linter.unusedVariables false
set_option linter.unusedSimpArgs false
namespace Go.Proofs.YtfmjeggomphliaaDoor.Tb
open Go.RowKit Go Go.Sort Ba Va Sr

theorem right_small {k n : Int} {t : ByteArray} (h : rightB k n t = true) : t.size ≤ 64 := (right_text h).2
theorem fit_txt : ∀ {cs : List Col} {r : List Val}, fitL cs r = true → ∀ x ∈ r, x.t.size ≤ 64
  | [], [], _, x, hx => by cases hx
  | [], _ :: _, h, _, _ => by cases h
  | _ :: _, [], h, _, _ => by cases h
  | c :: cs, v :: r, h, x, hx => by
    unfold fitL at h
    rw [Bool.and_eq_true] at h
    rcases List.mem_cons.1 hx with rfl | hx
    · have := h.1
      unfold fitC at this
      rw [Bool.and_eq_true] at this
      exact right_small this.1
    · exact fit_txt h.2 x hx
theorem fits_bd {cs : List Col} {r : List Val} (hc : cs.length ≤ 20) (hn : Num r) (h : fits cs r = true) : BdR r := by
  unfold fits at h
  rw [Bool.and_eq_true] at h
  exact ⟨by rw [fitL_len h.2]; omega, fun x hx => by have := fit_txt h.2 x hx; omega, hn⟩
theorem cnt_take (r : List Val) (rs : List (List Val)) (k : Nat) (x : List Val) (h : rs[k]? = some x) : cnt r (rs.take (k + 1)) = cnt r (rs.take k) + (if cmpR x r = 0 then 1 else 0) := cnt_snoc r rs k x h
theorem cnt_le (r : List Val) (rs : List (List Val)) : cnt r rs ≤ rs.length := List.countP_le_length
set_option maxHeartbeats 6400000 in
set_option maxRecDepth 100000 in
theorem counts_law (sv v u : Value) (cs : List Col) (rs : List (List Val)) (r : List Val) (w : World) (hE : EnvT w) (hs : ColsAt w sv cs) (hv : RowsAt w v rs) (hu : RowAt w u r) (h1 : ∀ c ∈ cs, c.name.size ≤ maxLen) (h2 : ∀ r ∈ rs, ∀ x ∈ r, x.t.size ≤ maxLen) (h3 : ∀ x ∈ r, x.t.size ≤ maxLen) (hn : ∀ r ∈ rs, Num r) (hnr : Num r) :
    Calls Tryd.prog 3 #[.agg #[sv, v], u] w fun e w' => e = .returned (.bool true) ∧ Below w.heap.size w w' := by
  obtain ⟨sao, scap, rfl, hsc, hsm⟩ := hs.len
  obtain ⟨ao, cap, rfl, hcp, hcm⟩ := hv.len
  obtain ⟨bo, bcap, rfl, _, _⟩ := hu.len
  have HE := Lib.hid hE
  have HS := Lib.hid hs
  have HV := Lib.hid hv
  have HU := Lib.hid hu
  have B1 := Box.new w [.slice sao cs.length scap, .slice ao rs.length cap] 26
  have bw1 : Hid (Below w.heap.size w (w.alloc (.cells #[.slice sao cs.length scap, .slice ao rs.length cap] 26))) := (Below.refl _ _).alloc (Nat.le_refl _) _
  obtain ⟨q, hq⟩ : ∃ q : Bool, q = true ↔ Small cs rs := by
    by_cases h : Small cs rs
    · exact ⟨true, by simp [h]⟩
    · exact ⟨false, by simp [h]⟩
  have HSM : Hid (∀ W, Below w.heap.size w W → Calls Tryd.prog 9 #[.agg #[.slice sao cs.length scap, .slice ao rs.length cap]] W fun e w' => e = .returned (.bool q) ∧ Below W.heap.size W w') := fun W hb => small_is _ _ cs rs q hq W (hs.below hb) (hv.below hb) h1 h2
  have HAW : Hid (∀ W, Below w.heap.size w W → Calls Tryd.prog 12 #[] W fun e w' => e = .returned (.bool true) ∧ Below W.heap.size W w') := fun W hb => awake_any W (HE.out.below hb)
  cases q with
  | false =>
    clear hs hv hu hE h1 h2 h3 hn hnr hq B1
    go_enter Tryd.func3, Tryd.ntmps3
    go_wp2_with (first | (go_at_call 9; refine (HSM.out _ bw1.out).mono ?_; rintro e v1 ⟨rfl, hb1⟩) | (go_at_call 12; refine (HAW.out _ (two bw1.out hb1)).mono ?_; rintro e v2 ⟨rfl, hb2⟩))
    go_ret
    exact ⟨rfl, two (two bw1.out hb1) hb2⟩
  | true =>
    have hS := hq.1 rfl
    have hbc := hS.bc
    have hbr := hS.br hn
    have BC := Lib.hid hbc
    have BR := Lib.hid hbr
    obtain ⟨E, hEE⟩ : ∃ E, errT cs rs = E := ⟨_, rfl⟩
    have HRT : Hid (∀ W, Below w.heap.size w W → Calls Tryd.prog 10 #[.agg #[.slice sao cs.length scap, .slice ao rs.length cap]] W fun e w' => e = .returned (.int .i64 E) ∧ Below W.heap.size W w') := fun W hb => right3_is hEE W hbc hbr (hs.below hb) (hv.below hb)
    by_cases hE0 : E = 0
    · subst hE0
      obtain ⟨ff, hff⟩ : ∃ ff, fits cs r = ff := ⟨_, rfl⟩
      have HFT : Hid (∀ W, Below w.heap.size w W → Calls Tryd.prog 11 #[.slice sao cs.length scap, .slice bo r.length bcap] W fun e w' => e = .returned (.bool ff) ∧ Below W.heap.size W w') := fun W hb => fitsL_is hff W hbc.len hbc.name (hs.below hb) (hu.below hb) (fun x hx => by have := h3 x hx; unfold maxLen at this; omega)
      cases ff with
      | false =>
        clear hs hv hu hE h1 h2 h3 hn hnr hq hS hbc hbr hEE hff
        go_enter Tryd.func3, Tryd.ntmps3
        go_wp2_with (first | (go_at_call 9; refine (HSM.out _ bw1.out).mono ?_; rintro e v1 ⟨rfl, hb1⟩; obtain ⟨z0, z1, _, _⟩ := (B1.next hb1).two) | (go_at_call 10; refine (HRT.out _ (two bw1.out hb1)).mono ?_; rintro e v2 ⟨rfl, hb2⟩; obtain ⟨y0, y1, _, _⟩ := ((B1.next hb1).next hb2).two) | (go_at_call 11; refine (HFT.out _ (two (two bw1.out hb1) hb2)).mono ?_; rintro e v3 ⟨rfl, hb3⟩) | (go_at_call 12; refine (HAW.out _ (two (two (two bw1.out hb1) hb2) hb3)).mono ?_; rintro e v4 ⟨rfl, hb4⟩))
        go_ret
        exact ⟨rfl, two (two (two (two bw1.out hb1) hb2) hb3) hb4⟩
      | true =>
        have hbd := fits_bd hS.c1 hnr hff
        have BD := Lib.hid hbd
        have hsrt : Sorted rs := (sorted_iff rs).1 (errT_zero hEE).2.2.1
        have HRR : Hid (∀ W, Below w.heap.size w W → Calls Tryd.prog 13 #[.slice ao rs.length cap] W (RefRs W rs)) := fun W hb => refRows_is _ rs W hbr (hv.below hb)
        have HRW : Hid (∀ W, Below w.heap.size w W → Calls Tryd.prog 15 #[.slice bo r.length bcap] W (RefR W r)) := fun W hb => refRow_is _ r W (by have := hbd.len; omega) (hu.below hb)
        have HCT : Hid (∀ W, Below w.heap.size w W → Calls Tryd.prog 16 #[.agg #[.slice sao cs.length scap, .slice ao rs.length cap], .slice bo r.length bcap] W fun e w' => e = .returned (.int .i64 (cnt r rs : Nat)) ∧ Below W.heap.size W w') := fun W hb => count_is _ _ _ rs r W hbr hbd.len hsrt ⟨_, _, _, rfl⟩ (hv.below hb) (hu.below hb)
        have hl60 := hS.r1
        obtain ⟨n, hnn⟩ : ∃ n, rs.length = n := ⟨_, rfl⟩
        have HN := Lib.hid hnn
        have B1H := Lib.hid B1
        rw [hnn] at hl60
        clear hs hv hu hE h1 h2 h3 hn hnr hq hS hbc hbr hEE hff hbd hsrt hnn B1
        go_enter Tryd.func3, Tryd.ntmps3
        go_wp2_with (first | (go_at_call 9; refine (HSM.out _ bw1.out).mono ?_; rintro e v1 ⟨rfl, hb1⟩; obtain ⟨z0, z1, _, _⟩ := (B1H.out.next hb1).two) | (go_at_call 10; refine (HRT.out _ (two bw1.out hb1)).mono ?_; rintro e v2 ⟨rfl, hb2⟩; obtain ⟨y0, y1, _, _⟩ := ((B1H.out.next hb1).next hb2).two) | (go_at_call 11; refine (HFT.out _ (two (two bw1.out hb1) hb2)).mono ?_; rintro e v3 ⟨rfl, hb3⟩; have RB3 := Lib.hid (((B1H.out.next hb1).next hb2).next hb3); obtain ⟨x0, x1, _, _⟩ := RB3.out.two) | (go_at_call 13; refine (HRR.out _ (two (two (two bw1.out hb1) hb2) hb3)).mono ?_; rintro e v4 ⟨x4, rfl, o4, hb4⟩; obtain ⟨qa, qc, rfl, _, _⟩ := o4.len))
        rw [HN.out]
        have bw4 := Lib.hid (two (two (two (two bw1.out hb1) hb2) hb3) hb4)
        have RB4 := Lib.hid (RB3.out.next hb4)
        have O4 := Lib.hid o4
        rw [HN.out] at O4
        clear o4 z0 z1 y0 y1 x0 x1 RB3 hb1 hb2 hb3 hb4 HSM HRT HFT HRR bw1
        go_loopw [5, 28] (fun c i wr => ∃ k t : Nat, k ≤ n ∧ t ≤ k ∧ c = .int .i64 t ∧ i = .int .i64 k ∧ Hid (Below v4.heap.size v4 wr) ∧ Hid (cnt r (rs.take k) = t)) (fun c i _ => n - (intOf i).toNat)
        case atStart => exact ⟨0, 0, Nat.zero_le _, Nat.le_refl _, rfl, rfl, Below.refl _ _, (rfl : cnt r (rs.take 0) = 0)⟩
        case round =>
          obtain ⟨k, t, hk, htk, rfl, rfl, BW, HC⟩ := hrel
          by_cases hlt : k < n
          · obtain ⟨x, hx⟩ : ∃ x, rs[k]? = some x := ⟨_, List.getElem?_eq_getElem (by rw [HN.out]; exact hlt)⟩
            obtain ⟨b, o, h, rfl, hb, hc, hh⟩ := RowsAt.row O4.out hx
            replace hc := (BW.out.cell (by exact hb)).trans hc
            obtain ⟨c, hcc⟩ : ∃ c, cmpR x r = c := ⟨_, rfl⟩
            have HH : Hid (RowAt v4 h x) := hh
            have HCC := Lib.hid hcc
            have HXB := Lib.hid (BR.out.row x (List.mem_of_getElem? hx))
            have hct := cnt_take r rs k x hx
            rw [HC.out, hcc] at hct
            have HCT2 := Lib.hid hct
            clear hx hh hcc hct
            by_cases c0 : c = 0
            · subst c0
              have HS2 : Hid (cnt r (rs.take (k + 1)) = t + 1) := by have := HCT2.out; rw [if_pos rfl] at this; exact this
              go_wp2_with (first | (go_at_call 15; refine (HRW.out _ (two bw4.out BW.out)).mono ?_; rintro e v5 ⟨x5, rfl, o5, hb5⟩) | (go_at_call 14; refine (refCmpR_is HCC.out _ HXB.out BD.out ((HH.out.below BW.out).below hb5) o5.at).mono ?_; rintro e v6 ⟨rfl, hb6⟩))
              go_roundw
              case rel => exact ⟨k + 1, t + 1, by omega, by omega, by go_num, by go_num, two (two BW.out hb5) hb6, HS2⟩
              case measure => simp [intOf]; omega
            · have HS2 : Hid (cnt r (rs.take (k + 1)) = t) := by have := HCT2.out; rw [if_neg c0] at this; exact this
              have d0 : (c == 0) = false := by simpa using c0
              clear c0
              go_wp2_with (first | (go_at_call 15; refine (HRW.out _ (two bw4.out BW.out)).mono ?_; rintro e v5 ⟨x5, rfl, o5, hb5⟩) | (go_at_call 14; refine (refCmpR_is HCC.out _ HXB.out BD.out ((HH.out.below BW.out).below hb5) o5.at).mono ?_; rintro e v6 ⟨rfl, hb6⟩))
              go_roundw
              case rel => exact ⟨k + 1, t, by omega, by omega, rfl, by go_num, two (two BW.out hb5) hb6, HS2⟩
              case measure => simp [intOf]; omega
          · have hct : cnt r rs = t := by have := HC.out; rw [show k = n by omega, ← HN.out, List.take_length] at this; exact this
            rw [hct] at HCT
            obtain ⟨z0, z1, _, _⟩ := (RB4.out.next BW.out).two
            clear hct
            go_wp2_with (first | (go_at_call 16; refine (HCT.out _ (two bw4.out BW.out)).mono ?_; rintro e v5 ⟨rfl, hb5⟩) | (go_at_call 12; refine (HAW.out _ (two (two bw4.out BW.out) hb5)).mono ?_; rintro e v6 ⟨rfl, hb6⟩))
            go_ret
            exact ⟨rfl, two (two (two bw4.out BW.out) hb5) hb6⟩
    · have d0 : (E != 0) = true := by simpa using hE0
      clear hs hv hu hE h1 h2 h3 hn hnr hq hS hbc hbr hEE hE0
      go_enter Tryd.func3, Tryd.ntmps3
      go_wp2_with (first | (go_at_call 9; refine (HSM.out _ bw1.out).mono ?_; rintro e v1 ⟨rfl, hb1⟩; obtain ⟨z0, z1, _, _⟩ := (B1.next hb1).two) | (go_at_call 10; refine (HRT.out _ (two bw1.out hb1)).mono ?_; rintro e v2 ⟨rfl, hb2⟩) | (go_at_call 12; refine (HAW.out _ (two (two bw1.out hb1) hb2)).mono ?_; rintro e v4 ⟨rfl, hb4⟩))
      go_ret
      exact ⟨rfl, two (two (two bw1.out hb1) hb2) hb4⟩
end Go.Proofs.YtfmjeggomphliaaDoor.Tb
