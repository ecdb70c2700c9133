/- Walks: the document's word on rows: do they fit, how do they stand. -/
import Derived.Test.YtfmjeggomphliaaGreatDoorRefWalk1
import Derived.Test.YtfmjeggomphliaaGreatDoorTblWalk13
set_option linter.unusedVariables false
set_option linter.unusedSimpArgs false
namespace Go.Proofs.YtfmjeggomphliaaGreatDoor.Tb
open Go.RowKit Go Go.Sort Ba Va Sr

set_option maxHeartbeats 6400000 in
theorem refFits_is (v rv : Value) (cs : List Col) (r : List Val) (F : Bool) (hF : fitL cs r = F) (w : World) (hl : cs.length ≤ 4096) (hlr : r.length ≤ 4096) (hv : ColsAt w v cs) (hr : RowAt w rv r) (hrs : ∀ x ∈ r, x.t.size ≤ 4096) :
    Calls Tryz.prog 61 #[v, rv] w fun e w' => e = .returned (.bool F) ∧ Below w.heap.size w w' := by
  obtain ⟨ao, cap, rfl, hcap, _⟩ := hv.len
  obtain ⟨ro, rcap, rfl, hrcap, _⟩ := hr.len
  obtain ⟨n, hn⟩ : ∃ n, cs.length = n := ⟨_, rfl⟩
  obtain ⟨m, hm⟩ : ∃ m, r.length = m := ⟨_, rfl⟩
  by_cases hmn : m = n
  · subst hmn
    have HF := Lib.hid hF
    have HV := Lib.hid hv
    have HR := Lib.hid hr
    have HRS := Lib.hid hrs
    rw [hn] at hcap hl HV ⊢
    rw [hm] at hrcap HR hlr ⊢
    have HN := Lib.hid hn
    have HM := Lib.hid hm
    clear hF hv hr hrs hn hm
    go_enter Tryz.func61, Tryz.ntmps61
    go_wp2_with fail
    go_loopw [5] (fun i wr => ∃ k : Nat, k ≤ m ∧ i = .int .i64 k ∧ Hid (Below w.heap.size w wr) ∧ Hid (fitL (cs.drop k) (r.drop k) = F)) (fun i _ => m - (intOf i).toNat)
    case atStart => exact ⟨0, Nat.zero_le _, rfl, Below.refl _ _, HF.out⟩
    case round =>
      obtain ⟨k, hk, rfl, BW, HK⟩ := hrel
      clear HF
      by_cases hlt : k < m
      · obtain ⟨c, hc⟩ : ∃ c, cs[k]? = some c := ⟨_, List.getElem?_eq_getElem (by rw [HN.out]; exact hlt)⟩
        obtain ⟨x, hx⟩ : ∃ x, r[k]? = some x := ⟨_, List.getElem?_eq_getElem (by rw [HM.out]; exact hlt)⟩
        have hst := fitL_at cs r k c x hc hx
        rw [HK.out] at hst
        have hsz := HRS.out x (List.mem_of_getElem? hx)
        obtain ⟨b, o, rfl, hb, _, x1⟩ := ColsAt.col HV.out hc
        obtain ⟨b2, o2, rfl, hb2, y0, y1, y2⟩ := RowAt.val HR.out hx
        replace x1 := (BW.out.cell (by exact hb)).trans x1
        replace y0 := (BW.out.cell (by exact hb2)).trans y0
        replace y1 := (BW.out.cell (by exact hb2)).trans y1
        replace y2 := (BW.out.cell (by exact hb2)).trans y2
        obtain ⟨T, hT⟩ : ∃ T, c.ty = T := ⟨_, rfl⟩
        obtain ⟨K, hK⟩ : ∃ K, x.k = K := ⟨_, rfl⟩
        obtain ⟨N, hN⟩ : ∃ N, x.n = N := ⟨_, rfl⟩
        obtain ⟨S, hS⟩ : ∃ S, x.t = S := ⟨_, rfl⟩
        have hfc : fitC c x = (rightB K N S && (decide (K = 0) || decide (K = T))) := by unfold fitC; rw [hT, hK, hN, hS]
        rw [hfc] at hst
        rw [hT] at x1
        rw [hK] at y0
        rw [hN] at y1
        rw [hS] at y2 hsz
        have HST := Lib.hid hst
        clear hst hc hx hT hK hN hS hfc
        obtain ⟨R, hR⟩ : ∃ R, rightB K N S = R := ⟨_, rfl⟩
        have HRT : Hid (∀ W : World, Calls Tryz.prog 90 #[.agg #[.int .i64 K, .int .i64 N, .string S]] W fun e w' => e = .returned (.bool R) ∧ Below W.heap.size W w') := fun W => refRight_is K N S R W (by omega) hR
        rw [hR] at HST
        clear hR
        have hbl : (k : Int) < (m : Int) := by omega
        have x1 := cell_regrown x1
        have y0 := cell_regrown y0
        have y1 := cell_regrown y1
        have y2 := cell_regrown y2
        have cA := qcall (P := Tryz.prog) (w := wr) fun W' hb => HRT.out W'
        cases R with
        | false =>
          have HFF : Hid (F = false) := by show F = false; have := HST.out; simpa using this
          go_wp2_with fail
          refine wp_region_quiet_below (by kernel_rfl) (by kernel_rfl) ?_
          repeat (go_big_quiet_step (with_reducible (first | exact cA _ _)))
          refine wpQuiet_nil ?_
          intro _ hw'
          obtain ⟨⟨dq1, os1⟩, hw''⟩ := hw'
          subst hw''
          go_wp2_with fail
          go_ret
          exact ⟨ret_bool HFF.out.symm, two BW.out (below_regrown _ _ _)⟩
        | true =>
          by_cases k0 : K = 0
          · subst k0
            have HFF : Hid (fitL (cs.drop (k + 1)) (r.drop (k + 1)) = F) := by show _ = F; have := HST.out; simpa using this.symm
            go_wp2_with fail
            refine wp_region_quiet_below (by kernel_rfl) (by kernel_rfl) ?_
            repeat (go_big_quiet_step (with_reducible (first | exact cA _ _)))
            refine wpQuiet_nil ?_
            intro _ hw'
            obtain ⟨⟨dq1, os1⟩, hw''⟩ := hw'
            subst hw''
            go_wp2_with fail
            go_roundw
            case rel => exact ⟨k + 1, by omega, by go_num, two BW.out (below_regrown _ _ _), HFF⟩
            case measure => simp [intOf]; omega
          · have dk : (K != 0) = true := by simpa using k0
            by_cases kt : K = T
            · subst kt
              have HFF : Hid (fitL (cs.drop (k + 1)) (r.drop (k + 1)) = F) := by show _ = F; have := HST.out; simpa [k0] using this.symm
              clear k0
              go_wp2_with fail
              refine wp_region_quiet_below (by kernel_rfl) (by kernel_rfl) ?_
              repeat (go_big_quiet_step (with_reducible (first | exact cA _ _)))
              refine wpQuiet_nil ?_
              intro _ hw'
              obtain ⟨⟨dq1, os1⟩, hw''⟩ := hw'
              subst hw''
              go_wp2_with fail
              go_roundw
              case rel => exact ⟨k + 1, by omega, by go_num, two BW.out (below_regrown _ _ _), HFF⟩
              case measure => simp [intOf]; omega
            · have HFF : Hid (F = false) := by show F = false; have := HST.out; simpa [k0, kt] using this
              have dt : (K != T) = true := by simpa using kt
              clear k0 kt
              go_wp2_with fail
              refine wp_region_quiet_below (by kernel_rfl) (by kernel_rfl) ?_
              repeat (go_big_quiet_step (with_reducible (first | exact cA _ _)))
              refine wpQuiet_nil ?_
              intro _ hw'
              obtain ⟨⟨dq1, os1⟩, hw''⟩ := hw'
              subst hw''
              go_wp2_with fail
              go_ret
              exact ⟨ret_bool HFF.out.symm, two BW.out (below_regrown _ _ _)⟩
      · have ek : k = m := by omega
        have HR2 : Hid (F = true) := by show F = true; have := HK.out; rw [ek] at this; rw [← this, ← HM.out]; exact fitL_end cs r (by rw [HM.out, HN.out])
        clear ek
        go_wp2_with fail
        go_ret
        exact ⟨ret_bool HR2.out.symm, BW.out⟩
  · have hff : F = false := by rw [← hF]; exact fitL_ne (by omega)
    subst hff
    have d2 : ((n : Int) != (m : Int)) = true := by simp; omega
    rw [hn, hm]
    clear hv hr hrs hn hm hF hmn
    go_enter Tryz.func61, Tryz.ntmps61
    go_wp2_with fail
    go_ret
    exact ⟨rfl, Below.refl _ _⟩
set_option maxHeartbeats 3200000 in
theorem refCmpR_is {v u : Value} {a b : List Val} {E : Int} (hE : cmpR a b = E) (w : World) (ba : BdR a) (bb : BdR b) (hv : RowAt w v a) (hu : RowAt w u b) :
    Calls Tryz.prog 62 #[v, u] w fun e w' => e = .returned (.int .i64 E) ∧ Below w.heap.size w w' := by
  have HE : Hid (FromR a b 0 E) := hE
  obtain ⟨ao, cap, rfl, hcap, _⟩ := hv.len
  obtain ⟨bo, bcap, rfl, hbcap, _⟩ := hu.len
  obtain ⟨n, hn⟩ : ∃ n, a.length = n := ⟨_, rfl⟩
  obtain ⟨m, hm⟩ : ∃ m, b.length = m := ⟨_, rfl⟩
  have hla := ba.len
  have hlb := bb.len
  have HV := Lib.hid hv
  have HU := Lib.hid hu
  have BA := Lib.hid ba
  have BB := Lib.hid bb
  rw [hn] at hcap hla HV ⊢
  rw [hm] at hbcap hlb HU ⊢
  have HN := Lib.hid hn
  have HM := Lib.hid hm
  clear hE hv hu hn hm ba bb
  go_enter Tryz.func62, Tryz.ntmps62
  go_wp2_with fail
  go_loopw [5] (fun i wr => ∃ k : Nat, k ≤ n ∧ k ≤ m ∧ i = .int .i64 k ∧ Hid (Below w.heap.size w wr) ∧ Hid (FromR a b k E)) (fun i _ => n - (intOf i).toNat)
  case atStart => exact ⟨0, Nat.zero_le _, Nat.zero_le _, rfl, Below.refl _ _, HE⟩
  case round =>
    obtain ⟨k, hk, hkm, rfl, BW, HK⟩ := hrel
    clear HE
    by_cases hlt : k < n
    · by_cases hlt2 : k < m
      · obtain ⟨x, hx⟩ : ∃ x, a[k]? = some x := ⟨_, List.getElem?_eq_getElem (by rw [HN.out]; exact hlt)⟩
        obtain ⟨b1, o1, rfl, g1, x0, x1, x2⟩ := RowAt.val HV.out hx
        replace x0 := (BW.out.cell (by exact g1)).trans x0
        replace x1 := (BW.out.cell (by exact g1)).trans x1
        replace x2 := (BW.out.cell (by exact g1)).trans x2
        obtain ⟨y, hy⟩ : ∃ y, b[k]? = some y := ⟨_, List.getElem?_eq_getElem (by rw [HM.out]; exact hlt2)⟩
        obtain ⟨b2, o2, rfl, g2, y0, y1, y2⟩ := RowAt.val HU.out hy
        replace y0 := (BW.out.cell (by exact g2)).trans y0
        replace y1 := (BW.out.cell (by exact g2)).trans y1
        replace y2 := (BW.out.cell (by exact g2)).trans y2
        have hst : E = if cmp2 x y = 0 then cmpR (a.drop (k + 1)) (b.drop (k + 1)) else cmp2 x y := by rw [← HK.out]; exact cmpR_at a b k x y hx hy
        obtain ⟨C, hC⟩ : ∃ C, cmp2 x y = C := ⟨_, rfl⟩
        rw [hC] at hst
        have HST := Lib.hid hst
        have cA := qcall (P := Tryz.prog) (w := wr) fun W' hb => refCmp_any x.k x.n x.t y.k y.n y.t C W' (by have := BA.out.txt x (List.mem_of_getElem? hx); omega) (by have := BB.out.txt y (List.mem_of_getElem? hy); omega) hC
        obtain ⟨xk, hxk⟩ : ∃ q, x.k = q := ⟨_, rfl⟩
        obtain ⟨xn, hxn⟩ : ∃ q, x.n = q := ⟨_, rfl⟩
        obtain ⟨xt, hxt⟩ : ∃ q, x.t = q := ⟨_, rfl⟩
        obtain ⟨yk, hyk⟩ : ∃ q, y.k = q := ⟨_, rfl⟩
        obtain ⟨yn, hyn⟩ : ∃ q, y.n = q := ⟨_, rfl⟩
        obtain ⟨yt, hyt⟩ : ∃ q, y.t = q := ⟨_, rfl⟩
        rw [hxk, hxn, hxt, hyk, hyn, hyt] at cA
        rw [hxk] at x0
        rw [hxn] at x1
        rw [hxt] at x2
        rw [hyk] at y0
        rw [hyn] at y1
        rw [hyt] at y2
        have x0 := cell_regrown x0
        have x1 := cell_regrown x1
        have x2 := cell_regrown x2
        have y0 := cell_regrown y0
        have y1 := cell_regrown y1
        have y2 := cell_regrown y2
        have hbn : (k : Int) < (n : Int) := by omega
        have hbm : (k : Int) < (m : Int) := by omega
        clear hst hC hx hy hxk hxn hxt hyk hyn hyt
        by_cases c0 : C = 0
        · subst c0
          have HS2 : Hid (FromR a b (k + 1) E) := by show _ = E; have := HST.out; rw [if_pos rfl] at this; exact this.symm
          go_wp2_with fail
          refine wp_region_quiet_below (by kernel_rfl) (by kernel_rfl) ?_
          repeat (go_big_quiet_step (with_reducible (first | exact cA _ _)))
          refine wpQuiet_nil ?_
          intro _ hw'
          obtain ⟨⟨dq1, os1⟩, hw''⟩ := hw'
          subst hw''
          go_wp2_with fail
          go_roundw
          case rel => exact ⟨k + 1, by omega, by omega, by go_num, two BW.out (below_regrown _ _ _), HS2⟩
          case measure => simp [intOf]; omega
        · have HS2 : Hid (E = C) := by show E = C; have := HST.out; rw [if_neg c0] at this; exact this
          have d0 : (C != 0) = true := by simpa using c0
          clear c0
          go_wp2_with fail
          refine wp_region_quiet_below (by kernel_rfl) (by kernel_rfl) ?_
          repeat (go_big_quiet_step (with_reducible (first | exact cA _ _)))
          refine wpQuiet_nil ?_
          intro _ hw'
          obtain ⟨⟨dq1, os1⟩, hw''⟩ := hw'
          subst hw''
          go_wp2_with fail
          go_ret
          exact ⟨ret_int HS2.out.symm, two BW.out (below_regrown _ _ _)⟩
      · have HS2 : Hid (E = 1) := by show E = 1; rw [← HK.out]; exact cmpR_more a b k (by rw [HN.out]; exact hlt) (by rw [HM.out]; omega)
        have e1 : ¬ n < m := by omega
        have e2 : m < n := by omega
        go_wp2_with fail
        go_ret
        exact ⟨ret_int HS2.out.symm, BW.out⟩
    · have hst : E = if k < m then -1 else 0 := by rw [← HM.out, ← HK.out]; exact cmpR_none a b k (by rw [HN.out]; omega) (by rw [HM.out]; exact hkm)
      have HST := Lib.hid hst
      clear hst
      have ek : k = n := by omega
      subst ek
      by_cases c1 : k < m
      · have HS2 : Hid (E = -1) := by show E = -1; rw [HST.out, if_pos c1]
        go_wp2_with fail
        go_ret
        exact ⟨ret_int HS2.out.symm, BW.out⟩
      · have HS2 : Hid (E = 0) := by show E = 0; rw [HST.out, if_neg c1]
        have e2 : ¬ m < k := by omega
        go_wp2_with fail
        go_ret
        exact ⟨ret_int HS2.out.symm, BW.out⟩
/-- All of the first so many rows fit. -/
def FitTo (cs : List Col) (rs : List (List Val)) (k : Nat) : Prop := (rs.take k).all (fitL cs) = true
set_option maxHeartbeats 3200000 in
theorem ref3Check_is {sv v : Value} {cs : List Col} {rs : List (List Val)} {E : Int} (hE : err cs rs = E) (w : World) (bc : BdC cs) (br : BdRs rs) (hs : ColsAt w sv cs) (hv : RowsAt w v rs) :
    Calls Tryz.prog 27 #[sv, v] w fun e w' => e = .returned (.int .i64 E) ∧ Below w.heap.size w w' := by
  obtain ⟨C, hC⟩ : ∃ C, chk cs = C := ⟨_, rfl⟩
  unfold err at hE
  rw [hC] at hE
  have HC : Hid (Calls Tryz.prog 60 #[sv] w fun e w' => e = .returned (.int .i64 C) ∧ Below w.heap.size w w') := by rw [← hC]; exact refCheck_any sv cs w bc.len bc.name hs
  obtain ⟨sao, scap, rfl, _, _⟩ := hs.len
  obtain ⟨ao, cap, rfl, hcap, _⟩ := hv.len
  obtain ⟨n, hn⟩ : ∃ n, rs.length = n := ⟨_, rfl⟩
  have hl := br.len
  rw [hn] at hE hcap hl ⊢
  have HS := Lib.hid hs
  have HV := Lib.hid hv
  have BC := Lib.hid bc
  have BR := Lib.hid br
  rw [hn] at HV
  have HN := Lib.hid hn
  clear hs hv bc br hC hn
  by_cases c0 : C = 0
  · subst c0
    rw [if_neg (by simp)] at hE
    by_cases c1 : 4096 < n
    · rw [if_pos c1] at hE
      subst hE
      go_enter Tryz.func27, Tryz.ntmps27
      go_wp2_with (go_at_call 60; refine HC.out.mono ?_; rintro e w1 ⟨rfl, hb1⟩)
      go_ret
      exact ⟨rfl, hb1⟩
    · rw [if_neg c1] at hE
      have HE := Lib.hid hE
      clear hE
      go_enter Tryz.func27, Tryz.ntmps27
      go_wp2_with (go_at_call 60; refine HC.out.mono ?_; rintro e w1 ⟨rfl, hb1⟩)
      have HB1 := Lib.hid hb1
      clear hb1 HC
      go_loopw [6] (fun i wr => ∃ k : Nat, k ≤ n ∧ i = .int .i64 k ∧ Hid (Below w.heap.size w wr) ∧ Hid (FitTo cs rs k)) (fun i _ => n - (intOf i).toNat)
      case atStart => exact ⟨0, Nat.zero_le _, rfl, HB1.out, (rfl : FitTo cs rs 0)⟩
      case round =>
        clear HB1
        obtain ⟨k, hk, rfl, BW, HA⟩ := hrel
        by_cases hlt : k < n
        · obtain ⟨r, hr⟩ : ∃ r, rs[k]? = some r := ⟨_, List.getElem?_eq_getElem (by rw [HN.out]; exact hlt)⟩
          obtain ⟨b, o, x, rfl, hb, hc, hx⟩ := RowsAt.row HV.out hr
          replace hc := (BW.out.cell (by exact hb)).trans hc
          have hm := List.mem_of_getElem? hr
          obtain ⟨q, hq⟩ : ∃ q, fitL cs r = q := ⟨_, rfl⟩
          have HT := Lib.hid (refFits_is _ x cs r q hq wr BC.out.len (BR.out.row r hm).len (HS.out.below BW.out) (hx.below BW.out) (BR.out.row r hm).txt)
          have HR := Lib.hid hr
          have HM := Lib.hid hm
          have HQ := Lib.hid hq
          clear hr hx hm hq
          cases q with
          | false =>
            have HR2 : Hid (E = 12) := by
              show E = 12
              have : rs.all (fitL cs) = false := List.all_eq_false.2 ⟨r, HM.out, by rw [HQ.out]; decide⟩
              rw [← HE.out, this]; rfl
            go_wp2_with (go_at_call 61; refine HT.out.mono ?_; rintro e w1 ⟨rfl, hb1⟩)
            go_ret
            exact ⟨by rw [HR2.out]; rfl, two BW.out hb1⟩
          | true =>
            have HA2 : Hid (FitTo cs rs (k + 1)) := by show _ = _; rw [take_one rs k r HR.out, List.all_append, show (rs.take k).all (fitL cs) = true from HA.out]; simp [HQ.out]
            go_wp2_with (go_at_call 61; refine HT.out.mono ?_; rintro e w1 ⟨rfl, hb1⟩)
            go_roundw
            case rel => exact ⟨k + 1, by omega, by go_num, two BW.out hb1, HA2⟩
            case measure => simp [intOf]; omega
        · obtain rfl : k = n := by omega
          have HR2 : Hid (E = 0) := by
            show E = 0
            have h : (rs.take k).all (fitL cs) = true := HA.out
            rw [← HN.out, List.take_length] at h
            rw [← HE.out, h]; rfl
          go_wp2_with fail
          go_ret
          exact ⟨by rw [HR2.out]; rfl, BW.out⟩
  · rw [if_pos c0] at hE
    subst hE
    have d0 : (C != 0) = true := by simpa using c0
    clear c0
    go_enter Tryz.func27, Tryz.ntmps27
    go_wp2_with (go_at_call 60; refine HC.out.mono ?_; rintro e w1 ⟨rfl, hb1⟩)
    go_ret
    exact ⟨rfl, hb1⟩
def SrtTo (rs : List (List Val)) (m : Nat) : Prop := ∀ (i : Nat) (a b : List Val), i + 1 < m → rs[i]? = some a → rs[i + 1]? = some b → cmpR a b ≤ 0
set_option maxHeartbeats 1600000 in
theorem refSorted_is (v : Value) (rs : List (List Val)) (q : Bool) (hq : srt rs = q) (w : World) (br : BdRs rs) (hv : RowsAt w v rs) :
    Calls Tryz.prog 28 #[v] w fun e w' => e = .returned (.bool q) ∧ Below w.heap.size w w' := by
  obtain ⟨ao, cap, rfl, hcap, _⟩ := hv.len
  obtain ⟨n, hn⟩ : ∃ n, rs.length = n := ⟨_, rfl⟩
  have HV := Lib.hid hv
  have BR := Lib.hid br
  have HQ := Lib.hid hq
  have hl := br.len
  rw [hn] at hcap HV hl ⊢
  have HN := Lib.hid hn
  clear hv br hn hq
  go_enter Tryz.func28, Tryz.ntmps28
  go_wp2_with fail
  go_loopw [3] (fun i wr => ∃ m : Nat, 1 ≤ m ∧ m ≤ n + 1 ∧ i = .int .i64 m ∧ Hid (SrtTo rs m) ∧ Hid (Below w.heap.size w wr)) (fun i _ => n + 1 - (intOf i).toNat)
  case atStart => exact ⟨1, Nat.le_refl _, by omega, rfl, (fun i a b h1 h2 h3 => by omega : SrtTo rs 1), Below.refl _ _⟩
  case round =>
    obtain ⟨m, h1, hm, rfl, HF, BW⟩ := hrel
    by_cases hlt : m < n
    · obtain ⟨p, rfl⟩ : ∃ p, m = p + 1 := ⟨m - 1, by omega⟩
      obtain ⟨a, ha⟩ : ∃ a, rs[p]? = some a := ⟨_, List.getElem?_eq_getElem (by rw [HN.out]; omega)⟩
      obtain ⟨b, hb⟩ : ∃ b, rs[p + 1]? = some b := ⟨_, List.getElem?_eq_getElem (by rw [HN.out]; omega)⟩
      obtain ⟨k, o, x, e1, hk, hc, hx⟩ := RowsAt.row HV.out ha
      obtain ⟨k2, o2, y, e2, _, hc2, hy⟩ := RowsAt.row HV.out hb
      subst e1
      cases e2
      replace hc := (BW.out.cell (by exact hk)).trans hc
      replace hc2 := (BW.out.cell (by exact hk)).trans hc2
      obtain ⟨c, hcc⟩ : ∃ c, cmpR a b = c := ⟨_, rfl⟩
      have cA := qcall (P := Tryz.prog) (w := wr) fun W' hb' => refCmpR_is hcc W' (BR.out.row a (List.mem_of_getElem? ha)) (BR.out.row b (List.mem_of_getElem? hb)) ((hx.below BW.out).below hb') ((hy.below BW.out).below hb')
      have HA := Lib.hid ha
      have HB := Lib.hid hb
      have HC := Lib.hid hcc
      have m0 := cell_regrown hc
      have m1 := cell_regrown hc2
      have b1 : (p : Int) + 1 < (n : Int) := by omega
      have b0 : (p : Int) < (n : Int) := by omega
      clear ha hb hx hy hcc hc hc2
      by_cases c0 : 0 < c
      · have HR : Hid (q = false) := by
          show q = false
          cases hq : q with
          | false => rfl
          | true =>
            have := (srt_iff rs).1 (HQ.out.trans hq) p a b HA.out HB.out
            have := HC.out
            omega
        have d0 : decide (c > 0) = true := decide_eq_true c0
        go_wp2_with fail
        refine wp_region_quiet_below (by kernel_rfl) (by kernel_rfl) ?_
        repeat (go_big_quiet_step (with_reducible (first | exact cA _ _)))
        refine wpQuiet_nil ?_
        intro _ hw'
        obtain ⟨⟨dq1, os1⟩, hw''⟩ := hw'
        subst hw''
        have bw2 := two BW.out (below_regrown wr dq1 os1)
        go_wp2_with fail
        go_ret
        exact ⟨ret_bool HR.out.symm, bw2⟩
      · have HF2 : Hid (SrtTo rs (p + 1 + 1)) := fun i a' b' g1 g2 g3 => by
          by_cases e : i = p
          · subst e
            rw [HA.out] at g2
            rw [HB.out] at g3
            cases g2; cases g3
            have := HC.out
            omega
          · exact HF.out i a' b' (by omega) g2 g3
        have d0 : decide (c > 0) = false := decide_eq_false c0
        go_wp2_with fail
        refine wp_region_quiet_below (by kernel_rfl) (by kernel_rfl) ?_
        repeat (go_big_quiet_step (with_reducible (first | exact cA _ _)))
        refine wpQuiet_nil ?_
        intro _ hw'
        obtain ⟨⟨dq1, os1⟩, hw''⟩ := hw'
        subst hw''
        have bw2 := two BW.out (below_regrown wr dq1 os1)
        clear m0 m1 cA
        go_wp2_with fail
        go_roundw
        case rel => exact ⟨p + 1 + 1, by omega, by omega, by go_num, HF2, bw2⟩
        case measure => simp [intOf]; omega
    · have HR : Hid (q = true) := by
        show q = true
        rw [← HQ.out]
        exact (srt_iff rs).2 fun i a b g2 g3 => HF.out i a b (by have := (List.getElem?_eq_some_iff.1 g3).1; rw [HN.out] at this; omega) g2 g3
      go_wp2_with fail
      go_ret
      exact ⟨ret_bool HR.out.symm, BW.out⟩
end Go.Proofs.YtfmjeggomphliaaGreatDoor.Tb
