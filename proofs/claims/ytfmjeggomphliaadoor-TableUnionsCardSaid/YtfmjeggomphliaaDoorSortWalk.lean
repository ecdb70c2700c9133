/- Walks: the document's sort of rows. -/
import Derived.Test.YtfmjeggomphliaaDoorSortRef
set_option linter.unusedVariables false
set_option linter.unusedSimpArgs false
namespace Go.Proofs.YtfmjeggomphliaaDoor.Tb
open Go.RowKit Go Go.Sort Ba Va Sr

set_option maxHeartbeats 12800000 in
set_option maxRecDepth 100000 in
theorem sortRef_is (v : Value) (rs : List (List Val)) (w : World) (br : BdRs rs) (hv : RowsAt w v rs) :
    Calls Tryd.prog 28 #[v] w (RefRs w (sortR rs)) := by
  obtain ⟨ao, cap, rfl, hcap, _⟩ := hv.len
  obtain ⟨i0, hi, hz0, hz1, hz2⟩ := info_parts infoRR
  obtain ⟨n, hn⟩ : ∃ n, rs.length = n := ⟨_, rfl⟩
  have hl := br.len
  have HV := Lib.hid hv
  have BR := Lib.hid br
  rw [hn] at hcap hl HV ⊢
  have HN := Lib.hid hn
  clear hv hn br
  go_enter Tryd.func28, Tryd.ntmps28
  go_wp2_with fail
  go_loopw [3, 4] (fun out i wr => ∃ (k : Nat) (hs : List Value), k ≤ n ∧ i = .int .i64 k ∧ Hid (Hd w wr w.heap.size out hs (sortR (rs.take k))) ∧ Hid (Below w.heap.size w wr)) (fun out i _ => n - (intOf i).toNat)
  case atStart => exact ⟨0, [], Nat.zero_le _, rfl, (Hd.nil w w w.heap.size : Hd _ _ _ _ _ (sortR (rs.take 0))), Below.refl _ _⟩
  case round =>
    obtain ⟨k, hs, hk, rfl, HO, BW⟩ := hrel
    by_cases hlt : k < n
    · obtain ⟨r, hr⟩ : ∃ r, rs[k]? = some r := ⟨_, List.getElem?_eq_getElem (by rw [HN.out]; exact hlt)⟩
      obtain ⟨b, o, x, rfl, hb, hc, hx⟩ := RowsAt.row HV.out hr
      have hsn := sortR_snoc rs k r hr
      have hlk : (sortR (rs.take k)).length = k := by rw [sortR_len, List.length_take, HN.out]; omega
      obtain ⟨OUT, hOUT⟩ : ∃ OUT, sortR (rs.take k) = OUT := ⟨_, rfl⟩
      have HBO : Hid (∀ y ∈ OUT, BdR y) := fun y hy => by rw [← hOUT] at hy; exact BR.out.row y (List.mem_of_mem_take ((sort_perm _).mem_iff.1 hy))
      rw [hOUT] at hsn hlk HO
      obtain ⟨oa, oc, rfl, hoc, _⟩ := HO.out.row'
      have hhl : hs.length = k := HO.out.len.trans hlk
      rw [hlk] at HO ⊢
      rw [hhl] at hoc
      have hbr := BR.out.row r (List.mem_of_getElem? hr)
      obtain ⟨ra, rc, rfl, hrc, _⟩ := hx.len
      obtain ⟨rn, hrn⟩ : ∃ rn, r.length = rn := ⟨_, rfl⟩
      rw [hrn] at hc hx hrc
      have HR := Lib.hid hr
      have HX := Lib.hid hx
      have HC := Lib.hid hc
      have HSN := Lib.hid hsn
      have HLK := Lib.hid hlk
      have HHL := Lib.hid hhl
      have HBR := Lib.hid hbr
      clear hr hx hc hsn hlk hhl hOUT hbr hrn
      obtain ⟨B, hB⟩ : ∃ B, wr.heap.size = B := ⟨_, rfl⟩
      have hB0 : w.heap.size ≤ B := by have := BW.out.size; omega
      have HBLK : Hid (∀ {W' : World} {v : Value} {xs : List Value}, W'.ownsRow B 35 1 v xs.length xs → ∀ j, (Value.slice oa k oc).ownBlock = some j → v.ownBlock ≠ some j) := fun h j hj e => by have h1 := (h.lt j e).1; have h2 := (HO.out.row.lt j hj).2; omega
      go_wp2_with fail
      go_loopw [5, 6, 7] (fun nx p j wr2 => ∃ (t : Nat) (q : Bool) (ns : List Value) (nl : List (List Val)), t ≤ k ∧ p = .bool q ∧ j = .int .i64 t ∧ B ≤ wr2.heap.size ∧ Hid (Hd w wr2 B nx ns nl) ∧ Hid (Mid r OUT t q nl) ∧ Hid (Hd w wr2 w.heap.size (.slice oa k oc) hs OUT) ∧ Hid (Below w.heap.size w wr2)) (fun nx p j _ => k - (intOf j).toNat)
      case atStart => exact ⟨0, false, [], [], Nat.zero_le _, rfl, rfl, Nat.le_of_eq hB.symm, Hd.nil _ _ _, mid_start r OUT, HO.out, BW.out⟩
      case round =>
        clear hB HO BW
        obtain ⟨t, q, ns, nl, ht, rfl, rfl, hB1, N1, HM, O1, bw1⟩ := hrel
        have HNL : Hid (ns.length ≤ k + 1) := by have := mid_len HM.out (by rw [HLK.out]; exact ht); rw [HLK.out] at this; show _ ≤ _; rw [N1.out.len]; exact this
        have x0 := (bw1.out.cell (by exact hb)).trans HC.out
        by_cases htl : t < k
        · obtain ⟨y, hy⟩ : ∃ y, OUT[t]? = some y := ⟨_, List.getElem?_eq_getElem (by rw [HLK.out]; exact htl)⟩
          obtain ⟨h, hh⟩ : ∃ h, hs[t]? = some h := ⟨_, List.getElem?_eq_getElem (by rw [HHL.out]; exact htl)⟩
          have hyy := O1.out.at' t h y hh hy
          have hby := HBO.out y (List.mem_of_getElem? hy)
          obtain ⟨ya, yc, rfl, hyc, _⟩ := hyy.len
          obtain ⟨yn, hyn⟩ : ∃ yn, y.length = yn := ⟨_, rfl⟩
          rw [hyn] at hh hyy hyc
          have HK := Lib.hid hh
          have HY := Lib.hid hy
          have HYY := Lib.hid hyy
          obtain ⟨ob, oc', eo, _, y0⟩ := O1.out.cells hh
          injection eo with eo1 eo2 eo3
          subst eo1
          subst eo3
          clear eo2
          obtain ⟨C, hC⟩ : ∃ C, cmpR r y = C := ⟨_, rfl⟩
          have HCC := Lib.hid hC
          have hbt : (t : Int) < (k : Int) := by omega
          have hbk : (k : Int) < (n : Int) := by omega
          have cA := qcall (P := Tryd.prog) (w := wr) fun W' hb' => refCmpR_is hC W' HBR.out hby ((HX.out.below bw1.out).below hb') ((hyy.below bw1.out).below hb')
          clear hy hh hyy hby hyn hC
          cases q with
          | true =>
            have HM2 := Lib.hid (mid_done HM.out HY.out)
            have m0 := cell_regrown x0
            have m1 := cell_regrown y0
            go_wp2_with fail
            refine wp_region_quiet_below (by kernel_rfl) (by kernel_rfl) ?_
            repeat (go_big_quiet_step (with_reducible (first | exact cA _ _)))
            refine wpQuiet_nil ?_
            intro _ hw'
            obtain ⟨⟨dq1, os1⟩, hw''⟩ := hw'
            subst hw''
            clear m0 m1 cA
            have hb3 := below_regrown wr dq1 os1
            generalize grow (redrawn wr dq1) os1 = w3 at hb3 ⊢
            replace N1 := Lib.hid (N1.out.below hb3)
            replace O1 := Lib.hid (O1.out.below hb3)
            replace bw1 := Lib.hid (two bw1.out hb3)
            replace hB1 := Nat.le_trans hB1 hb3.size
            replace x0 := (hb3.cell (by exact lt_of_cell x0)).trans x0
            replace y0 := (hb3.cell (by exact lt_of_cell y0)).trans y0
            go_wp2_with ((at_builtin; refine app_one rfl _ _ 32 35 rfl Tryd.underlying32 hi hz0 rfl hz1 hz2 (by decide) B u5 ns (.slice ya yn yc) rfl rfl N1.out.row rfl (by have := HNL.out; (try simp only [List.length_append, List.length_singleton]); omega) (by exact hB1) ?_; intro v2 w2 hown2 hgrow2; have N2 := Lib.hid (N1.out.snoc HYY.out hown2); have O2 := Lib.hid (O1.out.other hgrow2 (fun j hj => HBLK.out N1.out.row j hj)); have bw2 := Lib.hid (bw1.out.grown hgrow2 bw1.out.size (fun j hj => Nat.le_trans hB0 (N1.out.row.lt j hj).1)); have hB2 : B ≤ w2.heap.size := Nat.le_trans hB1 hgrow2.size))
            go_roundw
            case rel => exact ⟨t + 1, true, _, _, by omega, rfl, by go_num, hB2, N2.out, HM2.out, O2.out, bw2⟩
            case measure => simp [intOf]; omega
          | false =>
            by_cases hc0 : C < 0
            · have dC : decide (C < 0) = true := decide_eq_true hc0
              have HM2 := Lib.hid (mid_put HM.out HY.out (by rw [HCC.out]; exact hc0))
              have m0 := cell_regrown x0
              have m1 := cell_regrown y0
              clear hc0
              go_wp2_with fail
              refine wp_region_quiet_below (by kernel_rfl) (by kernel_rfl) ?_
              repeat (go_big_quiet_step (with_reducible (first | exact cA _ _)))
              refine wpQuiet_nil ?_
              intro _ hw'
              obtain ⟨⟨dq1, os1⟩, hw''⟩ := hw'
              subst hw''
              clear m0 m1 cA
              have hb3 := below_regrown wr dq1 os1
              generalize grow (redrawn wr dq1) os1 = w3 at hb3 ⊢
              replace N1 := Lib.hid (N1.out.below hb3)
              replace O1 := Lib.hid (O1.out.below hb3)
              replace bw1 := Lib.hid (two bw1.out hb3)
              replace hB1 := Nat.le_trans hB1 hb3.size
              replace x0 := (hb3.cell (by exact lt_of_cell x0)).trans x0
              replace y0 := (hb3.cell (by exact lt_of_cell y0)).trans y0
              go_wp2_with (first | (at_builtin; refine app_one rfl _ _ 32 35 rfl Tryd.underlying32 hi hz0 rfl hz1 hz2 (by decide) B u5 ns (.slice ra rn rc) rfl rfl N1.out.row rfl (by have := HNL.out; (try simp only [List.length_append, List.length_singleton]); omega) (by exact hB1) ?_; intro v2 w2 hown2 hgrow2; have N2 := Lib.hid (N1.out.snoc HX.out hown2); have O2 := Lib.hid (O1.out.other hgrow2 (fun j hj => HBLK.out N1.out.row j hj)); have bw2 := Lib.hid (bw1.out.grown hgrow2 bw1.out.size (fun j hj => Nat.le_trans hB0 (N1.out.row.lt j hj).1)); have hB2 : B ≤ w2.heap.size := Nat.le_trans hB1 hgrow2.size; have y2 := O2.out.cell HK.out) | (at_builtin; refine app_one rfl _ _ 32 35 rfl Tryd.underlying32 hi hz0 rfl hz1 hz2 (by decide) B v2 _ (.slice ya yn yc) rfl rfl N2.out.row rfl (by have := HNL.out; (try simp only [List.length_append, List.length_singleton]); omega) (by exact hB2) ?_; intro v3 w3 hown3 hgrow3; have N3 := Lib.hid (N2.out.snoc HYY.out hown3); have O3 := Lib.hid (O2.out.other hgrow3 (fun j hj => HBLK.out N2.out.row j hj)); have bw3 := Lib.hid (bw2.out.grown hgrow3 bw2.out.size (fun j hj => Nat.le_trans hB0 (N2.out.row.lt j hj).1)); have hB3 : B ≤ w3.heap.size := Nat.le_trans hB2 hgrow3.size))
              go_roundw
              case rel => exact ⟨t + 1, true, _, _, by omega, by go_num, by go_num, hB3, N3.out, HM2.out, O3.out, bw3⟩
              case measure => simp [intOf]; omega
            · have dC : decide (C < 0) = false := decide_eq_false hc0
              have HM2 := Lib.hid (mid_pass HM.out HY.out (by rw [HCC.out]; exact hc0))
              have m0 := cell_regrown x0
              have m1 := cell_regrown y0
              clear hc0
              go_wp2_with fail
              refine wp_region_quiet_below (by kernel_rfl) (by kernel_rfl) ?_
              repeat (go_big_quiet_step (with_reducible (first | exact cA _ _)))
              refine wpQuiet_nil ?_
              intro _ hw'
              obtain ⟨⟨dq1, os1⟩, hw''⟩ := hw'
              subst hw''
              clear m0 m1 cA
              have hb3 := below_regrown wr dq1 os1
              generalize grow (redrawn wr dq1) os1 = w3 at hb3 ⊢
              replace N1 := Lib.hid (N1.out.below hb3)
              replace O1 := Lib.hid (O1.out.below hb3)
              replace bw1 := Lib.hid (two bw1.out hb3)
              replace hB1 := Nat.le_trans hB1 hb3.size
              replace x0 := (hb3.cell (by exact lt_of_cell x0)).trans x0
              replace y0 := (hb3.cell (by exact lt_of_cell y0)).trans y0
              go_wp2_with ((at_builtin; refine app_one rfl _ _ 32 35 rfl Tryd.underlying32 hi hz0 rfl hz1 hz2 (by decide) B u5 ns (.slice ya yn yc) rfl rfl N1.out.row rfl (by have := HNL.out; (try simp only [List.length_append, List.length_singleton]); omega) (by exact hB1) ?_; intro v2 w2 hown2 hgrow2; have N2 := Lib.hid (N1.out.snoc HYY.out hown2); have O2 := Lib.hid (O1.out.other hgrow2 (fun j hj => HBLK.out N1.out.row j hj)); have bw2 := Lib.hid (bw1.out.grown hgrow2 bw1.out.size (fun j hj => Nat.le_trans hB0 (N1.out.row.lt j hj).1)); have hB2 : B ≤ w2.heap.size := Nat.le_trans hB1 hgrow2.size))
              go_roundw
              case rel => exact ⟨t + 1, false, _, _, by omega, rfl, by go_num, hB2, N2.out, HM2.out, O2.out, bw2⟩
              case measure => simp [intOf]; omega
        · have etk : t = OUT.length := by rw [HLK.out]; omega
          cases q with
          | true =>
            have HE : Hid (nl = sortR (rs.take (k + 1))) := by show _ = _; rw [HSN.out]; have := HM.out; rw [etk] at this; exact mid_end1 this
            clear etk
            go_wp2_with fail
            go_roundw
            case rel => exact ⟨k + 1, ns, by omega, by go_num, (by rw [← HE.out]; exact N1.out.base hB0 : Hd _ _ _ _ _ (sortR (rs.take (k + 1)))), bw1⟩
            case measure => simp [intOf]; omega
          | false =>
            have HE : Hid (nl ++ [r] = sortR (rs.take (k + 1))) := by show _ = _; rw [HSN.out]; have := HM.out; rw [etk] at this; exact mid_end0 this
            clear etk
            go_wp2_with ((at_builtin; refine app_one rfl _ _ 32 35 rfl Tryd.underlying32 hi hz0 rfl hz1 hz2 (by decide) B u5 ns (.slice ra rn rc) rfl rfl N1.out.row rfl (by have := HNL.out; (try simp only [List.length_append, List.length_singleton]); omega) (by exact hB1) ?_; intro v2 w2 hown2 hgrow2; have N2 := Lib.hid (N1.out.snoc HX.out hown2); have O2 := Lib.hid (O1.out.other hgrow2 (fun j hj => HBLK.out N1.out.row j hj)); have bw2 := Lib.hid (bw1.out.grown hgrow2 bw1.out.size (fun j hj => Nat.le_trans hB0 (N1.out.row.lt j hj).1)); have hB2 : B ≤ w2.heap.size := Nat.le_trans hB1 hgrow2.size))
            go_roundw
            case rel => exact ⟨k + 1, _, by omega, by go_num, (by rw [← HE.out]; exact N2.out.base hB0 : Hd _ _ _ _ _ (sortR (rs.take (k + 1)))), bw2⟩
            case measure => simp [intOf]; omega
    · obtain rfl : k = n := by omega
      go_wp2_with fail
      go_ret
      refine ⟨_, rfl, ?_, BW.out⟩
      have := HO.out.at BW.out
      rw [← HN.out, List.take_length] at this
      exact this
end Go.Proofs.YtfmjeggomphliaaDoor.Tb
