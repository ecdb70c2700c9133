/- Walks: is a table small; the statement TableCounts. -/
import Derived.Test.YtfmjeggomphliaaGreatDoorLawWalk1
set_option linter.unusedVariables false
set_option linter.unusedSimpArgs false
namespace Go.Proofs.YtfmjeggomphliaaGreatDoor.Tb
open Go.RowKit Go Go.Sort Ba Va Sr

set_option maxHeartbeats 6400000 in
theorem fitsL_any (v rv : Value) (cs : List Col) (r : List Val) (w : World) (hl : cs.length ≤ 4096) (hs : ∀ c ∈ cs, c.name.size ≤ 4096) (hv : ColsAt w v cs) (hr : RowAt w rv r) (hrs : ∀ x ∈ r, x.t.size ≤ 9223372036854775807) :
    Calls Tryz.prog 71 #[v, rv] w fun e w' => e = .returned (.bool (fits cs r)) ∧ Below w.heap.size w w' := by
  obtain ⟨E, hE⟩ : ∃ E, chk cs = E := ⟨_, rfl⟩
  have HCK := Lib.hid (check_is hE w hl hs hv)
  by_cases h0 : E = 0
  · subst h0
    have hf : fits cs r = fitL cs r := by unfold fits; rw [hE]; rfl
    rw [hf]
    obtain ⟨ao, cap, rfl, hcap, _⟩ := hv.len
    obtain ⟨ro, rcap, rfl, hrcap, _⟩ := hr.len
    obtain ⟨n, hn⟩ : ∃ n, cs.length = n := ⟨_, rfl⟩
    obtain ⟨m, hm⟩ : ∃ m, r.length = m := ⟨_, rfl⟩
    rw [hn] at hcap HCK hl ⊢
    rw [hm] at hrcap ⊢
    by_cases hmn : m = n
    · subst hmn
      obtain ⟨F, hF⟩ : ∃ F, fitL cs r = F := ⟨_, rfl⟩
      rw [hF]
      have HF := Lib.hid hF
      have HV := Lib.hid hv
      have HR := Lib.hid hr
      have HRS := Lib.hid hrs
      have HN := Lib.hid hn
      have HM := Lib.hid hm
      rw [hn] at HV
      rw [hm] at HR
      clear hF hv hr hrs hs hn hm hE hf
      go_enter Tryz.func71, Tryz.ntmps71
      go_wp2_with (go_at_call 66; refine HCK.out.mono ?_; rintro e w0 ⟨rfl, hb0⟩)
      have HB0 := Lib.hid hb0
      clear hb0
      go_loopw [19] (fun i wr => ∃ k : Nat, k ≤ m ∧ i = .int .i64 k ∧ Hid (Below w.heap.size w wr) ∧ Hid (fitL (cs.drop k) (r.drop k) = F)) (fun i _ => m - (intOf i).toNat)
      case atStart => exact ⟨0, Nat.zero_le _, rfl, HB0.out, HF.out⟩
      case round =>
        obtain ⟨k, hk, rfl, BW, HK⟩ := hrel
        clear HB0 HF HCK
        by_cases hlt : k < m
        · obtain ⟨c, hc⟩ : ∃ c, cs[k]? = some c := ⟨_, List.getElem?_eq_getElem (by rw [HN.out]; exact hlt)⟩
          obtain ⟨x, hx⟩ : ∃ x, r[k]? = some x := ⟨_, List.getElem?_eq_getElem (by rw [HM.out]; exact hlt)⟩
          have hst := fitL_at cs r k c x hc hx
          rw [HK.out] at hst
          have hsz := HRS.out x (List.mem_of_getElem? hx)
          obtain ⟨b, o, rfl, hb, _, x1⟩ := ColsAt.col HV.out hc
          obtain ⟨b2, o2, rfl, hb2, y0, y1, y2⟩ := RowAt.val HR.out hx
          replace x1 := (BW.out.cell (by exact hb)).trans x1
          replace y0 := (BW.out.cell (by exact hb2)).trans y0
          replace y1 := (BW.out.cell (by exact hb2)).trans y1
          replace y2 := (BW.out.cell (by exact hb2)).trans y2
          obtain ⟨T, hT⟩ : ∃ T, c.ty = T := ⟨_, rfl⟩
          obtain ⟨K, hK⟩ : ∃ K, x.k = K := ⟨_, rfl⟩
          obtain ⟨N, hN⟩ : ∃ N, x.n = N := ⟨_, rfl⟩
          obtain ⟨S, hS⟩ : ∃ S, x.t = S := ⟨_, rfl⟩
          have hfc : fitC c x = (rightB K N S && (decide (K = 0) || decide (K = T))) := by unfold fitC; rw [hT, hK, hN, hS]
          rw [hfc] at hst
          rw [hT] at x1
          rw [hK] at y0
          rw [hN] at y1
          rw [hS] at y2 hsz
          have HST := Lib.hid hst
          clear hst hc hx hT hK hN hS hfc
          -- the row's value lies in a box
          have V := Box.new wr [.int .i64 K, .int .i64 N, .string S] 47
          have bw1 := BW.out.alloc BW.out.size (.cells #[.int .i64 K, .int .i64 N, .string S] 47)
          have hbz : b < wr.heap.size := Nat.lt_of_lt_of_le hb BW.out.size
          have z1 := (World.cell?_alloc_past (.cells #[.int .i64 K, .int .i64 N, .string S] 47) _ _ hbz).trans x1
          have BW1 := Lib.hid bw1
          clear bw1
          obtain ⟨R, hR⟩ : ∃ R, rightB K N S = R := ⟨_, rfl⟩
          have HRT := Lib.hid (right_is' hR)
          rw [hR] at HST
          clear hR
          go_wp2_with fail
          clear x1 y0 y1 y2
          generalize wr.alloc (.cells #[.int .i64 K, .int .i64 N, .string S] 47) = W1 at *
          obtain ⟨v0, v1, v2, _, _, _⟩ := V.three
          have v0 := cell_regrown v0
          have v1 := cell_regrown v1
          have v2 := cell_regrown v2
          have z1 := cell_regrown z1
          have cA := qcall (P := Tryz.prog) (w := W1) fun W' hb => HRT.out W' (by omega)
          cases R with
          | false =>
            have HFF : Hid (F = false) := by show F = false; have := HST.out; simpa using this
            refine wp_region_quiet_below (by kernel_rfl) (by kernel_rfl) ?_
            repeat (go_big_quiet_step (with_reducible (first | exact cA _ _)))
            refine wpQuiet_nil ?_
            intro _ hw'
            obtain ⟨⟨dq1, os1⟩, hw''⟩ := hw'
            subst hw''
            go_wp2_with fail
            go_ret
            exact ⟨ret_bool HFF.out.symm, two BW1.out (below_regrown _ _ _)⟩
          | true =>
            by_cases k0 : K = 0
            · subst k0
              have HFF : Hid (fitL (cs.drop (k + 1)) (r.drop (k + 1)) = F) := by show _ = F; have := HST.out; simpa using this.symm
              refine wp_region_quiet_below (by kernel_rfl) (by kernel_rfl) ?_
              repeat (go_big_quiet_step (with_reducible (first | exact cA _ _)))
              refine wpQuiet_nil ?_
              intro _ hw'
              obtain ⟨⟨dq1, os1⟩, hw''⟩ := hw'
              subst hw''
              go_wp2_with fail
              go_roundw
              case rel => exact ⟨k + 1, by omega, by go_num, two BW1.out (below_regrown _ _ _), HFF⟩
              case measure => simp [intOf]; omega
            · have dk : (K != 0) = true := by simpa using k0
              have hbl : (k : Int) < (m : Int) := by omega
              by_cases kt : K = T
              · subst kt
                have HFF : Hid (fitL (cs.drop (k + 1)) (r.drop (k + 1)) = F) := by show _ = F; have := HST.out; simpa [k0] using this.symm
                clear k0
                refine wp_region_quiet_below (by kernel_rfl) (by kernel_rfl) ?_
                repeat (go_big_quiet_step (with_reducible (first | exact cA _ _)))
                refine wpQuiet_nil ?_
                intro _ hw'
                obtain ⟨⟨dq1, os1⟩, hw''⟩ := hw'
                subst hw''
                go_wp2_with fail
                go_roundw
                case rel => exact ⟨k + 1, by omega, by go_num, two BW1.out (below_regrown _ _ _), HFF⟩
                case measure => simp [intOf]; omega
              · have HFF : Hid (F = false) := by show F = false; have := HST.out; simpa [k0, kt] using this
                have dt : (K != T) = true := by simpa using kt
                clear k0 kt
                refine wp_region_quiet_below (by kernel_rfl) (by kernel_rfl) ?_
                repeat (go_big_quiet_step (with_reducible (first | exact cA _ _)))
                refine wpQuiet_nil ?_
                intro _ hw'
                obtain ⟨⟨dq1, os1⟩, hw''⟩ := hw'
                subst hw''
                go_wp2_with fail
                go_ret
                exact ⟨ret_bool HFF.out.symm, two BW1.out (below_regrown _ _ _)⟩
        · have ek : k = m := by omega
          have HR2 : Hid (F = true) := by show F = true; have := HK.out; rw [ek] at this; rw [← this, ← HM.out]; exact fitL_end cs r (by rw [HM.out, HN.out])
          clear ek
          go_wp2_with fail
          go_ret
          exact ⟨ret_bool HR2.out.symm, BW.out⟩
    · have hff : fitL cs r = false := fitL_ne (by omega)
      rw [hff]
      have d2 : ((m : Int) != (n : Int)) = true := by simp; omega
      clear hv hr hrs hs hn hm hE hf hff hmn
      go_enter Tryz.func71, Tryz.ntmps71
      go_wp2_with (go_at_call 66; refine HCK.out.mono ?_; rintro e w0 ⟨rfl, hb0⟩)
      go_ret
      exact ⟨rfl, hb0⟩
  · have hf : fits cs r = false := by unfold fits; rw [hE, decide_eq_false h0]; rfl
    rw [hf]
    have d0 : (E != 0) = true := by simpa using h0
    clear hv hr hrs hs hE hf h0
    go_enter Tryz.func71, Tryz.ntmps71
    go_wp2_with (go_at_call 66; refine HCK.out.mono ?_; rintro e w0 ⟨rfl, hb0⟩)
    go_ret
    exact ⟨rfl, hb0⟩
theorem fitsL_is {v rv : Value} {cs : List Col} {r : List Val} {q : Bool} (hq : fits cs r = q) (w : World) (hl : cs.length ≤ 4096) (hs : ∀ c ∈ cs, c.name.size ≤ 4096) (hv : ColsAt w v cs) (hr : RowAt w rv r) (hrs : ∀ x ∈ r, x.t.size ≤ 9223372036854775807) :
    Calls Tryz.prog 71 #[v, rv] w fun e w' => e = .returned (.bool q) ∧ Below w.heap.size w w' := by
  rw [← hq]; exact fitsL_any v rv cs r w hl hs hv hr hrs
/-- A table that is gone through. -/
structure Small (cs : List Col) (rs : List (List Val)) : Prop where
  c1 : cs.length ≤ 20
  c2 : ∀ c ∈ cs, c.name.size ≤ 100
  r1 : rs.length ≤ 60
  r2 : ∀ r ∈ rs, r.length ≤ 20
  r3 : ∀ r ∈ rs, ∀ x ∈ r, x.t.size ≤ 100
def Num (r : List Val) : Prop := ∀ x ∈ r, -9223372036854775808 ≤ x.n ∧ x.n ≤ 9223372036854775807
theorem Small.bc {cs : List Col} {rs : List (List Val)} (h : Small cs rs) : BdC cs := ⟨by have := h.c1; omega, fun c hc => by have := h.c2 c hc; omega⟩
theorem Small.br {cs : List Col} {rs : List (List Val)} (h : Small cs rs) (hn : ∀ r ∈ rs, Num r) : BdRs rs := ⟨by have := h.r1; omega, fun r hr => ⟨by have := h.r2 r hr; omega, fun x hx => by have := h.r3 r hr x hx; omega, hn r hr⟩⟩
theorem take_all {α : Type} {p : α → Prop} {l : List α} {k : Nat} {x : α} (h : ∀ y ∈ l.take k, p y) (hx : l[k]? = some x) (hp : p x) : ∀ y ∈ l.take (k + 1), p y := by
  rw [take_one l k x hx]
  intro y hy
  rcases List.mem_append.1 hy with hy | hy
  · exact h y hy
  · simp at hy; subst hy; exact hp
set_option maxHeartbeats 6400000 in
set_option maxRecDepth 100000 in
theorem small_is (sv v : Value) (cs : List Col) (rs : List (List Val)) (q : Bool) (hq : q = true ↔ Small cs rs) (w : World) (hs : ColsAt w sv cs) (hv : RowsAt w v rs) (h1 : ∀ c ∈ cs, c.name.size ≤ maxLen) (h2 : ∀ r ∈ rs, ∀ x ∈ r, x.t.size ≤ maxLen) :
    Calls Tryz.prog 12 #[.agg #[sv, v]] w fun e w' => e = .returned (.bool q) ∧ Below w.heap.size w w' := by
  obtain ⟨sao, scap, rfl, hsc, hsm⟩ := hs.len
  obtain ⟨ao, cap, rfl, hcp, hcm⟩ := hv.len
  obtain ⟨sn, hsn⟩ : ∃ sn, cs.length = sn := ⟨_, rfl⟩
  obtain ⟨n, hn⟩ : ∃ n, rs.length = n := ⟨_, rfl⟩
  unfold maxLen at hsm hcm h1 h2
  have HQ := Lib.hid hq
  have HS := Lib.hid hs
  have HV := Lib.hid hv
  have H1 := Lib.hid h1
  have H2 := Lib.hid h2
  rw [hsn] at hsc HS ⊢
  rw [hn] at hcp HV ⊢
  have HSN := Lib.hid hsn
  have HN := Lib.hid hn
  have NO : Hid (¬ Small cs rs → q = false) := fun h => by
    cases e : q with
    | false => rfl
    | true => exact absurd (HQ.out.1 e) h
  have B1 := Box.new w [.slice sao sn scap, .slice ao n cap] 27
  have bw1 : Hid (Below w.heap.size w (w.alloc (.cells #[.slice sao sn scap, .slice ao n cap] 27))) := (Below.refl _ _).alloc (Nat.le_refl _) _
  clear hq hs hv hsn hn h1 h2
  go_enter Tryz.func12, Tryz.ntmps12
  go_wp2_with fail
  obtain ⟨z0, z1, _, _⟩ := B1.two
  clear B1
  generalize w.alloc (.cells #[.slice sao sn scap, .slice ao n cap] 27) = W0 at *
  have HZ0 := Lib.hid z0
  have HZ1 := Lib.hid z1
  clear z0 z1
  go_loopw [12] (fun i wr => ∃ k : Nat, k ≤ sn ∧ i = .int .i64 k ∧ Hid (Below W0.heap.size W0 wr) ∧ Hid (∀ c ∈ cs.take k, c.name.size ≤ 100)) (fun i _ => sn - (intOf i).toNat)
  case atStart => exact ⟨0, Nat.zero_le _, rfl, Below.refl _ _, (by simp : ∀ c ∈ cs.take 0, c.name.size ≤ 100)⟩
  case round =>
    obtain ⟨k, hk, rfl, BW, HC⟩ := hrel
    by_cases hlt : k < sn
    · obtain ⟨c, hc⟩ : ∃ c, cs[k]? = some c := ⟨_, List.getElem?_eq_getElem (by rw [HSN.out]; exact hlt)⟩
      obtain ⟨b, o, rfl, hb, x0, x1⟩ := ColsAt.col HS.out hc
      replace x0 := ((two bw1.out BW.out).cell (by exact hb)).trans x0
      replace x1 := ((two bw1.out BW.out).cell (by exact hb)).trans x1
      have hsz := H1.out c (List.mem_of_getElem? hc)
      obtain ⟨S, hS⟩ : ∃ S, c.name = S := ⟨_, rfl⟩
      obtain ⟨Y, hY⟩ : ∃ Y, c.ty = Y := ⟨_, rfl⟩
      rw [hS] at x0 hsz
      rw [hY] at x1
      have HCC := Lib.hid hc
      have HSS := Lib.hid hS
      clear hc hS hY
      by_cases h100 : 100 < S.size
      · have HR : Hid (q = false) := NO.out (fun h => by have := h.c2 c (List.mem_of_getElem? HCC.out); rw [HSS.out] at this; omega)
        go_wp2_with fail
        go_ret
        exact ⟨ret_bool HR.out.symm, (two bw1.out BW.out).alloc (two bw1.out BW.out).size _⟩
      · have HC2 : Hid (∀ c ∈ cs.take (k + 1), c.name.size ≤ 100) := take_all HC.out HCC.out (by rw [HSS.out]; omega)
        go_wp2_with fail
        go_roundw
        case rel => exact ⟨k + 1, by omega, by go_num, BW.out.alloc BW.out.size _, HC2⟩
        case measure => simp [intOf]; omega
    · have HCA : Hid (∀ c ∈ cs, c.name.size ≤ 100) := by have := HC.out; rw [show k = sn by omega, ← HSN.out, List.take_length] at this; exact this
      have z1 := (BW.out.cell (by exact lt_of_cell HZ1.out)).trans HZ1.out
      clear HC
      go_wp2_with fail
      go_loopw [24] (fun i wr2 => ∃ k : Nat, k ≤ n ∧ i = .int .i64 k ∧ Hid (Below W0.heap.size W0 wr2) ∧ Hid (∀ r ∈ rs.take k, r.length ≤ 20 ∧ ∀ x ∈ r, x.t.size ≤ 100)) (fun i _ => n - (intOf i).toNat)
      case atStart => exact ⟨0, Nat.zero_le _, rfl, BW.out, (by simp : ∀ r ∈ rs.take 0, r.length ≤ 20 ∧ ∀ x ∈ r, x.t.size ≤ 100)⟩
      case round =>
        clear BW z1 hlt hk
        obtain ⟨k, hk, rfl, BW, HR⟩ := hrel
        by_cases hlt : k < n
        · obtain ⟨r, hr⟩ : ∃ r, rs[k]? = some r := ⟨_, List.getElem?_eq_getElem (by rw [HN.out]; exact hlt)⟩
          obtain ⟨b, o, x, rfl, hb, hc, hx⟩ := RowsAt.row HV.out hr
          replace hc := ((two bw1.out BW.out).cell (by exact hb)).trans hc
          obtain ⟨ra, rc, rfl, hrc, hrm⟩ := hx.len
          unfold maxLen at hrm
          have HRR := Lib.hid hr
          have HX := Lib.hid hx
          obtain ⟨m, hm⟩ : ∃ m, r.length = m := ⟨_, rfl⟩
          rw [hm] at hc hrc HX
          have HM := Lib.hid hm
          clear hr hx hm
          by_cases h20 : 20 < m
          · have HF : Hid (q = false) := NO.out (fun h => by have := h.r2 r (List.mem_of_getElem? HRR.out); rw [HM.out] at this; omega)
            go_wp2_with fail
            go_ret
            exact ⟨ret_bool HF.out.symm, two bw1.out BW.out⟩
          · go_wp2_with fail
            clear hc
            go_loopw [33] (fun i wr3 => ∃ t : Nat, t ≤ m ∧ i = .int .i64 t ∧ Hid (Below W0.heap.size W0 wr3) ∧ Hid (∀ x ∈ r.take t, x.t.size ≤ 100)) (fun i _ => m - (intOf i).toNat)
            case atStart => exact ⟨0, Nat.zero_le _, rfl, BW.out, (by simp : ∀ x ∈ r.take 0, x.t.size ≤ 100)⟩
            case round =>
              clear BW
              obtain ⟨t, ht, rfl, BW, HT⟩ := hrel
              by_cases htl : t < m
              · obtain ⟨x, hx⟩ : ∃ x, r[t]? = some x := ⟨_, List.getElem?_eq_getElem (by rw [HM.out]; exact htl)⟩
                obtain ⟨b2, o2, rfl, hb2, y0, y1, y2⟩ := RowAt.val HX.out hx
                replace y0 := ((two bw1.out BW.out).cell (by exact hb2)).trans y0
                replace y1 := ((two bw1.out BW.out).cell (by exact hb2)).trans y1
                replace y2 := ((two bw1.out BW.out).cell (by exact hb2)).trans y2
                have hsz := H2.out r (List.mem_of_getElem? HRR.out) x (List.mem_of_getElem? hx)
                obtain ⟨xk, hxk⟩ : ∃ q, x.k = q := ⟨_, rfl⟩
                obtain ⟨xn, hxn⟩ : ∃ q, x.n = q := ⟨_, rfl⟩
                obtain ⟨xt, hxt⟩ : ∃ q, x.t = q := ⟨_, rfl⟩
                rw [hxk] at y0
                rw [hxn] at y1
                rw [hxt] at y2 hsz
                have HXX := Lib.hid hx
                have HXT := Lib.hid hxt
                clear hx hxk hxn hxt
                by_cases h100 : 100 < xt.size
                · have HF : Hid (q = false) := NO.out (fun h => by have := h.r3 r (List.mem_of_getElem? HRR.out) x (List.mem_of_getElem? HXX.out); rw [HXT.out] at this; omega)
                  go_wp2_with fail
                  go_ret
                  exact ⟨ret_bool HF.out.symm, (two bw1.out BW.out).alloc (two bw1.out BW.out).size _⟩
                · have HT2 : Hid (∀ x ∈ r.take (t + 1), x.t.size ≤ 100) := take_all HT.out HXX.out (by rw [HXT.out]; omega)
                  go_wp2_with fail
                  go_roundw
                  case rel => exact ⟨t + 1, by omega, by go_num, BW.out.alloc BW.out.size _, HT2⟩
                  case measure => simp [intOf]; omega
              · have HTA : Hid (∀ x ∈ r, x.t.size ≤ 100) := by have := HT.out; rw [show t = m by omega, ← HM.out, List.take_length] at this; exact this
                have HR2 : Hid (∀ r ∈ rs.take (k + 1), r.length ≤ 20 ∧ ∀ x ∈ r, x.t.size ≤ 100) := take_all HR.out HRR.out ⟨by rw [HM.out]; omega, HTA.out⟩
                go_wp2_with fail
                go_roundw
                case rel => exact ⟨k + 1, by omega, by go_num, BW, HR2⟩
                case measure => simp [intOf]; omega
        · have HRA : Hid (∀ r ∈ rs, r.length ≤ 20 ∧ ∀ x ∈ r, x.t.size ≤ 100) := by have := HR.out; rw [show k = n by omega, ← HN.out, List.take_length] at this; exact this
          have z0 := (BW.out.cell (by exact lt_of_cell HZ0.out)).trans HZ0.out
          have z1 := (BW.out.cell (by exact lt_of_cell HZ1.out)).trans HZ1.out
          by_cases c20 : sn ≤ 20
          · by_cases r60 : n ≤ 60
            · have HF : Hid (q = true) := HQ.out.2 ⟨by rw [HSN.out]; exact c20, HCA.out, by rw [HN.out]; exact r60, fun r hr => (HRA.out r hr).1, fun r hr => (HRA.out r hr).2⟩
              go_wp2_with fail
              go_ret
              exact ⟨ret_bool (by rw [HF.out] <;> first | rfl | (simp; omega)), two bw1.out BW.out⟩
            · have HF : Hid (q = false) := NO.out (fun h => by have := h.r1; rw [HN.out] at this; omega)
              go_wp2_with fail
              go_ret
              exact ⟨ret_bool (by rw [HF.out] <;> first | rfl | (simp; omega)), two bw1.out BW.out⟩
          · have HF : Hid (q = false) := NO.out (fun h => by have := h.c1; rw [HSN.out] at this; omega)
            go_wp2_with fail
            go_ret
            exact ⟨ret_bool (by rw [HF.out] <;> first | rfl | (simp; omega)), two bw1.out BW.out⟩
end Go.Proofs.YtfmjeggomphliaaGreatDoor.Tb
