/- Walks: rows that fit columns. -/
import Derived.Test.YtfmjeggomphliaaGreatDoorChkWalk
import Derived.Test.YtfmjeggomphliaaGreatDoorBase
set_option linter.unusedVariables false
set_option linter.unusedSimpArgs false
namespace Go.Proofs.YtfmjeggomphliaaGreatDoor.Tb
open Go.RowKit Go Go.Sort Ba Va

/-- A slice value reads as this row of values. -/
def RowAt (W : World) (v : Value) (r : List Val) : Prop := SlAt W v 3 (r.map vc)
theorem RowAt.below {W W' : World} {v : Value} {r : List Val} (h : RowAt W v r) (hb : Below W.heap.size W W') : RowAt W' v r := SlAt.below h hb
theorem RowAt.len {W : World} {v : Value} {r : List Val} (h : RowAt W v r) : ∃ ao cap, v = .slice ao r.length cap ∧ r.length ≤ cap ∧ cap ≤ maxLen := by
  have := SlAt.len h
  rwa [List.length_map] at this
theorem RowAt.val {W : World} {ao : Option Addr} {n cap k : Nat} {r : List Val} {x : Val} (h : RowAt W (.slice ao n cap) r) (hx : r[k]? = some x) :
    ∃ b o, ao = some ⟨b, o, none⟩ ∧ b < W.heap.size ∧ W.cell? ⟨b, o + k * 3, none⟩ = some (.int .i64 x.k) ∧ W.cell? ⟨b, o + k * 3 + 1, none⟩ = some (.int .i64 x.n) ∧ W.cell? ⟨b, o + k * 3 + 2, none⟩ = some (.string x.t) := by
  obtain ⟨b, o, e, hlt, hc⟩ := SlAt.cells h (i := k) (x := vc x) (by rw [List.getElem?_map, hx]; rfl)
  exact ⟨b, o, e, hlt, hc 0 (by decide), hc 1 (by decide), hc 2 (by decide)⟩
theorem right_is' {k n : Int} {s : ByteArray} {b : Bool} (hb : rightB k n s = b) (w : World) (hs : s.size ≤ 9223372036854775807) :
    Calls Tryz.prog 86 #[.agg #[.int .i64 k, .int .i64 n, .string s]] w fun e w' => e = .returned (.bool b) ∧ Below w.heap.size w w' := by
  rw [← hb]; exact right_any k n s w hs
set_option maxHeartbeats 6400000 in
theorem fits_any (v rv : Value) (cs : List Col) (r : List Val) (w : World) (hl : cs.length ≤ 4096) (hs : ∀ c ∈ cs, c.name.size ≤ 4096) (hv : ColsAt w v cs) (hr : RowAt w rv r) (hrs : ∀ x ∈ r, x.t.size ≤ 4096) :
    Calls Tryz.prog 71 #[v, rv] w fun e w' => e = .returned (.bool (fits cs r)) ∧ Below w.heap.size w w' := by
  obtain ⟨E, hE⟩ : ∃ E, chk cs = E := ⟨_, rfl⟩
  have HCK := Lib.hid (check_is hE w hl hs hv)
  by_cases h0 : E = 0
  · subst h0
    have hf : fits cs r = fitL cs r := by unfold fits; rw [hE]; rfl
    rw [hf]
    obtain ⟨ao, cap, rfl, hcap, _⟩ := hv.len
    obtain ⟨ro, rcap, rfl, hrcap, _⟩ := hr.len
    obtain ⟨n, hn⟩ : ∃ n, cs.length = n := ⟨_, rfl⟩
    obtain ⟨m, hm⟩ : ∃ m, r.length = m := ⟨_, rfl⟩
    rw [hn] at hcap HCK hl ⊢
    rw [hm] at hrcap ⊢
    by_cases hmn : m = n
    · subst hmn
      obtain ⟨F, hF⟩ : ∃ F, fitL cs r = F := ⟨_, rfl⟩
      rw [hF]
      have HF := Lib.hid hF
      have HV := Lib.hid hv
      have HR := Lib.hid hr
      have HRS := Lib.hid hrs
      have HN := Lib.hid hn
      have HM := Lib.hid hm
      rw [hn] at HV
      rw [hm] at HR
      clear hF hv hr hrs hs hn hm hE hf
      go_enter Tryz.func71, Tryz.ntmps71
      go_wp2_with (go_at_call 66; refine HCK.out.mono ?_; rintro e w0 ⟨rfl, hb0⟩)
      have HB0 := Lib.hid hb0
      clear hb0
      go_loopw [19] (fun i wr => ∃ k : Nat, k ≤ m ∧ i = .int .i64 k ∧ Hid (Below w.heap.size w wr) ∧ Hid (fitL (cs.drop k) (r.drop k) = F)) (fun i _ => m - (intOf i).toNat)
      case atStart => exact ⟨0, Nat.zero_le _, rfl, HB0.out, HF.out⟩
      case round =>
        obtain ⟨k, hk, rfl, BW, HK⟩ := hrel
        clear HB0 HF HCK
        by_cases hlt : k < m
        · obtain ⟨c, hc⟩ : ∃ c, cs[k]? = some c := ⟨_, List.getElem?_eq_getElem (by rw [HN.out]; exact hlt)⟩
          obtain ⟨x, hx⟩ : ∃ x, r[k]? = some x := ⟨_, List.getElem?_eq_getElem (by rw [HM.out]; exact hlt)⟩
          have hst := fitL_at cs r k c x hc hx
          rw [HK.out] at hst
          have hsz := HRS.out x (List.mem_of_getElem? hx)
          obtain ⟨b, o, rfl, hb, _, x1⟩ := ColsAt.col HV.out hc
          obtain ⟨b2, o2, rfl, hb2, y0, y1, y2⟩ := RowAt.val HR.out hx
          replace x1 := (BW.out.cell (by exact hb)).trans x1
          replace y0 := (BW.out.cell (by exact hb2)).trans y0
          replace y1 := (BW.out.cell (by exact hb2)).trans y1
          replace y2 := (BW.out.cell (by exact hb2)).trans y2
          obtain ⟨T, hT⟩ : ∃ T, c.ty = T := ⟨_, rfl⟩
          obtain ⟨K, hK⟩ : ∃ K, x.k = K := ⟨_, rfl⟩
          obtain ⟨N, hN⟩ : ∃ N, x.n = N := ⟨_, rfl⟩
          obtain ⟨S, hS⟩ : ∃ S, x.t = S := ⟨_, rfl⟩
          have hfc : fitC c x = (rightB K N S && (decide (K = 0) || decide (K = T))) := by unfold fitC; rw [hT, hK, hN, hS]
          rw [hfc] at hst
          rw [hT] at x1
          rw [hK] at y0
          rw [hN] at y1
          rw [hS] at y2 hsz
          have HST := Lib.hid hst
          clear hst hc hx hT hK hN hS hfc
          -- the row's value lies in a box
          have V := Box.new wr [.int .i64 K, .int .i64 N, .string S] 47
          have bw1 := BW.out.alloc BW.out.size (.cells #[.int .i64 K, .int .i64 N, .string S] 47)
          have hbz : b < wr.heap.size := Nat.lt_of_lt_of_le hb BW.out.size
          have z1 := (World.cell?_alloc_past (.cells #[.int .i64 K, .int .i64 N, .string S] 47) _ _ hbz).trans x1
          have BW1 := Lib.hid bw1
          clear bw1
          obtain ⟨R, hR⟩ : ∃ R, rightB K N S = R := ⟨_, rfl⟩
          have HRT := Lib.hid (right_is' hR)
          rw [hR] at HST
          clear hR
          go_wp2_with fail
          clear x1 y0 y1 y2
          generalize wr.alloc (.cells #[.int .i64 K, .int .i64 N, .string S] 47) = W1 at *
          obtain ⟨v0, v1, v2, _, _, _⟩ := V.three
          have v0 := cell_regrown v0
          have v1 := cell_regrown v1
          have v2 := cell_regrown v2
          have z1 := cell_regrown z1
          have cA := qcall (P := Tryz.prog) (w := W1) fun W' hb => HRT.out W' (by omega)
          cases R with
          | false =>
            have HFF : Hid (F = false) := by show F = false; have := HST.out; simpa using this
            refine wp_region_quiet_below (by kernel_rfl) (by kernel_rfl) ?_
            repeat (go_big_quiet_step (with_reducible (first | exact cA _ _)))
            refine wpQuiet_nil ?_
            intro _ hw'
            obtain ⟨⟨dq1, os1⟩, hw''⟩ := hw'
            subst hw''
            go_wp2_with fail
            go_ret
            exact ⟨ret_bool HFF.out.symm, two BW1.out (below_regrown _ _ _)⟩
          | true =>
            by_cases k0 : K = 0
            · subst k0
              have HFF : Hid (fitL (cs.drop (k + 1)) (r.drop (k + 1)) = F) := by show _ = F; have := HST.out; simpa using this.symm
              refine wp_region_quiet_below (by kernel_rfl) (by kernel_rfl) ?_
              repeat (go_big_quiet_step (with_reducible (first | exact cA _ _)))
              refine wpQuiet_nil ?_
              intro _ hw'
              obtain ⟨⟨dq1, os1⟩, hw''⟩ := hw'
              subst hw''
              go_wp2_with fail
              go_roundw
              case rel => exact ⟨k + 1, by omega, by go_num, two BW1.out (below_regrown _ _ _), HFF⟩
              case measure => simp [intOf]; omega
            · have dk : (K != 0) = true := by simpa using k0
              have hbl : (k : Int) < (m : Int) := by omega
              by_cases kt : K = T
              · subst kt
                have HFF : Hid (fitL (cs.drop (k + 1)) (r.drop (k + 1)) = F) := by show _ = F; have := HST.out; simpa [k0] using this.symm
                clear k0
                refine wp_region_quiet_below (by kernel_rfl) (by kernel_rfl) ?_
                repeat (go_big_quiet_step (with_reducible (first | exact cA _ _)))
                refine wpQuiet_nil ?_
                intro _ hw'
                obtain ⟨⟨dq1, os1⟩, hw''⟩ := hw'
                subst hw''
                go_wp2_with fail
                go_roundw
                case rel => exact ⟨k + 1, by omega, by go_num, two BW1.out (below_regrown _ _ _), HFF⟩
                case measure => simp [intOf]; omega
              · have HFF : Hid (F = false) := by show F = false; have := HST.out; simpa [k0, kt] using this
                have dt : (K != T) = true := by simpa using kt
                clear k0 kt
                refine wp_region_quiet_below (by kernel_rfl) (by kernel_rfl) ?_
                repeat (go_big_quiet_step (with_reducible (first | exact cA _ _)))
                refine wpQuiet_nil ?_
                intro _ hw'
                obtain ⟨⟨dq1, os1⟩, hw''⟩ := hw'
                subst hw''
                go_wp2_with fail
                go_ret
                exact ⟨ret_bool HFF.out.symm, two BW1.out (below_regrown _ _ _)⟩
        · have ek : k = m := by omega
          have HR2 : Hid (F = true) := by show F = true; have := HK.out; rw [ek] at this; rw [← this, ← HM.out]; exact fitL_end cs r (by rw [HM.out, HN.out])
          clear ek
          go_wp2_with fail
          go_ret
          exact ⟨ret_bool HR2.out.symm, BW.out⟩
    · have hff : fitL cs r = false := fitL_ne (by omega)
      rw [hff]
      have d2 : ((m : Int) != (n : Int)) = true := by simp; omega
      clear hv hr hrs hs hn hm hE hf hff hmn
      go_enter Tryz.func71, Tryz.ntmps71
      go_wp2_with (go_at_call 66; refine HCK.out.mono ?_; rintro e w0 ⟨rfl, hb0⟩)
      go_ret
      exact ⟨rfl, hb0⟩
  · have hf : fits cs r = false := by unfold fits; rw [hE, decide_eq_false h0]; rfl
    rw [hf]
    have d0 : (E != 0) = true := by simpa using h0
    clear hv hr hrs hs hE hf h0
    go_enter Tryz.func71, Tryz.ntmps71
    go_wp2_with (go_at_call 66; refine HCK.out.mono ?_; rintro e w0 ⟨rfl, hb0⟩)
    go_ret
    exact ⟨rfl, hb0⟩
theorem fits_is {v rv : Value} {cs : List Col} {r : List Val} {q : Bool} (hq : fits cs r = q) (w : World) (hl : cs.length ≤ 4096) (hs : ∀ c ∈ cs, c.name.size ≤ 4096) (hv : ColsAt w v cs) (hr : RowAt w rv r) (hrs : ∀ x ∈ r, x.t.size ≤ 4096) :
    Calls Tryz.prog 71 #[v, rv] w fun e w' => e = .returned (.bool q) ∧ Below w.heap.size w w' := by
  rw [← hq]; exact fits_any v rv cs r w hl hs hv hr hrs
end Go.Proofs.YtfmjeggomphliaaGreatDoor.Tb
