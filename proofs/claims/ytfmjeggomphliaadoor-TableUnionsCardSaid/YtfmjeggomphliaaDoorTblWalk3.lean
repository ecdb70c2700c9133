/- Walks: do rows fit columns; do they stand in their order. -/
import Derived.Test.YtfmjeggomphliaaDoorTblWalk2
set_option linter.unusedVariables false
set_option linter.unusedSimpArgs false
namespace Go.Proofs.YtfmjeggomphliaaDoor.Tb
open Go.RowKit Go Go.Sort Ba Va Sr

/-- A row of no great size. -/
structure BdR (r : List Val) : Prop where
  len : r.length ≤ 4096
  txt : ∀ x ∈ r, x.t.size ≤ 4096
  num : ∀ x ∈ r, -9223372036854775808 ≤ x.n ∧ x.n ≤ 9223372036854775807
/-- Columns of no great size. -/
structure BdC (cs : List Col) : Prop where
  len : cs.length ≤ 4096
  name : ∀ c ∈ cs, c.name.size ≤ 4096
/-- Rows of no great size. -/
structure BdRs (rs : List (List Val)) : Prop where
  len : rs.length ≤ 10000
  row : ∀ r ∈ rs, BdR r
set_option maxHeartbeats 800000 in
theorem test_is {sv rv : Value} {cs : List Col} {r : List Val} {q : Bool} (hq : fits cs r = q) (B : Nat) (w : World) (bc : BdC cs) (br : BdR r) (hB : Box w B [sv]) (hv : ColsAt w sv cs) (hr : RowAt w rv r) :
    Calls Tryd.prog 63 #[rv, .pointer (some ⟨B, 0, none⟩)] w fun e w' => e = .returned (.bool (!q)) ∧ Below w.heap.size w w' := by
  have h0 := hB.cl 0 _ rfl
  have HF := Lib.hid (fits_is hq w bc.len bc.name hv hr br.txt)
  obtain ⟨ao, cap, rfl, _, _⟩ := hv.len
  clear hq hv hr bc br hB
  go_enter Tryd.func63, Tryd.ntmps63
  go_wp2_with (go_at_call 11; refine HF.out.mono ?_; rintro e w1 ⟨rfl, hb1⟩)
  go_ret
  exact ⟨rfl, hb1⟩
/-- What the search for a row that doesn't fit tells. -/
def Missing (cs : List Col) (rs : List (List Val)) (w : World) (e : Ending) (w' : World) : Prop := ∃ i : Int, e = .returned (.int .i64 i) ∧ ((i = -1 ∧ rs.all (fits cs) = true) ∨ (0 ≤ i ∧ rs.all (fits cs) = false)) ∧ Below w.heap.size w w'
set_option maxHeartbeats 1600000 in
theorem indexR_is (sv v : Value) (cs : List Col) (rs : List (List Val)) (B : Nat) (w : World) (bc : BdC cs) (br : BdRs rs) (hB : Box w B [sv]) (hs : ColsAt w sv cs) (hv : RowsAt w v rs) :
    Calls Tryd.prog 79 #[v, .func (.func 63) #[] #[.pointer (some ⟨B, 0, none⟩)]] w (Missing cs rs w) := by
  obtain ⟨ao, cap, rfl, hcap, _⟩ := hv.len
  obtain ⟨n, hn⟩ : ∃ n, rs.length = n := ⟨_, rfl⟩
  have HV := Lib.hid hv
  have HS := Lib.hid hs
  have HBX := Lib.hid hB
  have BC := Lib.hid bc
  have BR := Lib.hid br
  have hl := br.len
  rw [hn] at hcap HV hl ⊢
  have HN := Lib.hid hn
  clear hv hs hB bc br hn
  go_enter Tryd.func79, Tryd.ntmps79
  go_wp2_with fail
  go_loopw [8] (fun i wr => ∃ k : Nat, k ≤ n ∧ i = .int .i64 k ∧ Hid ((rs.take k).all (fits cs) = true) ∧ Hid (Below w.heap.size w wr)) (fun i _ => n - (intOf i).toNat)
  case atStart => exact ⟨0, Nat.zero_le _, rfl, (by rfl : (rs.take 0).all (fits cs) = true), Below.refl _ _⟩
  case round =>
    obtain ⟨k, hk, rfl, HA, BW⟩ := hrel
    by_cases hlt : k < n
    · obtain ⟨r, hr⟩ : ∃ r, rs[k]? = some r := ⟨_, List.getElem?_eq_getElem (by rw [HN.out]; exact hlt)⟩
      obtain ⟨b, o, x, rfl, hb, hc, hx⟩ := RowsAt.row HV.out hr
      replace hc := (BW.out.cell (by exact hb)).trans hc
      have hm := List.mem_of_getElem? hr
      obtain ⟨q, hq⟩ : ∃ q, fits cs r = q := ⟨_, rfl⟩
      have HT := Lib.hid (test_is hq B wr BC.out (BR.out.row r hm) (HBX.out.next BW.out) (HS.out.below BW.out) (hx.below BW.out))
      have HR := Lib.hid hr
      have HM := Lib.hid hm
      have HQ := Lib.hid hq
      clear hr hx hm hq
      cases q with
      | false =>
        go_wp2_with (go_at_call 63; refine HT.out.mono ?_; rintro e w1 ⟨rfl, hb1⟩)
        go_ret
        exact ⟨k, rfl, .inr ⟨by omega, List.all_eq_false.2 ⟨r, HM.out, by rw [HQ.out]; decide⟩⟩, two BW.out hb1⟩
      | true =>
        have HA2 : Hid ((rs.take (k + 1)).all (fits cs) = true) := by show _ = _; rw [take_one rs k r HR.out, List.all_append, HA.out]; simp [HQ.out]
        go_wp2_with (go_at_call 63; refine HT.out.mono ?_; rintro e w1 ⟨rfl, hb1⟩)
        go_roundw
        case rel => exact ⟨k + 1, by omega, by go_num, HA2, two BW.out hb1⟩
        case measure => simp [intOf]; omega
    · obtain rfl : k = n := by omega
      go_wp2_with fail
      go_ret
      refine ⟨-1, rfl, .inl ⟨rfl, ?_⟩, BW.out⟩
      have := HA.out
      rwa [← HN.out, List.take_length] at this
theorem contains_is (sv v : Value) (cs : List Col) (rs : List (List Val)) (q : Bool) (hq : rs.all (fits cs) = q) (B : Nat) (w : World) (bc : BdC cs) (br : BdRs rs) (hB : Box w B [sv]) (hs : ColsAt w sv cs) (hv : RowsAt w v rs) :
    Calls Tryd.prog 62 #[v, .func (.func 63) #[] #[.pointer (some ⟨B, 0, none⟩)]] w fun e w' => e = .returned (.bool (!q)) ∧ Below w.heap.size w w' := by
  have HI := Lib.hid (indexR_is sv v cs rs B w bc br hB hs hv)
  have HQ := Lib.hid hq
  obtain ⟨ao, cap, rfl, _, _⟩ := hv.len
  clear hq bc br hB hs hv
  go_enter Tryd.func62, Tryd.ntmps62
  go_wp2_with (go_at_call 79; refine HI.out.mono ?_; rintro e w1 ⟨i, rfl, hi, hb1⟩; have HHI := Lib.hid hi; clear hi)
  go_ret
  refine ⟨ret_bool ?_, hb1⟩
  rcases HHI.out with ⟨rfl, h⟩ | ⟨h0, h⟩
  · rw [← HQ.out, h]; rfl
  · rw [← HQ.out, h]; exact decide_eq_true h0
theorem all_fits {cs : List Col} {rs : List (List Val)} (h : chk cs = 0) : rs.all (fits cs) = rs.all (fitL cs) := by
  congr 1
  funext r
  unfold fits
  rw [h]; rfl
set_option maxHeartbeats 1600000 in
theorem fit_is {sv v : Value} {cs : List Col} {rs : List (List Val)} {E : Int} (hE : err cs rs = E) (w : World) (bc : BdC cs) (br : BdRs rs) (hs : ColsAt w sv cs) (hv : RowsAt w v rs) :
    Calls Tryd.prog 41 #[sv, v] w fun e w' => e = .returned (.int .i64 E) ∧ Below w.heap.size w w' := by
  obtain ⟨C, hC⟩ : ∃ C, chk cs = C := ⟨_, rfl⟩
  have hC2 := hC
  unfold err at hE
  rw [hC] at hE
  obtain ⟨sao, scap, rfl, _, _⟩ := hs.len
  obtain ⟨ao, cap, rfl, hcap, _⟩ := hv.len
  obtain ⟨n, hn⟩ : ∃ n, rs.length = n := ⟨_, rfl⟩
  have hl := br.len
  rw [hn] at hE hcap hl ⊢
  have HS := Lib.hid hs
  have HV := Lib.hid hv
  have BC := Lib.hid bc
  have BR := Lib.hid br
  have B1 := Lib.hid (Box.new w [.slice sao cs.length scap] 23)
  have bw1 : Hid (Below w.heap.size w (w.alloc (.cells #[.slice sao cs.length scap] 23))) := (Below.refl _ _).alloc (Nat.le_refl _) _
  have HC := Lib.hid (check_is hC (w.alloc (.cells #[.slice sao cs.length scap] 23)) bc.len bc.name (hs.below bw1.out))
  rw [hn] at HV
  clear hs hv bc br hC hn
  by_cases c0 : C = 0
  · subst c0
    rw [if_neg (by simp)] at hE
    by_cases c1 : 4096 < n
    · rw [if_pos c1] at hE
      subst hE
      go_enter Tryd.func41, Tryd.ntmps41
      go_wp2_with (go_at_call 32; refine HC.out.mono ?_; rintro e w1 ⟨rfl, hb1⟩)
      go_ret
      exact ⟨rfl, two bw1.out hb1⟩
    · rw [if_neg c1, ← all_fits hC2] at hE
      obtain ⟨q, hq⟩ : ∃ q, rs.all (fits cs) = q := ⟨_, rfl⟩
      rw [hq] at hE
      have HQ := Lib.hid hq
      have HE := Lib.hid hE
      clear hq hC2 hE
      cases q with
      | true =>
        have HR : Hid (E = 0) := by show E = 0; rw [← HE.out]; rfl
        go_enter Tryd.func41, Tryd.ntmps41
        go_wp2_with (first | (go_at_call 32; refine HC.out.mono ?_; rintro e w1 ⟨rfl, hb1⟩) | (go_at_call 62; refine (contains_is _ _ cs rs _ HQ.out w.heap.size _ BC.out BR.out (B1.out.next hb1) ((HS.out.below bw1.out).below hb1) ((HV.out.below bw1.out).below hb1)).mono ?_; rintro e w2 ⟨rfl, hb2⟩))
        go_ret
        exact ⟨by rw [HR.out]; rfl, two (two bw1.out hb1) hb2⟩
      | false =>
        have HR : Hid (E = 12) := by show E = 12; rw [← HE.out]; rfl
        go_enter Tryd.func41, Tryd.ntmps41
        go_wp2_with (first | (go_at_call 32; refine HC.out.mono ?_; rintro e w1 ⟨rfl, hb1⟩) | (go_at_call 62; refine (contains_is _ _ cs rs _ HQ.out w.heap.size _ BC.out BR.out (B1.out.next hb1) ((HS.out.below bw1.out).below hb1) ((HV.out.below bw1.out).below hb1)).mono ?_; rintro e w2 ⟨rfl, hb2⟩))
        go_ret
        exact ⟨by rw [HR.out]; rfl, two (two bw1.out hb1) hb2⟩
  · rw [if_pos c0] at hE
    subst hE
    have d0 : (C != 0) = true := by simpa using c0
    clear c0
    go_enter Tryd.func41, Tryd.ntmps41
    go_wp2_with (go_at_call 32; refine HC.out.mono ?_; rintro e w1 ⟨rfl, hb1⟩)
    go_ret
    exact ⟨rfl, two bw1.out hb1⟩
end Go.Proofs.YtfmjeggomphliaaDoor.Tb
