/- Walks: is a table right? -/
import Derived.Test.YtfmjeggomphliaaDoorTblWalk3
set_option linter.unusedVariables false
set_option linter.unusedSimpArgs false
namespace Go.Proofs.YtfmjeggomphliaaDoor.Tb
open Go.RowKit Go Go.Sort Ba Va Sr

/-- From a place on, the rows stand in their order. -/
def SrtFrom (rs : List (List Val)) (m : Nat) : Prop := ∀ (i : Nat) (a b : List Val), m ≤ i + 1 → rs[i]? = some a → rs[i + 1]? = some b → cmpR a b ≤ 0
set_option maxHeartbeats 1600000 in
theorem sorted_is (v : Value) (rs : List (List Val)) (q : Bool) (hq : srt rs = q) (w : World) (br : BdRs rs) (hv : RowsAt w v rs) :
    Calls Tryd.prog 43 #[v, .func (.func 39) #[] #[]] w fun e w' => e = .returned (.bool q) ∧ Below w.heap.size w w' := by
  obtain ⟨ao, cap, rfl, hcap, _⟩ := hv.len
  obtain ⟨n, hn⟩ : ∃ n, rs.length = n := ⟨_, rfl⟩
  have HV := Lib.hid hv
  have BR := Lib.hid br
  have HQ := Lib.hid hq
  have hl := br.len
  rw [hn] at hcap HV hl ⊢
  have HN := Lib.hid hn
  have w1 : IntKind.i64.wrap ((n : Int) - 1) = (n : Int) - 1 := by rw [IntWalk.i64_in _ (by omega)]
  clear hv br hn hq
  go_enter Tryd.func43, Tryd.ntmps43
  go_wp2_with fail
  go_loopw [5] (fun i wr => ∃ m : Nat, m ≤ n ∧ i = .int .i64 ((m : Int) - 1) ∧ Hid (SrtFrom rs m) ∧ Hid (Below w.heap.size w wr)) (fun i _ => (intOf i + 1).toNat)
  case atStart => exact ⟨n, Nat.le_refl _, rfl, (fun i a b h1 h2 h3 => by have := (List.getElem?_eq_some_iff.1 h3).1; have := HN.out; omega : SrtFrom rs n), Below.refl _ _⟩
  case round =>
    obtain ⟨m, hm, rfl, HF, BW⟩ := hrel
    by_cases h2 : 2 ≤ m
    · obtain ⟨p, rfl⟩ : ∃ p, m = p + 2 := ⟨m - 2, by omega⟩
      obtain ⟨a, ha⟩ : ∃ a, rs[p]? = some a := ⟨_, List.getElem?_eq_getElem (by rw [HN.out]; omega)⟩
      obtain ⟨b, hb⟩ : ∃ b, rs[p + 1]? = some b := ⟨_, List.getElem?_eq_getElem (by rw [HN.out]; omega)⟩
      obtain ⟨k, o, x, e1, hk, hc, hx⟩ := RowsAt.row HV.out ha
      obtain ⟨k2, o2, y, e2, _, hc2, hy⟩ := RowsAt.row HV.out hb
      subst e1
      cases e2
      replace hc := (BW.out.cell (by exact hk)).trans hc
      replace hc2 := (BW.out.cell (by exact hk)).trans hc2
      obtain ⟨c, hcc⟩ : ∃ c, cmpR b a = c := ⟨_, rfl⟩
      have cA := qcall (P := Tryd.prog) (w := wr) fun W' hb' => cmpr_is hcc W' (BR.out.row b (List.mem_of_getElem? hb)).len (BR.out.row a (List.mem_of_getElem? ha)).len ((hy.below BW.out).below hb') ((hx.below BW.out).below hb')
      have HA := Lib.hid ha
      have HB := Lib.hid hb
      have HC : Hid (cmpR a b = -c) := by show _ = _; rw [cmpR_swap, hcc]
      have m0 := cell_regrown hc
      have m1 := cell_regrown hc2
      have b1 : (p : Int) + 1 < (n : Int) := by omega
      have b0 : (p : Int) < (n : Int) := by omega
      rw [show (((p + 2 : Nat) : Int) - 1) = (p : Int) + 1 by omega]
      clear ha hb hx hy hcc hc hc2
      by_cases c0 : c < 0
      · have HR : Hid (q = false) := by
          show q = false
          cases hq : q with
          | false => rfl
          | true =>
            have := (srt_iff rs).1 (HQ.out.trans hq) p a b HA.out HB.out
            have := HC.out
            omega
        have d0 : decide (c < 0) = true := decide_eq_true c0
        go_wp2_with fail
        refine wp_region_quiet_below (by kernel_rfl) (by kernel_rfl) ?_
        repeat (go_big_quiet_step (with_reducible (first | exact cA _ _)))
        refine wpQuiet_nil ?_
        intro _ hw'
        obtain ⟨⟨dq1, os1⟩, hw''⟩ := hw'
        subst hw''
        have bw2 := two BW.out (below_regrown wr dq1 os1)
        go_wp2_with fail
        go_ret
        exact ⟨ret_bool HR.out.symm, bw2⟩
      · have HF2 : Hid (SrtFrom rs (p + 1)) := fun i a' b' g1 g2 g3 => by
          by_cases e : i = p
          · subst e
            rw [HA.out] at g2
            rw [HB.out] at g3
            cases g2; cases g3
            have := HC.out
            omega
          · exact HF.out i a' b' (by omega) g2 g3
        have d0 : decide (c < 0) = false := decide_eq_false c0
        go_wp2_with fail
        refine wp_region_quiet_below (by kernel_rfl) (by kernel_rfl) ?_
        repeat (go_big_quiet_step (with_reducible (first | exact cA _ _)))
        refine wpQuiet_nil ?_
        intro _ hw'
        obtain ⟨⟨dq1, os1⟩, hw''⟩ := hw'
        subst hw''
        have bw2 := two BW.out (below_regrown wr dq1 os1)
        clear m0 m1 cA
        go_wp2_with fail
        go_roundw
        case rel => exact ⟨p + 1, by omega, by congr 1; omega, HF2, bw2⟩
        case measure => simp [intOf]; try omega
    · have h0 : ¬ 0 < (m : Int) - 1 := by omega
      have HR : Hid (q = true) := by
        show q = true
        rw [← HQ.out]
        exact (srt_iff rs).2 fun i a b g2 g3 => HF.out i a b (by omega) g2 g3
      go_wp2_with fail
      go_ret
      exact ⟨ret_bool HR.out.symm, BW.out⟩
set_option maxHeartbeats 1600000 in
theorem tcheck_is {sv v : Value} {cs : List Col} {rs : List (List Val)} {E : Int} (hE : errT cs rs = E) (w : World) (bc : BdC cs) (br : BdRs rs) (hs : ColsAt w sv cs) (hv : RowsAt w v rs) :
    Calls Tryd.prog 20 #[.agg #[sv, v]] w fun e w' => e = .returned (.int .i64 E) ∧ Below w.heap.size w w' := by
  obtain ⟨F, hF⟩ : ∃ F, err cs rs = F := ⟨_, rfl⟩
  unfold errT at hE
  rw [hF] at hE
  obtain ⟨sao, scap, rfl, _, _⟩ := hs.len
  obtain ⟨ao, cap, rfl, _, _⟩ := hv.len
  have HS := Lib.hid hs
  have HV := Lib.hid hv
  have BR := Lib.hid br
  have BC := Lib.hid bc
  have B1 := Lib.hid (Box.new w [.slice sao cs.length scap, .slice ao rs.length cap] 26)
  have bw1 : Hid (Below w.heap.size w (w.alloc (.cells #[.slice sao cs.length scap, .slice ao rs.length cap] 26))) := (Below.refl _ _).alloc (Nat.le_refl _) _
  have HF := Lib.hid (fit_is hF (w.alloc (.cells #[.slice sao cs.length scap, .slice ao rs.length cap] 26)) bc br (hs.below bw1.out) (hv.below bw1.out))
  clear hs hv bc br hF
  by_cases f0 : F = 0
  · subst f0
    rw [if_neg (by simp)] at hE
    obtain ⟨q, hq⟩ : ∃ q, srt rs = q := ⟨_, rfl⟩
    rw [hq] at hE
    have HQ := Lib.hid hq
    clear hq
    cases q with
    | true =>
      have HR : Hid (E = 0) := by show E = 0; rw [← hE]; rfl
      clear hE
      go_enter Tryd.func20, Tryd.ntmps20
      go_wp2_with (first | (go_at_call 41; refine HF.out.mono ?_; rintro e w1 ⟨rfl, hb1⟩; obtain ⟨z0, z1, _, _⟩ := (B1.out.next hb1).two) | (go_at_call 43; refine (sorted_is _ rs _ HQ.out _ BR.out ((HV.out.below bw1.out).below hb1)).mono ?_; rintro e w2 ⟨rfl, hb2⟩))
      go_ret
      exact ⟨by rw [HR.out]; rfl, two (two bw1.out hb1) hb2⟩
    | false =>
      have HR : Hid (E = 20) := by show E = 20; rw [← hE]; rfl
      clear hE
      go_enter Tryd.func20, Tryd.ntmps20
      go_wp2_with (first | (go_at_call 41; refine HF.out.mono ?_; rintro e w1 ⟨rfl, hb1⟩; obtain ⟨z0, z1, _, _⟩ := (B1.out.next hb1).two) | (go_at_call 43; refine (sorted_is _ rs _ HQ.out _ BR.out ((HV.out.below bw1.out).below hb1)).mono ?_; rintro e w2 ⟨rfl, hb2⟩))
      go_ret
      exact ⟨by rw [HR.out]; rfl, two (two bw1.out hb1) hb2⟩
  · rw [if_pos f0] at hE
    subst hE
    have d0 : (F != 0) = true := by simpa using f0
    clear f0
    go_enter Tryd.func20, Tryd.ntmps20
    go_wp2_with (go_at_call 41; refine HF.out.mono ?_; rintro e w1 ⟨rfl, hb1⟩)
    go_ret
    exact ⟨rfl, two bw1.out hb1⟩
end Go.Proofs.YtfmjeggomphliaaDoor.Tb
