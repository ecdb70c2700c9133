/- Walks: how often is a row there? -/
import Derived.Test.YtfmjeggomphliaaGreatDoorTblWalk11
set_option linter.unusedVariables false
set_option linter.unusedSimpArgs false
namespace Go.Proofs.YtfmjeggomphliaaGreatDoor.Tb
open Go.RowKit Go Go.Sort Ba Va Sr

set_option maxHeartbeats 1600000 in
theorem count_is (sv rv u : Value) (rs : List (List Val)) (r : List Val) (w : World) (br : BdRs rs) (hr : r.length ≤ 4096) (hso : Sorted rs) (hsh : ∃ ao n c, sv = .slice ao n c) (hv : RowsAt w rv rs) (hu : RowAt w u r) :
    Calls Tryz.prog 20 #[.agg #[sv, rv], u] w fun e w' => e = .returned (.int .i64 (cnt r rs : Nat)) ∧ Below w.heap.size w w' := by
  obtain ⟨sa, sn, sc, rfl⟩ := hsh
  obtain ⟨ao, cap, rfl, hcap, _⟩ := hv.len
  obtain ⟨bo, bcap, rfl, _, _⟩ := hu.len
  obtain ⟨n, hn⟩ : ∃ n, rs.length = n := ⟨_, rfl⟩
  have hl := br.len
  have HV := Lib.hid hv
  have HU := Lib.hid hu
  have BR := Lib.hid br
  have HSO := Lib.hid hso
  have HRL := Lib.hid hr
  have B1 := Lib.hid (Box.new w [.slice sa sn sc, .slice ao rs.length cap] 27)
  have bw1 : Hid (Below w.heap.size w (w.alloc (.cells #[.slice sa sn sc, .slice ao rs.length cap] 27))) := (Below.refl _ _).alloc (Nat.le_refl _) _
  have HSR := Lib.hid (search_is _ _ rs r (w.alloc (.cells #[.slice sa sn sc, .slice ao rs.length cap] 27)) br hr hso (hv.below bw1.out) (hu.below bw1.out))
  rw [hn] at hcap hl HV B1 bw1 HSR ⊢
  have HN := Lib.hid hn
  have HEQ : Hid (∀ (k : Nat) (wr : World), Below w.heap.size w wr → k < n → ∃ x b o, rs[k]? = some x ∧ ao = some ⟨b, o, none⟩ ∧ ∃ h, wr.cell? ⟨b, o + k, none⟩ = some h ∧ ∀ (q : Bool), (x = r ↔ q = true) → Calls Tryz.prog 41 #[h, .slice bo r.length bcap] wr fun e w' => e = .returned (.bool q) ∧ Below wr.heap.size wr w') := fun k wr BW hk => by
    obtain ⟨x, hx⟩ : ∃ x, rs[k]? = some x := ⟨_, List.getElem?_eq_getElem (by rw [HN.out]; exact hk)⟩
    obtain ⟨b, o, h, e1, hb, hc, hh⟩ := RowsAt.row HV.out hx
    exact ⟨x, b, o, hx, e1, h, (BW.cell (by exact hb)).trans hc, fun q hq => rowEq_is _ _ x r q hq wr (BR.out.row x (List.mem_of_getElem? hx)).len HRL.out (hh.below BW) (HU.out.below BW)⟩
  obtain ⟨rl, hrl⟩ : ∃ rl, r.length = rl := ⟨_, rfl⟩
  rw [hrl] at HSR HEQ ⊢
  clear hv hu br hso hn hr hrl
  cases ao with
  | none =>
    have hn0 : n = 0 := by
      rcases Nat.eq_zero_or_pos n with h | h
      · exact h
      · obtain ⟨x, b, o, _, e, _⟩ := HEQ.out 0 w (Below.refl _ _) h
        cases e
    subst hn0
    have hrs : rs = [] := List.eq_nil_of_length_eq_zero HN.out
    have hz : Hid (cnt r rs = 0) := by show _ = _; rw [hrs]; rfl
    clear HEQ hrs
    go_enter Tryz.func20, Tryz.ntmps20
    go_wp2_with (go_at_call 46; refine HSR.out.mono ?_; rintro e w1 ⟨f, q, hf, rfl, hb1⟩; obtain rfl : f = 0 := (by have := hf.1; rw [HN.out] at this; omega); obtain ⟨z0, z1, _, _⟩ := (B1.out.next hb1).two; clear hf)
    refine wp_loop_rounds 1 ?_
    rw [rounds_succ]
    go_wp2_with fail
    go_ret
    exact ⟨by rw [hz.out]; rfl, two bw1.out hb1⟩
  | some p =>
    obtain ⟨pb, po, psp⟩ := p
    go_enter Tryz.func20, Tryz.ntmps20
    go_wp2_with (go_at_call 46; refine HSR.out.mono ?_; rintro e w1 ⟨f, q, hf, rfl, hb1⟩; obtain ⟨z0, z1, _, _⟩ := (B1.out.next hb1).two; have hfn : f ≤ n := (by have := hf.1; rw [HN.out] at this; exact this); have HFP := Lib.hid hf; clear hf)
    case inl =>
      have hz : cnt r rs = 0 := by
        have h1 := cnt_run HSO.out f f (Nat.le_refl _) HFP.out.1 HFP.out.2.1 (fun i x g1 g2 => by omega) (fun x hx => by have := (List.getElem?_eq_some_iff.1 hx).1; rw [HN.out] at this; omega) HFP.out.2.2
        rw [h1]; omega
      have HZ := Lib.hid hz
      have e0 : n - f = 0 := by omega
      rw [e0]
      clear hz
      refine wp_loop_rounds 1 ?_
      rw [rounds_succ]
      go_wp2_with fail
      go_ret
      exact ⟨by rw [HZ.out]; rfl, two bw1.out hb1⟩
    case inr =>
      have bw2 := Lib.hid (two bw1.out hb1)
      clear z0 z1 hb1 HSR B1 bw1
      by_cases hfl : f < n
      · obtain ⟨x0, b0, o0, _, e0, _⟩ := HEQ.out f w1 bw2.out hfl
        cases e0
        rw [Addr.add_lit]
        obtain ⟨m, hm⟩ : ∃ m, m = n - f := ⟨_, rfl⟩
        rw [← hm]
        have HMM := Lib.hid hm
        have hmn : m ≤ n := by omega
        have hmf : m + f ≤ 10000 := by omega
        clear hm
        go_loopw [7, 22] (fun c i wr => ∃ k : Nat, k ≤ m ∧ c = .int .i64 k ∧ i = .int .i64 k ∧ Hid (Below w.heap.size w wr) ∧ Hid (∀ (i : Nat) (x : List Val), f ≤ i → i < f + k → rs[i]? = some x → x = r)) (fun c i _ => m - (intOf i).toNat)
        case atStart => exact ⟨0, Nat.zero_le _, rfl, rfl, bw2.out, (fun i x g1 g2 => by omega : ∀ (i : Nat) (x : List Val), f ≤ i → i < f + 0 → rs[i]? = some x → x = r)⟩
        case round =>
          obtain ⟨k, hk, rfl, rfl, BW, HK⟩ := hrel
          by_cases hlt : k < m
          · obtain ⟨x, b, o, hx, e1, h, hc, hcall⟩ := HEQ.out (f + k) wr BW.out (by have := HMM.out; omega)
            cases e1
            rw [← Nat.add_assoc] at hc
            have HX := Lib.hid hx
            clear hx
            by_cases hxr : x = r
            · have HC := Lib.hid (hcall true (by simp [hxr]))
              have HK2 : Hid (∀ (i : Nat) (y : List Val), f ≤ i → i < f + (k + 1) → rs[i]? = some y → y = r) := fun i y g1 g2 hy => by
                by_cases e : i = f + k
                · subst e
                  rw [HX.out] at hy
                  cases hy
                  exact hxr
                · exact HK.out i y g1 (by omega) hy
              clear hcall hxr
              go_wp2_with (go_at_call 41; refine HC.out.mono ?_; rintro e w3 ⟨rfl, hb3⟩)
              go_roundw
              case rel => exact ⟨k + 1, by omega, by go_num, by go_num, two BW.out hb3, HK2⟩
              case measure => simp [intOf]; omega
            · have HC := Lib.hid (hcall false (by simp [hxr]))
              have hz : cnt r rs = k := by
                have h1 := cnt_run HSO.out f (f + k) (by omega) (by have := HMM.out; rw [HN.out]; omega) HFP.out.2.1 HK.out (fun y hy => ⟨by omega, by rw [HX.out] at hy; cases hy; exact hxr⟩) HFP.out.2.2
                rw [h1]; omega
              have HZ := Lib.hid hz
              clear hcall hxr hz
              go_wp2_with (go_at_call 41; refine HC.out.mono ?_; rintro e w3 ⟨rfl, hb3⟩)
              go_ret
              exact ⟨by rw [HZ.out]; rfl, two BW.out hb3⟩
          · obtain rfl : k = m := by omega
            have hz : cnt r rs = k := by
              have h1 := cnt_run HSO.out f (f + k) (by omega) (by have := HMM.out; rw [HN.out]; omega) HFP.out.2.1 HK.out (fun y hy => by have := (List.getElem?_eq_some_iff.1 hy).1; have h2 := HMM.out; rw [HN.out] at this; omega) HFP.out.2.2
              rw [h1]; omega
            have HZ := Lib.hid hz
            clear hz
            go_wp2_with fail
            go_ret
            exact ⟨by rw [HZ.out]; rfl, BW.out⟩
      · have hz : cnt r rs = 0 := by
          have h1 := cnt_run HSO.out f f (Nat.le_refl _) HFP.out.1 HFP.out.2.1 (fun i x g1 g2 => by omega) (fun x hx => by have := (List.getElem?_eq_some_iff.1 hx).1; rw [HN.out] at this; omega) HFP.out.2.2
          rw [h1]; omega
        have HZ := Lib.hid hz
        have e0 : n - f = 0 := by omega
        rw [e0]
        clear hz
        refine wp_loop_rounds 1 ?_
        rw [rounds_succ]
        go_wp2_with fail
        go_ret
        exact ⟨by rw [HZ.out]; rfl, bw2.out⟩
end Go.Proofs.YtfmjeggomphliaaGreatDoor.Tb
