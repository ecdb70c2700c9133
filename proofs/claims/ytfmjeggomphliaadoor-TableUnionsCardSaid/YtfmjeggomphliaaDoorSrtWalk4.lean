/- Walks: the library's stable sort: a last one is merged into the half ahead of it. -/
import Derived.Test.YtfmjeggomphliaaDoorSrtWalk2
set_option linter.unusedVariables false
set_option linter.unusedSimpArgs false
namespace Go.Proofs.YtfmjeggomphliaaDoor.Sr
open Go.RowKit Go Go.Sort Ba Tb

set_option maxHeartbeats 6400000 in
set_option maxRecDepth 100000 in
theorem merge_last {w0 : World} {g : Nat} {S : Value → Prop} {cf : Value → Value → Int} (E : Env w0 g S cf) (hs : List Value) (a m b n cap : Nat) (w : World) (hn : hs.length = n) (h0 : SW w0 g hs w) (hS : All S hs) (ham : a + 1 < m) (hmb : b = m + 1) (hb : b ≤ n) (hl : n ≤ 100000) (hu : St.Up undef (ltf cf) hs a m) :
    Calls Tryd.prog 81 #[.slice (some ⟨g, 0, none⟩) n cap, .int .i64 a, .int .i64 m, .int .i64 b, .func (.func 39) #[] #[]] w (Sorts w0 g cf hs a b) := by
  have HE := Lib.hid E
  have H0 := Lib.hid h0
  have HS := Lib.hid hS
  have HN := Lib.hid hn
  have HM := Lib.hid hmb
  have HU := Lib.hid hu
  have mixed : Tryd.prog.follows .mixedOrders = true := by kernel_rfl
  have dm : ((m : Int) - (a : Int) == 1) = false := by
    rw [beq_eq_false_iff_ne]; omega
  have db : ((b : Int) - (m : Int) == 1) = true := by
    rw [beq_iff_eq]; omega
  have mn : m < n := by omega
  clear E h0 hS hn hu hmb
  go_enter Tryd.func81, Tryd.ntmps81
  go_wp2_with fail
  go_loopw [14, 15] (fun vi vj wr => ∃ (i j : Nat), vi = .int .i64 i ∧ vj = .int .i64 j ∧ a ≤ i ∧ i ≤ j ∧ j ≤ m ∧ Hid (SW w0 g hs wr) ∧ Hid (St.SrL undef (ltf cf) hs a m i j)) (fun vi vj _ => (intOf vj).toNat - (intOf vi).toNat)
  case atStart => exact ⟨a, m, rfl, rfl, Nat.le_refl _, by omega, Nat.le_refl _, H0, (⟨fun k h1 h2 => by omega, fun k h1 h2 => by omega⟩ : St.SrL undef (ltf cf) hs a m a m)⟩
  case round =>
    clear H0
    obtain ⟨i, j, rfl, rfl, hmi, hij, hjb, H1, R1⟩ := hrel
    by_cases hlt : i < j
    · obtain ⟨h, hh⟩ : ∃ h, h = (i + j) / 2 := ⟨_, rfl⟩
      have eh : ((i : Int) + (j : Int)) / 2 = (h : Int) := by omega
      have h1 : i ≤ h := by omega
      have h2 : h < j := by omega
      have hlt' : (i : Int) < (j : Int) := by omega
      obtain ⟨x, hx⟩ : ∃ x, at' hs m = x := ⟨_, rfl⟩
      obtain ⟨y, hy⟩ : ∃ y, at' hs h = y := ⟨_, rfl⟩
      have l1 := H1.out.cell m (by have := HN.out; omega)
      have l0 := H1.out.cell h (by have := HN.out; omega)
      rw [hx] at l1
      rw [hy] at l0
      have hxS : S x := by rw [← hx]; exact HS.out _ (by have := HN.out; omega)
      have hyS : S y := by rw [← hy]; exact HS.out _ (by have := HN.out; omega)
      obtain ⟨c, hc⟩ : ∃ c, cf x y = c := ⟨_, rfl⟩
      have cA := cmp_of HE.out H1.out hxS hyS hc
      have HC : Hid (ltf cf (at' hs m) (at' hs h) = decide (c < 0)) := by show _ = _; unfold ltf; rw [hx, hy, hc]
      have b1 : (m : Int) < (n : Int) := by omega
      have b0 : (h : Int) < (n : Int) := by omega
      have m1 := cell_regrown l1
      have m0 := cell_regrown l0
      clear hx hy hc hxS hyS hh l1 l0
      by_cases c0 : c < 0
      · have d0 : decide (c < 0) = true := decide_eq_true c0
        have RR : Hid (St.SrL undef (ltf cf) hs a m i h) := St.SrL.yes undef (ltf cf) HE.out.ord (fun k g1 g2 => HS.out k (by have := HN.out; omega)) HU.out R1.out h1 (by omega) hmi (by show ltf cf (at' hs m) (at' hs h) = true; rw [HC.out]; exact d0)
        go_wp2_with fail
        refine wp_region_quiet_below (by kernel_rfl) (by kernel_rfl) ?_
        repeat (go_big_quiet_step (with_reducible (first | exact cA _ _)))
        refine wpQuiet_nil ?_
        intro _ hw'
        obtain ⟨⟨dq1, os1⟩, hw''⟩ := hw'
        subst hw''
        have H2 := Lib.hid (H1.out.below (below_regrown wr dq1 os1))
        clear H1 cA m1 m0
        generalize grow (redrawn wr dq1) os1 = w2 at *
        go_wp2_with fail
        go_roundw
        case rel => exact ⟨i, h, rfl, rfl, by omega, by omega, by omega, H2, RR⟩
        case measure => simp [intOf]; omega
      · have d0 : decide (c < 0) = false := decide_eq_false c0
        have RR : Hid (St.SrL undef (ltf cf) hs a m (h + 1) j) := St.SrL.no undef (ltf cf) HE.out.ord (fun k g1 g2 => HS.out k (by have := HN.out; omega)) HU.out R1.out h1 (by omega) hmi (by show ltf cf (at' hs m) (at' hs h) = false; rw [HC.out]; exact d0)
        go_wp2_with fail
        refine wp_region_quiet_below (by kernel_rfl) (by kernel_rfl) ?_
        repeat (go_big_quiet_step (with_reducible (first | exact cA _ _)))
        refine wpQuiet_nil ?_
        intro _ hw'
        obtain ⟨⟨dq1, os1⟩, hw''⟩ := hw'
        subst hw''
        have H2 := Lib.hid (H1.out.below (below_regrown wr dq1 os1))
        clear H1 cA m1 m0
        generalize grow (redrawn wr dq1) os1 = w2 at *
        go_wp2_with fail
        go_roundw
        case rel => exact ⟨h + 1, j, by go_num, rfl, by omega, by omega, hjb, H2, RR⟩
        case measure => simp [intOf]; omega
    · obtain rfl : i = j := by omega
      go_wp2_with fail
      go_loopw [17] (fun vk wr2 => ∃ (q : Nat) (hk : List Value), vk = .int .i64 q ∧ i ≤ q ∧ q ≤ m ∧ Hid (SW w0 g hk wr2) ∧ Hid (hk.Perm hs) ∧ Hid (∀ k, St.gt undef hk k = St.ShL m (m - q) (St.gt undef hs) k)) (fun vk _ => (intOf vk).toNat)
      case atStart => exact ⟨m, hs, rfl, hjb, Nat.le_refl _, H1, List.Perm.refl _, (by rw [Nat.sub_self]; exact St.shL_zero m _ : ∀ k, St.gt undef hs k = St.ShL m (m - m) (St.gt undef hs) k)⟩
      case round =>
        clear H1
        obtain ⟨q, hk, rfl, hiq, hqm, H2, P2, T2⟩ := hrel
        have HL2 : Hid (hk.length = n) := P2.out.length_eq.trans HN.out
        have HS2 : Hid (All S hk) := HS.out.perm P2.out
        by_cases hlt2 : i < q
        · obtain ⟨p, rfl⟩ : ∃ p, q = p + 1 := ⟨q - 1, by omega⟩
          have hq1 : (i : Int) < (p : Int) + 1 := by omega
          have l1 := H2.out.cell (p + 1) (by have := HL2.out; omega)
          have l0 := H2.out.cell p (by have := HL2.out; omega)
          obtain ⟨xa, xn, xc, hx⟩ := HE.out.sh _ (HS2.out (p + 1) (by have := HL2.out; omega))
          obtain ⟨ya, yn, yc, hy⟩ := HE.out.sh _ (HS2.out p (by have := HL2.out; omega))
          rw [hx] at l1
          rw [hy] at l0
          have HX := Lib.hid hx
          have HY := Lib.hid hy
          have b1 : (p : Int) + 1 < (n : Int) := by omega
          have b0 : (p : Int) < (n : Int) := by omega
          have f1 := H2.out.free (p + 1) (by have := HL2.out; omega)
          have f0 := H2.out.free p (by have := HL2.out; omega)
          have k0 := (World.cell?_setCell_other wr ⟨g, p + 1, none⟩ ⟨g, p, none⟩ (.slice ya yn yc) (by intro e; simp only [Addr.mk.injEq] at e; omega)).trans l0
          have HJ3 : Hid (SW w0 g (St.sw undef hk (p + 1) p) ((wr.setCell ⟨g, p + 1, none⟩ (.slice ya yn yc)).setCell ⟨g, p, none⟩ (.slice xa xn xc)).drew) := (H2.out.swap (p + 1) p (by have := HL2.out; omega) (by have := HL2.out; omega) _ _ HY.out HX.out).drew
          clear hx hy
          go_wp2_with fail
          go_big_region_o
          clear l1 l0 f1 f0 k0 H2
          generalize ((wr.setCell ⟨g, p + 1, none⟩ (.slice ya yn yc)).setCell ⟨g, p, none⟩ (.slice xa xn xc)).drew = w3 at HJ3 ⊢
          go_wp2_with fail
          go_roundw
          case rel => exact ⟨p, _, rfl, by omega, by omega, HJ3, (St.sw_perm undef (by have := HL2.out; omega) (by have := HL2.out; omega)).trans P2.out, (by
            have hst := St.shL_step undef (xs := hk) (m := m) (t := m - (p + 1)) (by have := HL2.out; omega) (by omega) T2.out
            rw [show m - (m - (p + 1)) = p + 1 by omega, show p + 1 - 1 = p by omega, show m - (p + 1) + 1 = m - p by omega] at hst
            exact hst : ∀ k, St.gt undef (St.sw undef hk (p + 1) p) k = St.ShL m (m - p) (St.gt undef hs) k)⟩
          case measure => simp [intOf]
        · obtain rfl : q = i := by omega
          go_wp2_with fail
          go_end0
          refine ⟨rfl, hk, H2.out, ⟨P2.out, fun k hkk => ?_⟩, by have := HM.out; rw [this]; exact St.merge_left undef (ltf cf) HE.out.ord (i := q) (fun k g1 g2 => HS.out k (by have := HN.out; omega)) HU.out R1.out hmi hqm T2.out⟩
          rw [T2.out]
          unfold St.ShL
          have := HM.out
          rw [if_neg (by omega), if_neg (by omega)]
end Go.Proofs.YtfmjeggomphliaaDoor.Sr
