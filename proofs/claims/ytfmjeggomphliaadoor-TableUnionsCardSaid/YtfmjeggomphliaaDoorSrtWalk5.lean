/- Walks: the library's stable sort: two halves merged in place, the first half the longer. -/
import Derived.Test.YtfmjeggomphliaaDoorSrtParts
set_option linter.unusedVariables false
set_option linter.unusedSimpArgs false
namespace Go.Proofs.YtfmjeggomphliaaDoor.Sr
open Go.RowKit Go Go.Sort Ba Tb

set_option maxHeartbeats 30000000 in
set_option maxRecDepth 100000 in
theorem merge_hi {w0 : World} {g : Nat} {S : Value → Prop} {cf : Value → Value → Int} (E : Env w0 g S cf) (sz n cap : Nat) (ih : MergeOk w0 g S cf sz n cap) (hs : List Value) (a m b : Nat) (w : World) (hn : hs.length = n) (h0 : SW w0 g hs w) (hS : All S hs) (ham : a + 1 < m) (hmb : m + 1 < b) (hb : b ≤ n) (hl : n ≤ 100000) (hsz : b - a ≤ sz) (hu : St.Up undef (ltf cf) hs a m) (hv : St.Up undef (ltf cf) hs m b) (hmid : (a + b) / 2 < m) :
    Calls Tryd.prog 81 #[.slice (some ⟨g, 0, none⟩) n cap, .int .i64 a, .int .i64 m, .int .i64 b, .func (.func 39) #[] #[]] w (Sorts w0 g cf hs a b) := by
  have HE := Lib.hid E
  have H0 := Lib.hid h0
  have HS := Lib.hid hS
  have HN := Lib.hid hn
  have HU := Lib.hid hu
  have HV := Lib.hid hv
  have IH := Lib.hid ih
  have HSZ := Lib.hid hsz
  obtain ⟨mid, hm⟩ : ∃ mid, mid = (a + b) / 2 := ⟨_, rfl⟩
  rw [← hm] at hmid
  obtain ⟨N, hN⟩ : ∃ N, N = mid + m := ⟨_, rfl⟩
  obtain ⟨p, hp⟩ : ∃ p, p = N - 1 := ⟨_, rfl⟩
  obtain ⟨s0, hs0⟩ : ∃ s0, s0 = N - b := ⟨_, rfl⟩
  obtain ⟨r0, hr0⟩ : ∃ r0, r0 = mid := ⟨_, rfl⟩
  have eS : (N : Int) - (b : Int) = (s0 : Int) := by omega
  have wS : IntKind.i64.wrap ((N : Int) - (b : Int)) = (s0 : Int) := by rw [IntWalk.i64_in _ (by omega)]; exact eS
  have emid : ((a : Int) + (b : Int)) / 2 = (mid : Int) := by omega
  have eN : (mid : Int) + (m : Int) = (N : Int) := by omega
  have eP : (N : Int) - 1 = (p : Int) := by omega
  have wN : IntKind.i64.wrap ((mid : Int) + (m : Int)) = (N : Int) := by rw [IntWalk.i64_in _ (by omega)]; exact eN
  have wP : IntKind.i64.wrap ((N : Int) - 1) = (p : Int) := by rw [IntWalk.i64_in _ (by omega)]; exact eP
  have HK : Hid (mid = (a + b) / 2 ∧ N = mid + m ∧ p = N - 1 ∧ (mid < m ∧ s0 = N - b ∧ r0 = mid) ∧ a < mid ∧ mid < b) := ⟨hm, hN, hp, ⟨hmid, hs0, hr0⟩, by omega, by omega⟩
  have dm : ((m : Int) - (a : Int) == 1) = false := by
    rw [beq_eq_false_iff_ne]; omega
  have db : ((b : Int) - (m : Int) == 1) = false := by
    rw [beq_eq_false_iff_ne]; omega
  have hmid' : (mid : Int) < (m : Int) := by omega
  have pn : p < 200000 := by omega
  clear E h0 hS hn hu hv ih hm hN hp hsz hs0
  go_enter Tryd.func81, Tryd.ntmps81
  go_wp2_with fail
  clear emid eN eP wN wP dm db hmid'
  go_loopw [20, 21] (fun vi vr wr => ∃ (i r : Nat), vi = .int .i64 i ∧ vr = .int .i64 r ∧ s0 ≤ i ∧ i ≤ r ∧ r ≤ r0 ∧ Hid (SW w0 g hs wr) ∧ Hid (St.SrM undef (ltf cf) hs p s0 r0 i r)) (fun vi vr _ => (intOf vr).toNat - (intOf vi).toNat)
  case atStart => exact ⟨s0, r0, by first | rfl | (congr 1; omega), by rw [hr0], Nat.le_refl _, by have := HK.out; omega, Nat.le_refl _, H0, (⟨fun h => by omega, fun h => by omega⟩ : St.SrM undef (ltf cf) hs p s0 r0 s0 r0)⟩
  case round =>
    clear H0
    obtain ⟨i, r, rfl, rfl, hsi, hir, hrr, H1, R1⟩ := hrel
    by_cases hlt : i < r
    · obtain ⟨h, hh⟩ : ∃ h, h = (i + r) / 2 := ⟨_, rfl⟩
      obtain ⟨d, hd⟩ : ∃ d, d = p - h := ⟨_, rfl⟩
      have eh : ((i : Int) + (r : Int)) / 2 = (h : Int) := by omega
      have h1 : i ≤ h := by omega
      have h2 : h < r := by omega
      have hdn : d < n := by have := HK.out; omega
      have hhn : h < n := by have := HK.out; omega
      have ed : (p : Int) - (h : Int) = (d : Int) := by have := HK.out; omega
      have wd : IntKind.i64.wrap ((p : Int) - (h : Int)) = (d : Int) := by rw [IntWalk.i64_in _ (by omega)]; exact ed
      have hlt' : (i : Int) < (r : Int) := by omega
      obtain ⟨x, hx⟩ : ∃ x, at' hs d = x := ⟨_, rfl⟩
      obtain ⟨y, hy⟩ : ∃ y, at' hs h = y := ⟨_, rfl⟩
      have l1 := H1.out.cell d (by have := HN.out; omega)
      have l0 := H1.out.cell h (by have := HN.out; omega)
      rw [hx] at l1
      rw [hy] at l0
      have hxS : S x := by rw [← hx]; exact HS.out _ (by have := HN.out; omega)
      have hyS : S y := by rw [← hy]; exact HS.out _ (by have := HN.out; omega)
      obtain ⟨c, hc⟩ : ∃ c, cf x y = c := ⟨_, rfl⟩
      have cA := cmp_of HE.out H1.out hxS hyS hc
      have HC : Hid (ltf cf (at' hs (p - h)) (at' hs h) = decide (c < 0)) := by show _ = _; unfold ltf; rw [← hd, hx, hy, hc]
      have b1 : (d : Int) < (n : Int) := by omega
      have b0 : (h : Int) < (n : Int) := by omega
      have m1 := cell_regrown l1
      have m0 := cell_regrown l0
      clear hx hy hc hxS hyS hh l1 l0 hd
      by_cases c0 : c < 0
      · have d0 : decide (c < 0) = true := decide_eq_true c0
        have RR : Hid (St.SrM undef (ltf cf) hs p s0 r0 i h) := ⟨R1.out.1, fun _ => by show ltf cf (at' hs (p - h)) (at' hs h) = true; rw [HC.out]; exact d0⟩
        go_wp2_with fail
        refine wp_region_quiet_below (by kernel_rfl) (by kernel_rfl) ?_
        repeat (go_big_quiet_step (with_reducible (first | exact cA _ _)))
        refine wpQuiet_nil ?_
        intro _ hw'
        obtain ⟨⟨dq1, os1⟩, hw''⟩ := hw'
        subst hw''
        have H2 := Lib.hid (H1.out.below (below_regrown wr dq1 os1))
        clear H1 cA m1 m0
        generalize grow (redrawn wr dq1) os1 = w2 at *
        go_wp2_with fail
        go_roundw
        case rel => exact ⟨i, h, rfl, rfl, by omega, by omega, by omega, H2, RR⟩
        case measure => simp [intOf]; omega
      · have d0 : decide (c < 0) = false := decide_eq_false c0
        have RR : Hid (St.SrM undef (ltf cf) hs p s0 r0 (h + 1) r) := ⟨fun _ => by rw [Nat.add_sub_cancel]; show ltf cf (at' hs (p - h)) (at' hs h) = false; rw [HC.out]; exact d0, R1.out.2⟩
        go_wp2_with fail
        refine wp_region_quiet_below (by kernel_rfl) (by kernel_rfl) ?_
        repeat (go_big_quiet_step (with_reducible (first | exact cA _ _)))
        refine wpQuiet_nil ?_
        intro _ hw'
        obtain ⟨⟨dq1, os1⟩, hw''⟩ := hw'
        subst hw''
        have H2 := Lib.hid (H1.out.below (below_regrown wr dq1 os1))
        clear H1 cA m1 m0
        generalize grow (redrawn wr dq1) os1 = w2 at *
        go_wp2_with fail
        go_roundw
        case rel => exact ⟨h + 1, r, by go_num, rfl, by omega, by omega, hrr, H2, RR⟩
        case measure => simp [intOf]; omega
    · obtain ⟨s, hs'⟩ : ∃ s, s = i := ⟨_, rfl⟩
      obtain rfl : r = s := by omega
      obtain rfl : r = i := by omega
      obtain ⟨s, hss⟩ : ∃ s, s = r := ⟨_, rfl⟩
      subst hss
      clear hs' hir hlt
      obtain ⟨e, he⟩ : ∃ e, e = N - s := ⟨_, rfl⟩
      have HF : Hid (a ≤ s ∧ s ≤ m ∧ m ≤ e ∧ e ≤ b ∧ e - m = mid - s ∧ s ≤ mid ∧ mid ≤ e ∧ a < mid ∧ mid < b ∧ a + 1 < m ∧ m + 1 < b ∧ b - a ≤ sz ∧ b ≤ n) := by
        have := HK.out
        have := HSZ.out
        show _ ∧ _
        omega
      have PARTS : Hid (∀ ys, (∀ k, St.gt undef ys k = St.Rot s m e (St.gt undef hs) k) → Parts cf ys a s mid e b) := fun ys hy => by
        obtain ⟨f1, f2, f3, f4, f5, f6, _⟩ := HF.out
        have hk := HK.out
        have h3 := St.rot_parts undef (ltf cf) HE.out.ord (xs := hs) (ys := ys) (a := a) (m := m) (b := b) (mid := mid) (s := s) (e := e) (fun k g1 g2 => HS.out k (by have := HN.out; omega)) HU.out HV.out f1 f2 f3 f4 f5 f6
          (fun q1 q2 => by have := R1.out.1 (by omega); rw [show p - (s - 1) = e by omega] at this; exact this) (fun q1 q2 => by have := R1.out.2 (by omega); rw [show p - s = e - 1 by omega] at this; exact this) hy
        exact ⟨h3.1, h3.2.1, h3.2.2.1, h3.2.2.2.1, h3.2.2.2.2⟩
      have eE : (N : Int) - (s : Int) = (e : Int) := by have := HK.out; have := HF.out; omega
      have wE : IntKind.i64.wrap ((N : Int) - (s : Int)) = (e : Int) := by rw [IntWalk.i64_in _ (by have := HK.out; omega)]; exact eE
      have hss' : ¬ (s : Int) < (s : Int) := by omega
      have en : e ≤ n := by have := HF.out; omega
      clear he R1
      by_cases g1 : s < m
      · by_cases g2 : m < e
        · by_cases g3 : a < s
          · by_cases g6 : e < b
            · have g4 : s < mid := by have := HF.out; omega
              have g5 : mid < e := by have := HF.out; omega
              have tokL : True := trivial
              have tokR : True := trivial
              go_wp2_with (first | (go_at_call 88; refine (rotate_is HE.out hs s m e n cap _ HN.out H1.out HS.out (by omega) (by omega) (by have := HF.out; omega) hl).mono ?_; rintro e1 w1 ⟨rfl, hs1, S1, T1⟩; have P1 := Lib.hid (PARTS.out hs1 T1.at')) | (go_at_call 81; have _t := tokL; refine (IH.out hs1 a s mid _ (T1.perm.length_eq.trans HN.out) S1 (HS.out.perm T1.perm) (by omega) (by omega) (by have := HF.out; omega) (by have := HF.out; omega) P1.out.p1 P1.out.p2).mono ?_; rintro e2 w2 ⟨rfl, hs2, S2, P2, U2⟩; clear tokL) | (go_at_call 81; have _t := tokR; refine (IH.out hs2 mid e b _ (P2.len.trans (T1.perm.length_eq.trans HN.out)) S2 (All.put (HS.out.perm T1.perm) P2) (by omega) (by omega) (by have := HF.out; omega) (by have := HF.out; omega) (St.Up.congr undef (ltf cf) P1.out.p3 (fun k g1 g2 => P2.out k (.inr g1))) (St.Up.congr undef (ltf cf) P1.out.p4 (fun k g1 g2 => P2.out k (.inr (by have := HF.out; omega))))).mono ?_; rintro e3 w3 ⟨rfl, hs3, S3, P3, U3⟩; clear tokR))
              go_end0
              exact ⟨rfl, hs3, S3, ((rot_put T1 (by have := HF.out; omega) (by have := HF.out; omega)).trans undef (P2.mono undef (Nat.le_refl _) (by have := HF.out; omega))).trans undef (P3.mono undef (by have := HF.out; omega) (Nat.le_refl _)), merge_end (by rw [(T1.perm.length_eq.trans HN.out)]; exact hb) (by have := HF.out; omega) (by have := HF.out; omega) P1.out.cr P2 U2 P3 U3⟩
            · have g4 : s < mid := by have := HF.out; omega
              have g5 : mid < e := by have := HF.out; omega
              have tokL : True := trivial
              go_wp2_with (first | (go_at_call 88; refine (rotate_is HE.out hs s m e n cap _ HN.out H1.out HS.out (by omega) (by omega) (by have := HF.out; omega) hl).mono ?_; rintro e1 w1 ⟨rfl, hs1, S1, T1⟩; have P1 := Lib.hid (PARTS.out hs1 T1.at')) | (go_at_call 81; have _t := tokL; refine (IH.out hs1 a s mid _ (T1.perm.length_eq.trans HN.out) S1 (HS.out.perm T1.perm) (by omega) (by omega) (by have := HF.out; omega) (by have := HF.out; omega) P1.out.p1 P1.out.p2).mono ?_; rintro e2 w2 ⟨rfl, hs2, S2, P2, U2⟩; clear tokL))
              go_end0
              exact ⟨rfl, hs2, S2, ((rot_put T1 (by have := HF.out; omega) (by have := HF.out; omega)).trans undef (P2.mono undef (Nat.le_refl _) (by have := HF.out; omega))).trans undef ((St.Put.refl undef hs2 mid b).mono undef (by have := HF.out; omega) (Nat.le_refl _)), merge_end (by rw [(T1.perm.length_eq.trans HN.out)]; exact hb) (by have := HF.out; omega) (by have := HF.out; omega) P1.out.cr P2 U2 (St.Put.refl undef hs2 mid b) (St.Up.congr undef (ltf cf) (up_right1 P1.out (by have := HF.out; omega)) (fun k g1 g2 => P2.out k (.inr g1)))⟩
          · by_cases g6 : e < b
            · have g4 : s < mid := by have := HF.out; omega
              have g5 : mid < e := by have := HF.out; omega
              have tokR : True := trivial
              go_wp2_with (first | (go_at_call 88; refine (rotate_is HE.out hs s m e n cap _ HN.out H1.out HS.out (by omega) (by omega) (by have := HF.out; omega) hl).mono ?_; rintro e1 w1 ⟨rfl, hs1, S1, T1⟩; have P1 := Lib.hid (PARTS.out hs1 T1.at')) | (go_at_call 81; have _t := tokR; refine (IH.out hs1 mid e b _ (T1.perm.length_eq.trans HN.out) S1 (HS.out.perm T1.perm) (by omega) (by omega) (by have := HF.out; omega) (by have := HF.out; omega) P1.out.p3 P1.out.p4).mono ?_; rintro e3 w3 ⟨rfl, hs3, S3, P3, U3⟩; clear tokR))
              go_end0
              exact ⟨rfl, hs3, S3, ((rot_put T1 (by have := HF.out; omega) (by have := HF.out; omega)).trans undef ((St.Put.refl undef hs1 a mid).mono undef (Nat.le_refl _) (by have := HF.out; omega))).trans undef (P3.mono undef (by have := HF.out; omega) (Nat.le_refl _)), merge_end (by rw [(T1.perm.length_eq.trans HN.out)]; exact hb) (by have := HF.out; omega) (by have := HF.out; omega) P1.out.cr (St.Put.refl undef hs1 a mid) (up_left0 P1.out (by have := HF.out; omega)) P3 U3⟩
            · have g4 : s < mid := by have := HF.out; omega
              have g5 : mid < e := by have := HF.out; omega
              go_wp2_with ((go_at_call 88; refine (rotate_is HE.out hs s m e n cap _ HN.out H1.out HS.out (by omega) (by omega) (by have := HF.out; omega) hl).mono ?_; rintro e1 w1 ⟨rfl, hs1, S1, T1⟩; have P1 := Lib.hid (PARTS.out hs1 T1.at')))
              go_end0
              exact ⟨rfl, hs1, S1, ((rot_put T1 (by have := HF.out; omega) (by have := HF.out; omega)).trans undef ((St.Put.refl undef hs1 a mid).mono undef (Nat.le_refl _) (by have := HF.out; omega))).trans undef ((St.Put.refl undef hs1 mid b).mono undef (by have := HF.out; omega) (Nat.le_refl _)), merge_end (by rw [(T1.perm.length_eq.trans HN.out)]; exact hb) (by have := HF.out; omega) (by have := HF.out; omega) P1.out.cr (St.Put.refl undef hs1 a mid) (up_left0 P1.out (by have := HF.out; omega)) (St.Put.refl undef hs1 mid b) (St.Up.congr undef (ltf cf) (up_right1 P1.out (by have := HF.out; omega)) (fun k g1 g2 => (St.Put.refl undef hs1 a mid).out k (.inr g1)))⟩
        · by_cases g3 : a < s
          · by_cases g6 : e < b
            · have g4 : ¬ s < mid := by have := HF.out; omega
              have g5 : mid < e := by have := HF.out; omega
              have P1 : Hid (Parts cf hs a s mid e b) := PARTS.out hs (St.rot_id (by have := HF.out; omega) (by have := HF.out; omega) (by have := HF.out; omega) _)
              have tokR : True := trivial
              go_wp2_with ((go_at_call 81; have _t := tokR; refine (IH.out hs mid e b _ HN.out H1.out HS.out (by omega) (by omega) (by have := HF.out; omega) (by have := HF.out; omega) P1.out.p3 P1.out.p4).mono ?_; rintro e3 w3 ⟨rfl, hs3, S3, P3, U3⟩; clear tokR))
              go_end0
              exact ⟨rfl, hs3, S3, ((St.Put.refl undef hs a b).trans undef ((St.Put.refl undef hs a mid).mono undef (Nat.le_refl _) (by have := HF.out; omega))).trans undef (P3.mono undef (by have := HF.out; omega) (Nat.le_refl _)), merge_end (by rw [HN.out]; exact hb) (by have := HF.out; omega) (by have := HF.out; omega) P1.out.cr (St.Put.refl undef hs a mid) (up_left1 P1.out (by have := HF.out; omega)) P3 U3⟩
            · have g4 : ¬ s < mid := by have := HF.out; omega
              have g5 : mid < e := by have := HF.out; omega
              have P1 : Hid (Parts cf hs a s mid e b) := PARTS.out hs (St.rot_id (by have := HF.out; omega) (by have := HF.out; omega) (by have := HF.out; omega) _)
              go_wp2_with fail
              go_end0
              exact ⟨rfl, hs, H1.out, ((St.Put.refl undef hs a b).trans undef ((St.Put.refl undef hs a mid).mono undef (Nat.le_refl _) (by have := HF.out; omega))).trans undef ((St.Put.refl undef hs mid b).mono undef (by have := HF.out; omega) (Nat.le_refl _)), merge_end (by rw [HN.out]; exact hb) (by have := HF.out; omega) (by have := HF.out; omega) P1.out.cr (St.Put.refl undef hs a mid) (up_left1 P1.out (by have := HF.out; omega)) (St.Put.refl undef hs mid b) (St.Up.congr undef (ltf cf) (up_right1 P1.out (by have := HF.out; omega)) (fun k g1 g2 => (St.Put.refl undef hs a mid).out k (.inr g1)))⟩
          · by_cases g6 : e < b
            · have g4 : ¬ s < mid := by have := HF.out; omega
              have g5 : mid < e := by have := HF.out; omega
              have P1 : Hid (Parts cf hs a s mid e b) := PARTS.out hs (St.rot_id (by have := HF.out; omega) (by have := HF.out; omega) (by have := HF.out; omega) _)
              have tokR : True := trivial
              go_wp2_with ((go_at_call 81; have _t := tokR; refine (IH.out hs mid e b _ HN.out H1.out HS.out (by omega) (by omega) (by have := HF.out; omega) (by have := HF.out; omega) P1.out.p3 P1.out.p4).mono ?_; rintro e3 w3 ⟨rfl, hs3, S3, P3, U3⟩; clear tokR))
              go_end0
              exact ⟨rfl, hs3, S3, ((St.Put.refl undef hs a b).trans undef ((St.Put.refl undef hs a mid).mono undef (Nat.le_refl _) (by have := HF.out; omega))).trans undef (P3.mono undef (by have := HF.out; omega) (Nat.le_refl _)), merge_end (by rw [HN.out]; exact hb) (by have := HF.out; omega) (by have := HF.out; omega) P1.out.cr (St.Put.refl undef hs a mid) (up_left0 P1.out (by have := HF.out; omega)) P3 U3⟩
            · have g4 : ¬ s < mid := by have := HF.out; omega
              have g5 : mid < e := by have := HF.out; omega
              have P1 : Hid (Parts cf hs a s mid e b) := PARTS.out hs (St.rot_id (by have := HF.out; omega) (by have := HF.out; omega) (by have := HF.out; omega) _)
              go_wp2_with fail
              go_end0
              exact ⟨rfl, hs, H1.out, ((St.Put.refl undef hs a b).trans undef ((St.Put.refl undef hs a mid).mono undef (Nat.le_refl _) (by have := HF.out; omega))).trans undef ((St.Put.refl undef hs mid b).mono undef (by have := HF.out; omega) (Nat.le_refl _)), merge_end (by rw [HN.out]; exact hb) (by have := HF.out; omega) (by have := HF.out; omega) P1.out.cr (St.Put.refl undef hs a mid) (up_left0 P1.out (by have := HF.out; omega)) (St.Put.refl undef hs mid b) (St.Up.congr undef (ltf cf) (up_right1 P1.out (by have := HF.out; omega)) (fun k g1 g2 => (St.Put.refl undef hs a mid).out k (.inr g1)))⟩
      · by_cases g2 : m < e
        · by_cases g3 : a < s
          · have g4 : s < mid := by have := HF.out; omega
            have g5 : ¬ mid < e := by have := HF.out; omega
            have P1 : Hid (Parts cf hs a s mid e b) := PARTS.out hs (St.rot_id (by have := HF.out; omega) (by have := HF.out; omega) (by have := HF.out; omega) _)
            have tokL : True := trivial
            go_wp2_with ((go_at_call 81; have _t := tokL; refine (IH.out hs a s mid _ HN.out H1.out HS.out (by omega) (by omega) (by have := HF.out; omega) (by have := HF.out; omega) P1.out.p1 P1.out.p2).mono ?_; rintro e2 w2 ⟨rfl, hs2, S2, P2, U2⟩; clear tokL))
            go_end0
            exact ⟨rfl, hs2, S2, ((St.Put.refl undef hs a b).trans undef (P2.mono undef (Nat.le_refl _) (by have := HF.out; omega))).trans undef ((St.Put.refl undef hs2 mid b).mono undef (by have := HF.out; omega) (Nat.le_refl _)), merge_end (by rw [HN.out]; exact hb) (by have := HF.out; omega) (by have := HF.out; omega) P1.out.cr P2 U2 (St.Put.refl undef hs2 mid b) (St.Up.congr undef (ltf cf) (up_right0 P1.out (by have := HF.out; omega)) (fun k g1 g2 => P2.out k (.inr g1)))⟩
          · have g4 : s < mid := by have := HF.out; omega
            have g5 : ¬ mid < e := by have := HF.out; omega
            have P1 : Hid (Parts cf hs a s mid e b) := PARTS.out hs (St.rot_id (by have := HF.out; omega) (by have := HF.out; omega) (by have := HF.out; omega) _)
            go_wp2_with fail
            go_end0
            exact ⟨rfl, hs, H1.out, ((St.Put.refl undef hs a b).trans undef ((St.Put.refl undef hs a mid).mono undef (Nat.le_refl _) (by have := HF.out; omega))).trans undef ((St.Put.refl undef hs mid b).mono undef (by have := HF.out; omega) (Nat.le_refl _)), merge_end (by rw [HN.out]; exact hb) (by have := HF.out; omega) (by have := HF.out; omega) P1.out.cr (St.Put.refl undef hs a mid) (up_left0 P1.out (by have := HF.out; omega)) (St.Put.refl undef hs mid b) (St.Up.congr undef (ltf cf) (up_right0 P1.out (by have := HF.out; omega)) (fun k g1 g2 => (St.Put.refl undef hs a mid).out k (.inr g1)))⟩
        · by_cases g3 : a < s
          · have g4 : ¬ s < mid := by have := HF.out; omega
            have g5 : ¬ mid < e := by have := HF.out; omega
            have P1 : Hid (Parts cf hs a s mid e b) := PARTS.out hs (St.rot_id (by have := HF.out; omega) (by have := HF.out; omega) (by have := HF.out; omega) _)
            go_wp2_with fail
            go_end0
            exact ⟨rfl, hs, H1.out, ((St.Put.refl undef hs a b).trans undef ((St.Put.refl undef hs a mid).mono undef (Nat.le_refl _) (by have := HF.out; omega))).trans undef ((St.Put.refl undef hs mid b).mono undef (by have := HF.out; omega) (Nat.le_refl _)), merge_end (by rw [HN.out]; exact hb) (by have := HF.out; omega) (by have := HF.out; omega) P1.out.cr (St.Put.refl undef hs a mid) (up_left1 P1.out (by have := HF.out; omega)) (St.Put.refl undef hs mid b) (St.Up.congr undef (ltf cf) (up_right0 P1.out (by have := HF.out; omega)) (fun k g1 g2 => (St.Put.refl undef hs a mid).out k (.inr g1)))⟩
          · have g4 : ¬ s < mid := by have := HF.out; omega
            have g5 : ¬ mid < e := by have := HF.out; omega
            have P1 : Hid (Parts cf hs a s mid e b) := PARTS.out hs (St.rot_id (by have := HF.out; omega) (by have := HF.out; omega) (by have := HF.out; omega) _)
            go_wp2_with fail
            go_end0
            exact ⟨rfl, hs, H1.out, ((St.Put.refl undef hs a b).trans undef ((St.Put.refl undef hs a mid).mono undef (Nat.le_refl _) (by have := HF.out; omega))).trans undef ((St.Put.refl undef hs mid b).mono undef (by have := HF.out; omega) (Nat.le_refl _)), merge_end (by rw [HN.out]; exact hb) (by have := HF.out; omega) (by have := HF.out; omega) P1.out.cr (St.Put.refl undef hs a mid) (up_left0 P1.out (by have := HF.out; omega)) (St.Put.refl undef hs mid b) (St.Up.congr undef (ltf cf) (up_right0 P1.out (by have := HF.out; omega)) (fun k g1 g2 => (St.Put.refl undef hs a mid).out k (.inr g1)))⟩
end Go.Proofs.YtfmjeggomphliaaDoor.Sr
