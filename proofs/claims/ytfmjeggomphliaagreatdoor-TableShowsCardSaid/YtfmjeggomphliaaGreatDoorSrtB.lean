/- Walks: the library's stable sort: two halves merged in place, the first half the longer. -/
import Derived.Test.YtfmjeggomphliaaGreatDoorSrtA
import Derived.Test.YtfmjeggomphliaaGreatDoorSortMath
set_option linter.unusedVariables false
set_option linter.unusedSimpArgs false
namespace Go.Proofs.YtfmjeggomphliaaGreatDoor.Sr
open Go.RowKit Go Go.Sort Ba Tb

set_option maxHeartbeats 30000000 in
set_option maxRecDepth 100000 in
theorem merge_hi {w0 : World} {g : Nat} {S : Value → Prop} {cf : Value → Value → Int} (E : Env w0 g S cf) (sz n cap : Nat) (ih : MergeOk w0 g S cf sz n cap) (hs : List Value) (a m b : Nat) (w : World) (hn : hs.length = n) (h0 : SW w0 g hs w) (hS : All S hs) (ham : a + 1 < m) (hmb : m + 1 < b) (hb : b ≤ n) (hl : n ≤ 100000) (hsz : b - a ≤ sz) (hu : St.Up undef (ltf cf) hs a m) (hv : St.Up undef (ltf cf) hs m b) (hmid : (a + b) / 2 < m) :
    Calls Tryz.prog 98 #[.slice (some ⟨g, 0, none⟩) n cap, .int .i64 a, .int .i64 m, .int .i64 b, .func (.func 45) #[] #[]] w (Sorts w0 g cf hs a b) := by
  have HE := Lib.hid E
  have H0 := Lib.hid h0
  have HS := Lib.hid hS
  have HN := Lib.hid hn
  have HU := Lib.hid hu
  have HV := Lib.hid hv
  have IH := Lib.hid ih
  have HSZ := Lib.hid hsz
  obtain ⟨mid, hm⟩ : ∃ mid, mid = (a + b) / 2 := ⟨_, rfl⟩
  rw [← hm] at hmid
  obtain ⟨N, hN⟩ : ∃ N, N = mid + m := ⟨_, rfl⟩
  obtain ⟨p, hp⟩ : ∃ p, p = N - 1 := ⟨_, rfl⟩
  obtain ⟨s0, hs0⟩ : ∃ s0, s0 = N - b := ⟨_, rfl⟩
  obtain ⟨r0, hr0⟩ : ∃ r0, r0 = mid := ⟨_, rfl⟩
  have eS : (N : Int) - (b : Int) = (s0 : Int) := by omega
  have wS : IntKind.i64.wrap ((N : Int) - (b : Int)) = (s0 : Int) := by rw [IntWalk.i64_in _ (by omega)]; exact eS
  have emid : ((a : Int) + (b : Int)) / 2 = (mid : Int) := by omega
  have eN : (mid : Int) + (m : Int) = (N : Int) := by omega
  have eP : (N : Int) - 1 = (p : Int) := by omega
  have wN : IntKind.i64.wrap ((mid : Int) + (m : Int)) = (N : Int) := by rw [IntWalk.i64_in _ (by omega)]; exact eN
  have wP : IntKind.i64.wrap ((N : Int) - 1) = (p : Int) := by rw [IntWalk.i64_in _ (by omega)]; exact eP
  have HK : Hid (mid = (a + b) / 2 ∧ N = mid + m ∧ p = N - 1 ∧ (mid < m ∧ s0 = N - b ∧ r0 = mid) ∧ a < mid ∧ mid < b) := ⟨hm, hN, hp, ⟨hmid, hs0, hr0⟩, by omega, by omega⟩
  have dm : ((m : Int) - (a : Int) == 1) = false := by
    rw [beq_eq_false_iff_ne]; omega
  have db : ((b : Int) - (m : Int) == 1) = false := by
    rw [beq_eq_false_iff_ne]; omega
  have hmid' : (mid : Int) < (m : Int) := by omega
  have pn : p < 200000 := by omega
  clear E h0 hS hn hu hv ih hm hN hp hsz hs0
  go_enter Tryz.func98, Tryz.ntmps98
  go_wp2_with fail
  clear emid eN eP wN wP dm db hmid'
  go_loopw [20, 21] (fun vi vr wr => ∃ (i r : Nat), vi = .int .i64 i ∧ vr = .int .i64 r ∧ s0 ≤ i ∧ i ≤ r ∧ r ≤ r0 ∧ Hid (SW w0 g hs wr) ∧ Hid (St.SrM undef (ltf cf) hs p s0 r0 i r)) (fun vi vr _ => (intOf vr).toNat - (intOf vi).toNat)
  case atStart => exact ⟨s0, r0, by first | rfl | (congr 1; omega), by rw [hr0], Nat.le_refl _, by have := HK.out; omega, Nat.le_refl _, H0, (⟨fun h => by omega, fun h => by omega⟩ : St.SrM undef (ltf cf) hs p s0 r0 s0 r0)⟩
  case round =>
    clear H0
    obtain ⟨i, r, rfl, rfl, hsi, hir, hrr, H1, R1⟩ := hrel
    by_cases hlt : i < r
    · obtain ⟨h, hh⟩ : ∃ h, h = (i + r) / 2 := ⟨_, rfl⟩
      obtain ⟨d, hd⟩ : ∃ d, d = p - h := ⟨_, rfl⟩
      have eh : ((i : Int) + (r : Int)) / 2 = (h : Int) := by omega
      have h1 : i ≤ h := by omega
      have h2 : h < r := by omega
      have hdn : d < n := by have := HK.out; omega
      have hhn : h < n := by have := HK.out; omega
      have ed : (p : Int) - (h : Int) = (d : Int) := by have := HK.out; omega
      have wd : IntKind.i64.wrap ((p : Int) - (h : Int)) = (d : Int) := by rw [IntWalk.i64_in _ (by omega)]; exact ed
      have hlt' : (i : Int) < (r : Int) := by omega
      obtain ⟨x, hx⟩ : ∃ x, at' hs d = x := ⟨_, rfl⟩
      obtain ⟨y, hy⟩ : ∃ y, at' hs h = y := ⟨_, rfl⟩
      have l1 := H1.out.cell d (by have := HN.out; omega)
      have l0 := H1.out.cell h (by have := HN.out; omega)
      rw [hx] at l1
      rw [hy] at l0
      have hxS : S x := by rw [← hx]; exact HS.out _ (by have := HN.out; omega)
      have hyS : S y := by rw [← hy]; exact HS.out _ (by have := HN.out; omega)
      obtain ⟨c, hc⟩ : ∃ c, cf x y = c := ⟨_, rfl⟩
      have cA := cmp_of HE.out H1.out hxS hyS hc
      have HC : Hid (ltf cf (at' hs (p - h)) (at' hs h) = decide (c < 0)) := by show _ = _; unfold ltf; rw [← hd, hx, hy, hc]
      have b1 : (d : Int) < (n : Int) := by omega
      have b0 : (h : Int) < (n : Int) := by omega
      have m1 := cell_regrown l1
      have m0 := cell_regrown l0
      clear hx hy hc hxS hyS hh l1 l0 hd
      by_cases c0 : c < 0
      · have d0 : decide (c < 0) = true := decide_eq_true c0
        have RR : Hid (St.SrM undef (ltf cf) hs p s0 r0 i h) := ⟨R1.out.1, fun _ => by show ltf cf (at' hs (p - h)) (at' hs h) = true; rw [HC.out]; exact d0⟩
        go_wp2_with fail
        refine wp_region_quiet_below (by kernel_rfl) (by kernel_rfl) ?_
        repeat (go_big_quiet_step (with_reducible (first | exact cA _ _)))
        refine wpQuiet_nil ?_
        intro _ hw'
        obtain ⟨⟨dq1, os1⟩, hw''⟩ := hw'
        subst hw''
        have H2 := Lib.hid (H1.out.below (below_regrown wr dq1 os1))
        clear H1 cA m1 m0
        generalize grow (redrawn wr dq1) os1 = w2 at *
        go_wp2_with fail
        go_roundw
        case rel => exact ⟨i, h, rfl, rfl, by omega, by omega, by omega, H2, RR⟩
        case measure => simp [intOf]; omega
      · have d0 : decide (c < 0) = false := decide_eq_false c0
        have RR : Hid (St.SrM undef (ltf cf) hs p s0 r0 (h + 1) r) := ⟨fun _ => by rw [Nat.add_sub_cancel]; show ltf cf (at' hs (p - h)) (at' hs h) = false; rw [HC.out]; exact d0, R1.out.2⟩
        go_wp2_with fail
        refine wp_region_quiet_below (by kernel_rfl) (by kernel_rfl) ?_
        repeat (go_big_quiet_step (with_reducible (first | exact cA _ _)))
        refine wpQuiet_nil ?_
        intro _ hw'
        obtain ⟨⟨dq1, os1⟩, hw''⟩ := hw'
        subst hw''
        have H2 := Lib.hid (H1.out.below (below_regrown wr dq1 os1))
        clear H1 cA m1 m0
        generalize grow (redrawn wr dq1) os1 = w2 at *
        go_wp2_with fail
        go_roundw
        case rel => exact ⟨h + 1, r, by go_num, rfl, by omega, by omega, hrr, H2, RR⟩
        case measure => simp [intOf]; omega
    · obtain ⟨s, hs'⟩ : ∃ s, s = i := ⟨_, rfl⟩
      obtain rfl : r = s := by omega
      obtain rfl : r = i := by omega
      obtain ⟨s, hss⟩ : ∃ s, s = r := ⟨_, rfl⟩
      subst hss
      clear hs' hir hlt
      obtain ⟨e, he⟩ : ∃ e, e = N - s := ⟨_, rfl⟩
      have HF : Hid (a ≤ s ∧ s ≤ m ∧ m ≤ e ∧ e ≤ b ∧ e - m = mid - s ∧ s ≤ mid ∧ mid ≤ e ∧ a < mid ∧ mid < b ∧ a + 1 < m ∧ m + 1 < b ∧ b - a ≤ sz ∧ b ≤ n) := by
        have := HK.out
        have := HSZ.out
        show _ ∧ _
        omega
      have PARTS : Hid (∀ ys, (∀ k, St.gt undef ys k = St.Rot s m e (St.gt undef hs) k) → Parts cf ys a s mid e b) := fun ys hy => by
        obtain ⟨f1, f2, f3, f4, f5, f6, _⟩ := HF.out
        have hk := HK.out
        have h3 := St.rot_parts undef (ltf cf) HE.out.ord (xs := hs) (ys := ys) (a := a) (m := m) (b := b) (mid := mid) (s := s) (e := e) (fun k g1 g2 => HS.out k (by have := HN.out; omega)) HU.out HV.out f1 f2 f3 f4 f5 f6
          (fun q1 q2 => by have := R1.out.1 (by omega); rw [show p - (s - 1) = e by omega] at this; exact this) (fun q1 q2 => by have := R1.out.2 (by omega); rw [show p - s = e - 1 by omega] at this; exact this) hy
        exact ⟨h3.1, h3.2.1, h3.2.2.1, h3.2.2.2.1, h3.2.2.2.2⟩
      have eE : (N : Int) - (s : Int) = (e : Int) := by have := HK.out; have := HF.out; omega
      have wE : IntKind.i64.wrap ((N : Int) - (s : Int)) = (e : Int) := by rw [IntWalk.i64_in _ (by have := HK.out; omega)]; exact eE
      have hss' : ¬ (s : Int) < (s : Int) := by omega
      have en : e ≤ n := by have := HF.out; omega
      clear he R1
      by_cases g1 : s < m
      · by_cases g2 : m < e
        · by_cases g3 : a < s
          · by_cases g6 : e < b
            · have g4 : s < mid := by have := HF.out; omega
              have g5 : mid < e := by have := HF.out; omega
              have tokL : True := trivial
              have tokR : True := trivial
              go_wp2_with (first | (go_at_call 120; refine (rotate_is HE.out hs s m e n cap _ HN.out H1.out HS.out (by omega) (by omega) (by have := HF.out; omega) hl).mono ?_; rintro e1 w1 ⟨rfl, hs1, S1, T1⟩; have P1 := Lib.hid (PARTS.out hs1 T1.at')) | (go_at_call 98; have _t := tokL; refine (IH.out hs1 a s mid _ (T1.perm.length_eq.trans HN.out) S1 (HS.out.perm T1.perm) (by omega) (by omega) (by have := HF.out; omega) (by have := HF.out; omega) P1.out.p1 P1.out.p2).mono ?_; rintro e2 w2 ⟨rfl, hs2, S2, P2, U2⟩; clear tokL) | (go_at_call 98; have _t := tokR; refine (IH.out hs2 mid e b _ (P2.len.trans (T1.perm.length_eq.trans HN.out)) S2 (All.put (HS.out.perm T1.perm) P2) (by omega) (by omega) (by have := HF.out; omega) (by have := HF.out; omega) (St.Up.congr undef (ltf cf) P1.out.p3 (fun k g1 g2 => P2.out k (.inr g1))) (St.Up.congr undef (ltf cf) P1.out.p4 (fun k g1 g2 => P2.out k (.inr (by have := HF.out; omega))))).mono ?_; rintro e3 w3 ⟨rfl, hs3, S3, P3, U3⟩; clear tokR))
              go_end0
              exact ⟨rfl, hs3, S3, ((rot_put T1 (by have := HF.out; omega) (by have := HF.out; omega)).trans undef (P2.mono undef (Nat.le_refl _) (by have := HF.out; omega))).trans undef (P3.mono undef (by have := HF.out; omega) (Nat.le_refl _)), merge_end (by rw [(T1.perm.length_eq.trans HN.out)]; exact hb) (by have := HF.out; omega) (by have := HF.out; omega) P1.out.cr P2 U2 P3 U3⟩
            · have g4 : s < mid := by have := HF.out; omega
              have g5 : mid < e := by have := HF.out; omega
              have tokL : True := trivial
              go_wp2_with (first | (go_at_call 120; refine (rotate_is HE.out hs s m e n cap _ HN.out H1.out HS.out (by omega) (by omega) (by have := HF.out; omega) hl).mono ?_; rintro e1 w1 ⟨rfl, hs1, S1, T1⟩; have P1 := Lib.hid (PARTS.out hs1 T1.at')) | (go_at_call 98; have _t := tokL; refine (IH.out hs1 a s mid _ (T1.perm.length_eq.trans HN.out) S1 (HS.out.perm T1.perm) (by omega) (by omega) (by have := HF.out; omega) (by have := HF.out; omega) P1.out.p1 P1.out.p2).mono ?_; rintro e2 w2 ⟨rfl, hs2, S2, P2, U2⟩; clear tokL))
              go_end0
              exact ⟨rfl, hs2, S2, ((rot_put T1 (by have := HF.out; omega) (by have := HF.out; omega)).trans undef (P2.mono undef (Nat.le_refl _) (by have := HF.out; omega))).trans undef ((St.Put.refl undef hs2 mid b).mono undef (by have := HF.out; omega) (Nat.le_refl _)), merge_end (by rw [(T1.perm.length_eq.trans HN.out)]; exact hb) (by have := HF.out; omega) (by have := HF.out; omega) P1.out.cr P2 U2 (St.Put.refl undef hs2 mid b) (St.Up.congr undef (ltf cf) (up_right1 P1.out (by have := HF.out; omega)) (fun k g1 g2 => P2.out k (.inr g1)))⟩
          · by_cases g6 : e < b
            · have g4 : s < mid := by have := HF.out; omega
              have g5 : mid < e := by have := HF.out; omega
              have tokR : True := trivial
              go_wp2_with (first | (go_at_call 120; refine (rotate_is HE.out hs s m e n cap _ HN.out H1.out HS.out (by omega) (by omega) (by have := HF.out; omega) hl).mono ?_; rintro e1 w1 ⟨rfl, hs1, S1, T1⟩; have P1 := Lib.hid (PARTS.out hs1 T1.at')) | (go_at_call 98; have _t := tokR; refine (IH.out hs1 mid e b _ (T1.perm.length_eq.trans HN.out) S1 (HS.out.perm T1.perm) (by omega) (by omega) (by have := HF.out; omega) (by have := HF.out; omega) P1.out.p3 P1.out.p4).mono ?_; rintro e3 w3 ⟨rfl, hs3, S3, P3, U3⟩; clear tokR))
              go_end0
              exact ⟨rfl, hs3, S3, ((rot_put T1 (by have := HF.out; omega) (by have := HF.out; omega)).trans undef ((St.Put.refl undef hs1 a mid).mono undef (Nat.le_refl _) (by have := HF.out; omega))).trans undef (P3.mono undef (by have := HF.out; omega) (Nat.le_refl _)), merge_end (by rw [(T1.perm.length_eq.trans HN.out)]; exact hb) (by have := HF.out; omega) (by have := HF.out; omega) P1.out.cr (St.Put.refl undef hs1 a mid) (up_left0 P1.out (by have := HF.out; omega)) P3 U3⟩
            · have g4 : s < mid := by have := HF.out; omega
              have g5 : mid < e := by have := HF.out; omega
              go_wp2_with ((go_at_call 120; refine (rotate_is HE.out hs s m e n cap _ HN.out H1.out HS.out (by omega) (by omega) (by have := HF.out; omega) hl).mono ?_; rintro e1 w1 ⟨rfl, hs1, S1, T1⟩; have P1 := Lib.hid (PARTS.out hs1 T1.at')))
              go_end0
              exact ⟨rfl, hs1, S1, ((rot_put T1 (by have := HF.out; omega) (by have := HF.out; omega)).trans undef ((St.Put.refl undef hs1 a mid).mono undef (Nat.le_refl _) (by have := HF.out; omega))).trans undef ((St.Put.refl undef hs1 mid b).mono undef (by have := HF.out; omega) (Nat.le_refl _)), merge_end (by rw [(T1.perm.length_eq.trans HN.out)]; exact hb) (by have := HF.out; omega) (by have := HF.out; omega) P1.out.cr (St.Put.refl undef hs1 a mid) (up_left0 P1.out (by have := HF.out; omega)) (St.Put.refl undef hs1 mid b) (St.Up.congr undef (ltf cf) (up_right1 P1.out (by have := HF.out; omega)) (fun k g1 g2 => (St.Put.refl undef hs1 a mid).out k (.inr g1)))⟩
        · by_cases g3 : a < s
          · by_cases g6 : e < b
            · have g4 : ¬ s < mid := by have := HF.out; omega
              have g5 : mid < e := by have := HF.out; omega
              have P1 : Hid (Parts cf hs a s mid e b) := PARTS.out hs (St.rot_id (by have := HF.out; omega) (by have := HF.out; omega) (by have := HF.out; omega) _)
              have tokR : True := trivial
              go_wp2_with ((go_at_call 98; have _t := tokR; refine (IH.out hs mid e b _ HN.out H1.out HS.out (by omega) (by omega) (by have := HF.out; omega) (by have := HF.out; omega) P1.out.p3 P1.out.p4).mono ?_; rintro e3 w3 ⟨rfl, hs3, S3, P3, U3⟩; clear tokR))
              go_end0
              exact ⟨rfl, hs3, S3, ((St.Put.refl undef hs a b).trans undef ((St.Put.refl undef hs a mid).mono undef (Nat.le_refl _) (by have := HF.out; omega))).trans undef (P3.mono undef (by have := HF.out; omega) (Nat.le_refl _)), merge_end (by rw [HN.out]; exact hb) (by have := HF.out; omega) (by have := HF.out; omega) P1.out.cr (St.Put.refl undef hs a mid) (up_left1 P1.out (by have := HF.out; omega)) P3 U3⟩
            · have g4 : ¬ s < mid := by have := HF.out; omega
              have g5 : mid < e := by have := HF.out; omega
              have P1 : Hid (Parts cf hs a s mid e b) := PARTS.out hs (St.rot_id (by have := HF.out; omega) (by have := HF.out; omega) (by have := HF.out; omega) _)
              go_wp2_with fail
              go_end0
              exact ⟨rfl, hs, H1.out, ((St.Put.refl undef hs a b).trans undef ((St.Put.refl undef hs a mid).mono undef (Nat.le_refl _) (by have := HF.out; omega))).trans undef ((St.Put.refl undef hs mid b).mono undef (by have := HF.out; omega) (Nat.le_refl _)), merge_end (by rw [HN.out]; exact hb) (by have := HF.out; omega) (by have := HF.out; omega) P1.out.cr (St.Put.refl undef hs a mid) (up_left1 P1.out (by have := HF.out; omega)) (St.Put.refl undef hs mid b) (St.Up.congr undef (ltf cf) (up_right1 P1.out (by have := HF.out; omega)) (fun k g1 g2 => (St.Put.refl undef hs a mid).out k (.inr g1)))⟩
          · by_cases g6 : e < b
            · have g4 : ¬ s < mid := by have := HF.out; omega
              have g5 : mid < e := by have := HF.out; omega
              have P1 : Hid (Parts cf hs a s mid e b) := PARTS.out hs (St.rot_id (by have := HF.out; omega) (by have := HF.out; omega) (by have := HF.out; omega) _)
              have tokR : True := trivial
              go_wp2_with ((go_at_call 98; have _t := tokR; refine (IH.out hs mid e b _ HN.out H1.out HS.out (by omega) (by omega) (by have := HF.out; omega) (by have := HF.out; omega) P1.out.p3 P1.out.p4).mono ?_; rintro e3 w3 ⟨rfl, hs3, S3, P3, U3⟩; clear tokR))
              go_end0
              exact ⟨rfl, hs3, S3, ((St.Put.refl undef hs a b).trans undef ((St.Put.refl undef hs a mid).mono undef (Nat.le_refl _) (by have := HF.out; omega))).trans undef (P3.mono undef (by have := HF.out; omega) (Nat.le_refl _)), merge_end (by rw [HN.out]; exact hb) (by have := HF.out; omega) (by have := HF.out; omega) P1.out.cr (St.Put.refl undef hs a mid) (up_left0 P1.out (by have := HF.out; omega)) P3 U3⟩
            · have g4 : ¬ s < mid := by have := HF.out; omega
              have g5 : mid < e := by have := HF.out; omega
              have P1 : Hid (Parts cf hs a s mid e b) := PARTS.out hs (St.rot_id (by have := HF.out; omega) (by have := HF.out; omega) (by have := HF.out; omega) _)
              go_wp2_with fail
              go_end0
              exact ⟨rfl, hs, H1.out, ((St.Put.refl undef hs a b).trans undef ((St.Put.refl undef hs a mid).mono undef (Nat.le_refl _) (by have := HF.out; omega))).trans undef ((St.Put.refl undef hs mid b).mono undef (by have := HF.out; omega) (Nat.le_refl _)), merge_end (by rw [HN.out]; exact hb) (by have := HF.out; omega) (by have := HF.out; omega) P1.out.cr (St.Put.refl undef hs a mid) (up_left0 P1.out (by have := HF.out; omega)) (St.Put.refl undef hs mid b) (St.Up.congr undef (ltf cf) (up_right1 P1.out (by have := HF.out; omega)) (fun k g1 g2 => (St.Put.refl undef hs a mid).out k (.inr g1)))⟩
      · by_cases g2 : m < e
        · by_cases g3 : a < s
          · have g4 : s < mid := by have := HF.out; omega
            have g5 : ¬ mid < e := by have := HF.out; omega
            have P1 : Hid (Parts cf hs a s mid e b) := PARTS.out hs (St.rot_id (by have := HF.out; omega) (by have := HF.out; omega) (by have := HF.out; omega) _)
            have tokL : True := trivial
            go_wp2_with ((go_at_call 98; have _t := tokL; refine (IH.out hs a s mid _ HN.out H1.out HS.out (by omega) (by omega) (by have := HF.out; omega) (by have := HF.out; omega) P1.out.p1 P1.out.p2).mono ?_; rintro e2 w2 ⟨rfl, hs2, S2, P2, U2⟩; clear tokL))
            go_end0
            exact ⟨rfl, hs2, S2, ((St.Put.refl undef hs a b).trans undef (P2.mono undef (Nat.le_refl _) (by have := HF.out; omega))).trans undef ((St.Put.refl undef hs2 mid b).mono undef (by have := HF.out; omega) (Nat.le_refl _)), merge_end (by rw [HN.out]; exact hb) (by have := HF.out; omega) (by have := HF.out; omega) P1.out.cr P2 U2 (St.Put.refl undef hs2 mid b) (St.Up.congr undef (ltf cf) (up_right0 P1.out (by have := HF.out; omega)) (fun k g1 g2 => P2.out k (.inr g1)))⟩
          · have g4 : s < mid := by have := HF.out; omega
            have g5 : ¬ mid < e := by have := HF.out; omega
            have P1 : Hid (Parts cf hs a s mid e b) := PARTS.out hs (St.rot_id (by have := HF.out; omega) (by have := HF.out; omega) (by have := HF.out; omega) _)
            go_wp2_with fail
            go_end0
            exact ⟨rfl, hs, H1.out, ((St.Put.refl undef hs a b).trans undef ((St.Put.refl undef hs a mid).mono undef (Nat.le_refl _) (by have := HF.out; omega))).trans undef ((St.Put.refl undef hs mid b).mono undef (by have := HF.out; omega) (Nat.le_refl _)), merge_end (by rw [HN.out]; exact hb) (by have := HF.out; omega) (by have := HF.out; omega) P1.out.cr (St.Put.refl undef hs a mid) (up_left0 P1.out (by have := HF.out; omega)) (St.Put.refl undef hs mid b) (St.Up.congr undef (ltf cf) (up_right0 P1.out (by have := HF.out; omega)) (fun k g1 g2 => (St.Put.refl undef hs a mid).out k (.inr g1)))⟩
        · by_cases g3 : a < s
          · have g4 : ¬ s < mid := by have := HF.out; omega
            have g5 : ¬ mid < e := by have := HF.out; omega
            have P1 : Hid (Parts cf hs a s mid e b) := PARTS.out hs (St.rot_id (by have := HF.out; omega) (by have := HF.out; omega) (by have := HF.out; omega) _)
            go_wp2_with fail
            go_end0
            exact ⟨rfl, hs, H1.out, ((St.Put.refl undef hs a b).trans undef ((St.Put.refl undef hs a mid).mono undef (Nat.le_refl _) (by have := HF.out; omega))).trans undef ((St.Put.refl undef hs mid b).mono undef (by have := HF.out; omega) (Nat.le_refl _)), merge_end (by rw [HN.out]; exact hb) (by have := HF.out; omega) (by have := HF.out; omega) P1.out.cr (St.Put.refl undef hs a mid) (up_left1 P1.out (by have := HF.out; omega)) (St.Put.refl undef hs mid b) (St.Up.congr undef (ltf cf) (up_right0 P1.out (by have := HF.out; omega)) (fun k g1 g2 => (St.Put.refl undef hs a mid).out k (.inr g1)))⟩
          · have g4 : ¬ s < mid := by have := HF.out; omega
            have g5 : ¬ mid < e := by have := HF.out; omega
            have P1 : Hid (Parts cf hs a s mid e b) := PARTS.out hs (St.rot_id (by have := HF.out; omega) (by have := HF.out; omega) (by have := HF.out; omega) _)
            go_wp2_with fail
            go_end0
            exact ⟨rfl, hs, H1.out, ((St.Put.refl undef hs a b).trans undef ((St.Put.refl undef hs a mid).mono undef (Nat.le_refl _) (by have := HF.out; omega))).trans undef ((St.Put.refl undef hs mid b).mono undef (by have := HF.out; omega) (Nat.le_refl _)), merge_end (by rw [HN.out]; exact hb) (by have := HF.out; omega) (by have := HF.out; omega) P1.out.cr (St.Put.refl undef hs a mid) (up_left0 P1.out (by have := HF.out; omega)) (St.Put.refl undef hs mid b) (St.Up.congr undef (ltf cf) (up_right0 P1.out (by have := HF.out; omega)) (fun k g1 g2 => (St.Put.refl undef hs a mid).out k (.inr g1)))⟩
end Go.Proofs.YtfmjeggomphliaaGreatDoor.Sr

set_option linter.unusedVariables false
set_option linter.unusedSimpArgs false
namespace Go.Proofs.YtfmjeggomphliaaGreatDoor.Sr
open Go.RowKit Go Go.Sort Ba Tb

set_option maxHeartbeats 30000000 in
set_option maxRecDepth 100000 in
theorem merge_lo {w0 : World} {g : Nat} {S : Value → Prop} {cf : Value → Value → Int} (E : Env w0 g S cf) (sz n cap : Nat) (ih : MergeOk w0 g S cf sz n cap) (hs : List Value) (a m b : Nat) (w : World) (hn : hs.length = n) (h0 : SW w0 g hs w) (hS : All S hs) (ham : a + 1 < m) (hmb : m + 1 < b) (hb : b ≤ n) (hl : n ≤ 100000) (hsz : b - a ≤ sz) (hu : St.Up undef (ltf cf) hs a m) (hv : St.Up undef (ltf cf) hs m b) (hmid : m ≤ (a + b) / 2) :
    Calls Tryz.prog 98 #[.slice (some ⟨g, 0, none⟩) n cap, .int .i64 a, .int .i64 m, .int .i64 b, .func (.func 45) #[] #[]] w (Sorts w0 g cf hs a b) := by
  have HE := Lib.hid E
  have H0 := Lib.hid h0
  have HS := Lib.hid hS
  have HN := Lib.hid hn
  have HU := Lib.hid hu
  have HV := Lib.hid hv
  have IH := Lib.hid ih
  have HSZ := Lib.hid hsz
  obtain ⟨mid, hm⟩ : ∃ mid, mid = (a + b) / 2 := ⟨_, rfl⟩
  rw [← hm] at hmid
  obtain ⟨N, hN⟩ : ∃ N, N = mid + m := ⟨_, rfl⟩
  obtain ⟨p, hp⟩ : ∃ p, p = N - 1 := ⟨_, rfl⟩
  skip
  have emid : ((a : Int) + (b : Int)) / 2 = (mid : Int) := by omega
  have eN : (mid : Int) + (m : Int) = (N : Int) := by omega
  have eP : (N : Int) - 1 = (p : Int) := by omega
  have wN : IntKind.i64.wrap ((mid : Int) + (m : Int)) = (N : Int) := by rw [IntWalk.i64_in _ (by omega)]; exact eN
  have wP : IntKind.i64.wrap ((N : Int) - 1) = (p : Int) := by rw [IntWalk.i64_in _ (by omega)]; exact eP
  have HK : Hid (mid = (a + b) / 2 ∧ N = mid + m ∧ p = N - 1 ∧ (m ≤ mid) ∧ a < mid ∧ mid < b) := ⟨hm, hN, hp, hmid, by omega, by omega⟩
  have dm : ((m : Int) - (a : Int) == 1) = false := by
    rw [beq_eq_false_iff_ne]; omega
  have db : ((b : Int) - (m : Int) == 1) = false := by
    rw [beq_eq_false_iff_ne]; omega
  have hmid' : ¬ (mid : Int) < (m : Int) := by omega
  have pn : p < 200000 := by omega
  clear E h0 hS hn hu hv ih hm hN hp hsz
  go_enter Tryz.func98, Tryz.ntmps98
  go_wp2_with fail
  clear emid eN eP wN wP dm db hmid'
  go_loopw [20, 21] (fun vi vr wr => ∃ (i r : Nat), vi = .int .i64 i ∧ vr = .int .i64 r ∧ a ≤ i ∧ i ≤ r ∧ r ≤ m ∧ Hid (SW w0 g hs wr) ∧ Hid (St.SrM undef (ltf cf) hs p a m i r)) (fun vi vr _ => (intOf vr).toNat - (intOf vi).toNat)
  case atStart => exact ⟨a, m, rfl, rfl, Nat.le_refl _, by have := HK.out; omega, Nat.le_refl _, H0, (⟨fun h => by omega, fun h => by omega⟩ : St.SrM undef (ltf cf) hs p a m a m)⟩
  case round =>
    clear H0
    obtain ⟨i, r, rfl, rfl, hsi, hir, hrr, H1, R1⟩ := hrel
    by_cases hlt : i < r
    · obtain ⟨h, hh⟩ : ∃ h, h = (i + r) / 2 := ⟨_, rfl⟩
      obtain ⟨d, hd⟩ : ∃ d, d = p - h := ⟨_, rfl⟩
      have eh : ((i : Int) + (r : Int)) / 2 = (h : Int) := by omega
      have h1 : i ≤ h := by omega
      have h2 : h < r := by omega
      have hdn : d < n := by have := HK.out; omega
      have hhn : h < n := by have := HK.out; omega
      have ed : (p : Int) - (h : Int) = (d : Int) := by have := HK.out; omega
      have wd : IntKind.i64.wrap ((p : Int) - (h : Int)) = (d : Int) := by rw [IntWalk.i64_in _ (by omega)]; exact ed
      have hlt' : (i : Int) < (r : Int) := by omega
      obtain ⟨x, hx⟩ : ∃ x, at' hs d = x := ⟨_, rfl⟩
      obtain ⟨y, hy⟩ : ∃ y, at' hs h = y := ⟨_, rfl⟩
      have l1 := H1.out.cell d (by have := HN.out; omega)
      have l0 := H1.out.cell h (by have := HN.out; omega)
      rw [hx] at l1
      rw [hy] at l0
      have hxS : S x := by rw [← hx]; exact HS.out _ (by have := HN.out; omega)
      have hyS : S y := by rw [← hy]; exact HS.out _ (by have := HN.out; omega)
      obtain ⟨c, hc⟩ : ∃ c, cf x y = c := ⟨_, rfl⟩
      have cA := cmp_of HE.out H1.out hxS hyS hc
      have HC : Hid (ltf cf (at' hs (p - h)) (at' hs h) = decide (c < 0)) := by show _ = _; unfold ltf; rw [← hd, hx, hy, hc]
      have b1 : (d : Int) < (n : Int) := by omega
      have b0 : (h : Int) < (n : Int) := by omega
      have m1 := cell_regrown l1
      have m0 := cell_regrown l0
      clear hx hy hc hxS hyS hh l1 l0 hd
      by_cases c0 : c < 0
      · have d0 : decide (c < 0) = true := decide_eq_true c0
        have RR : Hid (St.SrM undef (ltf cf) hs p a m i h) := ⟨R1.out.1, fun _ => by show ltf cf (at' hs (p - h)) (at' hs h) = true; rw [HC.out]; exact d0⟩
        go_wp2_with fail
        refine wp_region_quiet_below (by kernel_rfl) (by kernel_rfl) ?_
        repeat (go_big_quiet_step (with_reducible (first | exact cA _ _)))
        refine wpQuiet_nil ?_
        intro _ hw'
        obtain ⟨⟨dq1, os1⟩, hw''⟩ := hw'
        subst hw''
        have H2 := Lib.hid (H1.out.below (below_regrown wr dq1 os1))
        clear H1 cA m1 m0
        generalize grow (redrawn wr dq1) os1 = w2 at *
        go_wp2_with fail
        go_roundw
        case rel => exact ⟨i, h, rfl, rfl, by omega, by omega, by omega, H2, RR⟩
        case measure => simp [intOf]; omega
      · have d0 : decide (c < 0) = false := decide_eq_false c0
        have RR : Hid (St.SrM undef (ltf cf) hs p a m (h + 1) r) := ⟨fun _ => by rw [Nat.add_sub_cancel]; show ltf cf (at' hs (p - h)) (at' hs h) = false; rw [HC.out]; exact d0, R1.out.2⟩
        go_wp2_with fail
        refine wp_region_quiet_below (by kernel_rfl) (by kernel_rfl) ?_
        repeat (go_big_quiet_step (with_reducible (first | exact cA _ _)))
        refine wpQuiet_nil ?_
        intro _ hw'
        obtain ⟨⟨dq1, os1⟩, hw''⟩ := hw'
        subst hw''
        have H2 := Lib.hid (H1.out.below (below_regrown wr dq1 os1))
        clear H1 cA m1 m0
        generalize grow (redrawn wr dq1) os1 = w2 at *
        go_wp2_with fail
        go_roundw
        case rel => exact ⟨h + 1, r, by go_num, rfl, by omega, by omega, hrr, H2, RR⟩
        case measure => simp [intOf]; omega
    · obtain ⟨s, hs'⟩ : ∃ s, s = i := ⟨_, rfl⟩
      obtain rfl : r = s := by omega
      obtain rfl : r = i := by omega
      obtain ⟨s, hss⟩ : ∃ s, s = r := ⟨_, rfl⟩
      subst hss
      clear hs' hir hlt
      obtain ⟨e, he⟩ : ∃ e, e = N - s := ⟨_, rfl⟩
      have HF : Hid (a ≤ s ∧ s ≤ m ∧ m ≤ e ∧ e ≤ b ∧ e - m = mid - s ∧ s ≤ mid ∧ mid ≤ e ∧ a < mid ∧ mid < b ∧ a + 1 < m ∧ m + 1 < b ∧ b - a ≤ sz ∧ b ≤ n) := by
        have := HK.out
        have := HSZ.out
        show _ ∧ _
        omega
      have PARTS : Hid (∀ ys, (∀ k, St.gt undef ys k = St.Rot s m e (St.gt undef hs) k) → Parts cf ys a s mid e b) := fun ys hy => by
        obtain ⟨f1, f2, f3, f4, f5, f6, _⟩ := HF.out
        have hk := HK.out
        have h3 := St.rot_parts undef (ltf cf) HE.out.ord (xs := hs) (ys := ys) (a := a) (m := m) (b := b) (mid := mid) (s := s) (e := e) (fun k g1 g2 => HS.out k (by have := HN.out; omega)) HU.out HV.out f1 f2 f3 f4 f5 f6
          (fun q1 q2 => by have := R1.out.1 (by omega); rw [show p - (s - 1) = e by omega] at this; exact this) (fun q1 q2 => by have := R1.out.2 (by omega); rw [show p - s = e - 1 by omega] at this; exact this) hy
        exact ⟨h3.1, h3.2.1, h3.2.2.1, h3.2.2.2.1, h3.2.2.2.2⟩
      have eE : (N : Int) - (s : Int) = (e : Int) := by have := HK.out; have := HF.out; omega
      have wE : IntKind.i64.wrap ((N : Int) - (s : Int)) = (e : Int) := by rw [IntWalk.i64_in _ (by have := HK.out; omega)]; exact eE
      have hss' : ¬ (s : Int) < (s : Int) := by omega
      have en : e ≤ n := by have := HF.out; omega
      clear he R1
      by_cases g1 : s < m
      · by_cases g2 : m < e
        · by_cases g3 : a < s
          · by_cases g6 : e < b
            · have g4 : s < mid := by have := HF.out; omega
              have g5 : mid < e := by have := HF.out; omega
              have tokL : True := trivial
              have tokR : True := trivial
              go_wp2_with (first | (go_at_call 120; refine (rotate_is HE.out hs s m e n cap _ HN.out H1.out HS.out (by omega) (by omega) (by have := HF.out; omega) hl).mono ?_; rintro e1 w1 ⟨rfl, hs1, S1, T1⟩; have P1 := Lib.hid (PARTS.out hs1 T1.at')) | (go_at_call 98; have _t := tokL; refine (IH.out hs1 a s mid _ (T1.perm.length_eq.trans HN.out) S1 (HS.out.perm T1.perm) (by omega) (by omega) (by have := HF.out; omega) (by have := HF.out; omega) P1.out.p1 P1.out.p2).mono ?_; rintro e2 w2 ⟨rfl, hs2, S2, P2, U2⟩; clear tokL) | (go_at_call 98; have _t := tokR; refine (IH.out hs2 mid e b _ (P2.len.trans (T1.perm.length_eq.trans HN.out)) S2 (All.put (HS.out.perm T1.perm) P2) (by omega) (by omega) (by have := HF.out; omega) (by have := HF.out; omega) (St.Up.congr undef (ltf cf) P1.out.p3 (fun k g1 g2 => P2.out k (.inr g1))) (St.Up.congr undef (ltf cf) P1.out.p4 (fun k g1 g2 => P2.out k (.inr (by have := HF.out; omega))))).mono ?_; rintro e3 w3 ⟨rfl, hs3, S3, P3, U3⟩; clear tokR))
              go_end0
              exact ⟨rfl, hs3, S3, ((rot_put T1 (by have := HF.out; omega) (by have := HF.out; omega)).trans undef (P2.mono undef (Nat.le_refl _) (by have := HF.out; omega))).trans undef (P3.mono undef (by have := HF.out; omega) (Nat.le_refl _)), merge_end (by rw [(T1.perm.length_eq.trans HN.out)]; exact hb) (by have := HF.out; omega) (by have := HF.out; omega) P1.out.cr P2 U2 P3 U3⟩
            · have g4 : s < mid := by have := HF.out; omega
              have g5 : mid < e := by have := HF.out; omega
              have tokL : True := trivial
              go_wp2_with (first | (go_at_call 120; refine (rotate_is HE.out hs s m e n cap _ HN.out H1.out HS.out (by omega) (by omega) (by have := HF.out; omega) hl).mono ?_; rintro e1 w1 ⟨rfl, hs1, S1, T1⟩; have P1 := Lib.hid (PARTS.out hs1 T1.at')) | (go_at_call 98; have _t := tokL; refine (IH.out hs1 a s mid _ (T1.perm.length_eq.trans HN.out) S1 (HS.out.perm T1.perm) (by omega) (by omega) (by have := HF.out; omega) (by have := HF.out; omega) P1.out.p1 P1.out.p2).mono ?_; rintro e2 w2 ⟨rfl, hs2, S2, P2, U2⟩; clear tokL))
              go_end0
              exact ⟨rfl, hs2, S2, ((rot_put T1 (by have := HF.out; omega) (by have := HF.out; omega)).trans undef (P2.mono undef (Nat.le_refl _) (by have := HF.out; omega))).trans undef ((St.Put.refl undef hs2 mid b).mono undef (by have := HF.out; omega) (Nat.le_refl _)), merge_end (by rw [(T1.perm.length_eq.trans HN.out)]; exact hb) (by have := HF.out; omega) (by have := HF.out; omega) P1.out.cr P2 U2 (St.Put.refl undef hs2 mid b) (St.Up.congr undef (ltf cf) (up_right1 P1.out (by have := HF.out; omega)) (fun k g1 g2 => P2.out k (.inr g1)))⟩
          · by_cases g6 : e < b
            · have g4 : s < mid := by have := HF.out; omega
              have g5 : mid < e := by have := HF.out; omega
              have tokR : True := trivial
              go_wp2_with (first | (go_at_call 120; refine (rotate_is HE.out hs s m e n cap _ HN.out H1.out HS.out (by omega) (by omega) (by have := HF.out; omega) hl).mono ?_; rintro e1 w1 ⟨rfl, hs1, S1, T1⟩; have P1 := Lib.hid (PARTS.out hs1 T1.at')) | (go_at_call 98; have _t := tokR; refine (IH.out hs1 mid e b _ (T1.perm.length_eq.trans HN.out) S1 (HS.out.perm T1.perm) (by omega) (by omega) (by have := HF.out; omega) (by have := HF.out; omega) P1.out.p3 P1.out.p4).mono ?_; rintro e3 w3 ⟨rfl, hs3, S3, P3, U3⟩; clear tokR))
              go_end0
              exact ⟨rfl, hs3, S3, ((rot_put T1 (by have := HF.out; omega) (by have := HF.out; omega)).trans undef ((St.Put.refl undef hs1 a mid).mono undef (Nat.le_refl _) (by have := HF.out; omega))).trans undef (P3.mono undef (by have := HF.out; omega) (Nat.le_refl _)), merge_end (by rw [(T1.perm.length_eq.trans HN.out)]; exact hb) (by have := HF.out; omega) (by have := HF.out; omega) P1.out.cr (St.Put.refl undef hs1 a mid) (up_left0 P1.out (by have := HF.out; omega)) P3 U3⟩
            · have g4 : s < mid := by have := HF.out; omega
              have g5 : mid < e := by have := HF.out; omega
              go_wp2_with ((go_at_call 120; refine (rotate_is HE.out hs s m e n cap _ HN.out H1.out HS.out (by omega) (by omega) (by have := HF.out; omega) hl).mono ?_; rintro e1 w1 ⟨rfl, hs1, S1, T1⟩; have P1 := Lib.hid (PARTS.out hs1 T1.at')))
              go_end0
              exact ⟨rfl, hs1, S1, ((rot_put T1 (by have := HF.out; omega) (by have := HF.out; omega)).trans undef ((St.Put.refl undef hs1 a mid).mono undef (Nat.le_refl _) (by have := HF.out; omega))).trans undef ((St.Put.refl undef hs1 mid b).mono undef (by have := HF.out; omega) (Nat.le_refl _)), merge_end (by rw [(T1.perm.length_eq.trans HN.out)]; exact hb) (by have := HF.out; omega) (by have := HF.out; omega) P1.out.cr (St.Put.refl undef hs1 a mid) (up_left0 P1.out (by have := HF.out; omega)) (St.Put.refl undef hs1 mid b) (St.Up.congr undef (ltf cf) (up_right1 P1.out (by have := HF.out; omega)) (fun k g1 g2 => (St.Put.refl undef hs1 a mid).out k (.inr g1)))⟩
        · by_cases g3 : a < s
          · by_cases g6 : e < b
            · have g4 : ¬ s < mid := by have := HF.out; omega
              have g5 : mid < e := by have := HF.out; omega
              have P1 : Hid (Parts cf hs a s mid e b) := PARTS.out hs (St.rot_id (by have := HF.out; omega) (by have := HF.out; omega) (by have := HF.out; omega) _)
              have tokR : True := trivial
              go_wp2_with ((go_at_call 98; have _t := tokR; refine (IH.out hs mid e b _ HN.out H1.out HS.out (by omega) (by omega) (by have := HF.out; omega) (by have := HF.out; omega) P1.out.p3 P1.out.p4).mono ?_; rintro e3 w3 ⟨rfl, hs3, S3, P3, U3⟩; clear tokR))
              go_end0
              exact ⟨rfl, hs3, S3, ((St.Put.refl undef hs a b).trans undef ((St.Put.refl undef hs a mid).mono undef (Nat.le_refl _) (by have := HF.out; omega))).trans undef (P3.mono undef (by have := HF.out; omega) (Nat.le_refl _)), merge_end (by rw [HN.out]; exact hb) (by have := HF.out; omega) (by have := HF.out; omega) P1.out.cr (St.Put.refl undef hs a mid) (up_left1 P1.out (by have := HF.out; omega)) P3 U3⟩
            · have g4 : ¬ s < mid := by have := HF.out; omega
              have g5 : mid < e := by have := HF.out; omega
              have P1 : Hid (Parts cf hs a s mid e b) := PARTS.out hs (St.rot_id (by have := HF.out; omega) (by have := HF.out; omega) (by have := HF.out; omega) _)
              go_wp2_with fail
              go_end0
              exact ⟨rfl, hs, H1.out, ((St.Put.refl undef hs a b).trans undef ((St.Put.refl undef hs a mid).mono undef (Nat.le_refl _) (by have := HF.out; omega))).trans undef ((St.Put.refl undef hs mid b).mono undef (by have := HF.out; omega) (Nat.le_refl _)), merge_end (by rw [HN.out]; exact hb) (by have := HF.out; omega) (by have := HF.out; omega) P1.out.cr (St.Put.refl undef hs a mid) (up_left1 P1.out (by have := HF.out; omega)) (St.Put.refl undef hs mid b) (St.Up.congr undef (ltf cf) (up_right1 P1.out (by have := HF.out; omega)) (fun k g1 g2 => (St.Put.refl undef hs a mid).out k (.inr g1)))⟩
          · by_cases g6 : e < b
            · have g4 : ¬ s < mid := by have := HF.out; omega
              have g5 : mid < e := by have := HF.out; omega
              have P1 : Hid (Parts cf hs a s mid e b) := PARTS.out hs (St.rot_id (by have := HF.out; omega) (by have := HF.out; omega) (by have := HF.out; omega) _)
              have tokR : True := trivial
              go_wp2_with ((go_at_call 98; have _t := tokR; refine (IH.out hs mid e b _ HN.out H1.out HS.out (by omega) (by omega) (by have := HF.out; omega) (by have := HF.out; omega) P1.out.p3 P1.out.p4).mono ?_; rintro e3 w3 ⟨rfl, hs3, S3, P3, U3⟩; clear tokR))
              go_end0
              exact ⟨rfl, hs3, S3, ((St.Put.refl undef hs a b).trans undef ((St.Put.refl undef hs a mid).mono undef (Nat.le_refl _) (by have := HF.out; omega))).trans undef (P3.mono undef (by have := HF.out; omega) (Nat.le_refl _)), merge_end (by rw [HN.out]; exact hb) (by have := HF.out; omega) (by have := HF.out; omega) P1.out.cr (St.Put.refl undef hs a mid) (up_left0 P1.out (by have := HF.out; omega)) P3 U3⟩
            · have g4 : ¬ s < mid := by have := HF.out; omega
              have g5 : mid < e := by have := HF.out; omega
              have P1 : Hid (Parts cf hs a s mid e b) := PARTS.out hs (St.rot_id (by have := HF.out; omega) (by have := HF.out; omega) (by have := HF.out; omega) _)
              go_wp2_with fail
              go_end0
              exact ⟨rfl, hs, H1.out, ((St.Put.refl undef hs a b).trans undef ((St.Put.refl undef hs a mid).mono undef (Nat.le_refl _) (by have := HF.out; omega))).trans undef ((St.Put.refl undef hs mid b).mono undef (by have := HF.out; omega) (Nat.le_refl _)), merge_end (by rw [HN.out]; exact hb) (by have := HF.out; omega) (by have := HF.out; omega) P1.out.cr (St.Put.refl undef hs a mid) (up_left0 P1.out (by have := HF.out; omega)) (St.Put.refl undef hs mid b) (St.Up.congr undef (ltf cf) (up_right1 P1.out (by have := HF.out; omega)) (fun k g1 g2 => (St.Put.refl undef hs a mid).out k (.inr g1)))⟩
      · by_cases g2 : m < e
        · by_cases g3 : a < s
          · have g4 : s < mid := by have := HF.out; omega
            have g5 : ¬ mid < e := by have := HF.out; omega
            have P1 : Hid (Parts cf hs a s mid e b) := PARTS.out hs (St.rot_id (by have := HF.out; omega) (by have := HF.out; omega) (by have := HF.out; omega) _)
            have tokL : True := trivial
            go_wp2_with ((go_at_call 98; have _t := tokL; refine (IH.out hs a s mid _ HN.out H1.out HS.out (by omega) (by omega) (by have := HF.out; omega) (by have := HF.out; omega) P1.out.p1 P1.out.p2).mono ?_; rintro e2 w2 ⟨rfl, hs2, S2, P2, U2⟩; clear tokL))
            go_end0
            exact ⟨rfl, hs2, S2, ((St.Put.refl undef hs a b).trans undef (P2.mono undef (Nat.le_refl _) (by have := HF.out; omega))).trans undef ((St.Put.refl undef hs2 mid b).mono undef (by have := HF.out; omega) (Nat.le_refl _)), merge_end (by rw [HN.out]; exact hb) (by have := HF.out; omega) (by have := HF.out; omega) P1.out.cr P2 U2 (St.Put.refl undef hs2 mid b) (St.Up.congr undef (ltf cf) (up_right0 P1.out (by have := HF.out; omega)) (fun k g1 g2 => P2.out k (.inr g1)))⟩
          · have g4 : s < mid := by have := HF.out; omega
            have g5 : ¬ mid < e := by have := HF.out; omega
            have P1 : Hid (Parts cf hs a s mid e b) := PARTS.out hs (St.rot_id (by have := HF.out; omega) (by have := HF.out; omega) (by have := HF.out; omega) _)
            go_wp2_with fail
            go_end0
            exact ⟨rfl, hs, H1.out, ((St.Put.refl undef hs a b).trans undef ((St.Put.refl undef hs a mid).mono undef (Nat.le_refl _) (by have := HF.out; omega))).trans undef ((St.Put.refl undef hs mid b).mono undef (by have := HF.out; omega) (Nat.le_refl _)), merge_end (by rw [HN.out]; exact hb) (by have := HF.out; omega) (by have := HF.out; omega) P1.out.cr (St.Put.refl undef hs a mid) (up_left0 P1.out (by have := HF.out; omega)) (St.Put.refl undef hs mid b) (St.Up.congr undef (ltf cf) (up_right0 P1.out (by have := HF.out; omega)) (fun k g1 g2 => (St.Put.refl undef hs a mid).out k (.inr g1)))⟩
        · by_cases g3 : a < s
          · have g4 : ¬ s < mid := by have := HF.out; omega
            have g5 : ¬ mid < e := by have := HF.out; omega
            have P1 : Hid (Parts cf hs a s mid e b) := PARTS.out hs (St.rot_id (by have := HF.out; omega) (by have := HF.out; omega) (by have := HF.out; omega) _)
            go_wp2_with fail
            go_end0
            exact ⟨rfl, hs, H1.out, ((St.Put.refl undef hs a b).trans undef ((St.Put.refl undef hs a mid).mono undef (Nat.le_refl _) (by have := HF.out; omega))).trans undef ((St.Put.refl undef hs mid b).mono undef (by have := HF.out; omega) (Nat.le_refl _)), merge_end (by rw [HN.out]; exact hb) (by have := HF.out; omega) (by have := HF.out; omega) P1.out.cr (St.Put.refl undef hs a mid) (up_left1 P1.out (by have := HF.out; omega)) (St.Put.refl undef hs mid b) (St.Up.congr undef (ltf cf) (up_right0 P1.out (by have := HF.out; omega)) (fun k g1 g2 => (St.Put.refl undef hs a mid).out k (.inr g1)))⟩
          · have g4 : ¬ s < mid := by have := HF.out; omega
            have g5 : ¬ mid < e := by have := HF.out; omega
            have P1 : Hid (Parts cf hs a s mid e b) := PARTS.out hs (St.rot_id (by have := HF.out; omega) (by have := HF.out; omega) (by have := HF.out; omega) _)
            go_wp2_with fail
            go_end0
            exact ⟨rfl, hs, H1.out, ((St.Put.refl undef hs a b).trans undef ((St.Put.refl undef hs a mid).mono undef (Nat.le_refl _) (by have := HF.out; omega))).trans undef ((St.Put.refl undef hs mid b).mono undef (by have := HF.out; omega) (Nat.le_refl _)), merge_end (by rw [HN.out]; exact hb) (by have := HF.out; omega) (by have := HF.out; omega) P1.out.cr (St.Put.refl undef hs a mid) (up_left0 P1.out (by have := HF.out; omega)) (St.Put.refl undef hs mid b) (St.Up.congr undef (ltf cf) (up_right0 P1.out (by have := HF.out; omega)) (fun k g1 g2 => (St.Put.refl undef hs a mid).out k (.inr g1)))⟩
end Go.Proofs.YtfmjeggomphliaaGreatDoor.Sr

set_option linter.unusedVariables false
set_option linter.unusedSimpArgs false
namespace Go.Proofs.YtfmjeggomphliaaGreatDoor.Sr
open Go.RowKit Go Go.Sort Ba Tb

theorem merge_all {w0 : World} {g : Nat} {S : Value → Prop} {cf : Value → Value → Int} (E : Env w0 g S cf) (n cap : Nat) (hl : n ≤ 100000) : ∀ sz, MergeOk w0 g S cf sz n cap
  | 0 => fun hs a m b w _ _ _ _ _ _ h => absurd h (Nat.not_lt_zero _)
  | sz + 1 => fun hs a m b w hn h0 hS ham hmb hb hsz hu hv => by
    have ih := merge_all E n cap hl sz
    by_cases h1 : m = a + 1
    · exact merge_first E hs a m b n cap w hn h0 hS h1 hmb hb hl hv
    by_cases h2 : b = m + 1
    · exact merge_last E hs a m b n cap w hn h0 hS (by omega) h2 hb hl hu
    by_cases h3 : (a + b) / 2 < m
    · exact merge_hi E sz n cap ih hs a m b w hn h0 hS (by omega) (by omega) hb hl (by omega) hu hv h3
    · exact merge_lo E sz n cap ih hs a m b w hn h0 hS (by omega) (by omega) hb hl (by omega) hu hv (by omega)
/-- All is sorted. -/
def SortsAll (w0 : World) (g : Nat) (cf : Value → Value → Int) (hs : List Value) (n : Nat) (e : Ending) (w' : World) : Prop :=
  e = .returned (.tuple #[]) ∧ ∃ hs', SW w0 g hs' w' ∧ hs'.Perm hs ∧ St.Up undef (ltf cf) hs' 0 n
set_option maxHeartbeats 6400000 in
set_option maxRecDepth 100000 in
theorem stable_is {w0 : World} {g : Nat} {S : Value → Prop} {cf : Value → Value → Int} (E : Env w0 g S cf) (hs : List Value) (n cap : Nat) (w : World) (hn : hs.length = n) (h0 : SW w0 g hs w) (hS : All S hs) (hl : n ≤ 10000) :
    Calls Tryz.prog 74 #[.slice (some ⟨g, 0, none⟩) n cap, .int .i64 n, .func (.func 45) #[] #[]] w (SortsAll w0 g cf hs n) := by
  have HE := Lib.hid E
  have H0 := Lib.hid h0
  have HS := Lib.hid hS
  have HN := Lib.hid hn
  have HMA := Lib.hid (merge_all E n cap (by omega))
  clear E h0 hS hn
  go_enter Tryz.func74, Tryz.ntmps74
  go_wp2_with fail
  go_loopw [7, 8] (fun va vb wr => ∃ (k A : Nat) (h1 : List Value), va = .int .i64 A ∧ vb = .int .i64 ((A + 20 : Nat) : Int) ∧ A ≤ n ∧ Hid (A = k * 20) ∧ Hid (SW w0 g h1 wr) ∧ Hid (St.Put undef hs h1 0 n) ∧ Hid (St.Ins20 undef (ltf cf) h1 k)) (fun va vb _ => n - (intOf va).toNat)
  case atStart => exact ⟨0, 0, hs, rfl, rfl, Nat.zero_le _, (rfl : 0 = 0 * 20), H0, St.Put.refl _ _ _ _, (fun t ht => absurd ht (Nat.not_lt_zero _) : St.Ins20 undef (ltf cf) hs 0)⟩
  case round =>
    clear H0
    obtain ⟨k, A, h1, rfl, rfl, hA, HK, H1, P1, I1⟩ := hrel
    have HL1 : Hid (h1.length = n) := P1.out.len.trans HN.out
    have HS1 : Hid (All S h1) := HS.out.put P1.out
    by_cases hlt : A + 20 ≤ n
    · have hlt' : (A : Int) + 20 ≤ (n : Int) := by omega
      have hc := insertion_is HE.out h1 A (A + 20) n cap wr HL1.out H1.out HS1.out (by omega) hlt (by omega)
      have HC := Lib.hid hc
      clear hc H1
      go_wp2_with (go_at_call 97; refine HC.out.mono ?_; rintro e w2 ⟨rfl, h2, S2, P2, U2⟩)
      go_roundw
      case rel => exact ⟨k + 1, A + 20, h2, by go_num, by go_num, hlt, (by have := HK.out; omega : A + 20 = (k + 1) * 20), S2, P1.out.trans undef (P2.mono undef (Nat.zero_le _) hlt), (by have hk := HK.out; subst hk; exact St.ins20_step I1.out P2 U2 : St.Ins20 undef (ltf cf) h2 (k + 1))⟩
      case measure => simp [intOf]; omega
    · have hlt' : ¬ (A : Int) + 20 ≤ (n : Int) := by omega
      have hc := insertion_is HE.out h1 A n n cap wr HL1.out H1.out HS1.out (by omega) (Nat.le_refl _) (by omega)
      have HC := Lib.hid hc
      clear hc H1
      go_wp2_with (go_at_call 97; refine HC.out.mono ?_; rintro e w2 ⟨rfl, h2, S2, P2, U2⟩)
      have HB2 : Hid (St.Blocks undef (ltf cf) h2 20 n) := by have hk := HK.out; subst hk; exact St.ins20_end I1.out P2 U2 hA (by omega)
      have HS2 := Lib.hid S2
      have PP2 : Hid (St.Put undef hs h2 0 n) := P1.out.trans undef (P2.mono undef (Nat.zero_le _) (Nat.le_refl _))
      clear S2 P2 U2 HC P1 I1 HL1 HS1 HK
      go_loopw [6] (fun vB wr => ∃ (B : Nat) (h3 : List Value), vB = .int .i64 B ∧ 0 < B ∧ B ≤ 40000 ∧ Hid (SW w0 g h3 wr) ∧ Hid (St.Put undef hs h3 0 n) ∧ Hid (St.Blocks undef (ltf cf) h3 B n)) (fun vB _ => n - (intOf vB).toNat)
      case atStart => exact ⟨20, h2, rfl, by omega, by omega, HS2, PP2, HB2⟩
      case round =>
        clear HS2 PP2 HB2
        obtain ⟨B, h3, rfl, hB0, hB1, H3, P3, B3⟩ := hrel
        by_cases hlt2 : B < n
        · have hlt2' : (B : Int) < (n : Int) := by omega
          go_wp2_with fail
          go_loopw [7, 8] (fun va vb wr => ∃ (A : Nat) (h4 : List Value), va = .int .i64 A ∧ vb = .int .i64 ((A + 2 * B : Nat) : Int) ∧ A ≤ n ∧ Hid (SW w0 g h4 wr) ∧ Hid (St.Put undef hs h4 0 n) ∧ Hid (St.Half undef (ltf cf) h4 B A n)) (fun va vb _ => n - (intOf va).toNat)
          case atStart => exact ⟨0, h3, rfl, by go_num, Nat.zero_le _, H3, P3, St.half_start B3.out⟩
          case round =>
            clear H3 P3 B3
            obtain ⟨A, h4, rfl, rfl, hA, H4, P4, F4⟩ := hrel
            have HL4 : Hid (h4.length = n) := P4.out.len.trans HN.out
            have HS4 : Hid (All S h4) := HS.out.put P4.out
            by_cases hlt3 : A + 2 * B ≤ n
            · have hlt3' : (A : Int) + 2 * (B : Int) ≤ (n : Int) := by omega
              have hu := St.half_use F4.out hlt3
              have hc := HMA.out (n + 1) h4 A (A + B) (A + 2 * B) wr HL4.out H4.out HS4.out (by omega) (by omega) hlt3 (by omega) hu.1 hu.2
              have HC := Lib.hid hc
              clear hc H4 hu
              go_wp2_with (go_at_call 98; refine HC.out.mono ?_; rintro e w2 ⟨rfl, h5, S5, P5, U5⟩)
              go_roundw
              case rel => exact ⟨A + 2 * B, h5, by go_num, by go_num, hlt3, S5, P4.out.trans undef (P5.mono undef (Nat.zero_le _) hlt3), St.half_step F4.out hlt3 P5 U5⟩
              case measure => simp [intOf]; omega
            · have hlt3' : ¬ (A : Int) + 2 * (B : Int) ≤ (n : Int) := by omega
              by_cases hm : A + B < n
              · have hm' : (A : Int) + (B : Int) < (n : Int) := by omega
                have hu := St.half_last F4.out (by omega) hm
                have hc := HMA.out (n + 1) h4 A (A + B) n wr HL4.out H4.out HS4.out (by omega) (by omega) (Nat.le_refl _) (by omega) hu.1 hu.2
                have HC := Lib.hid hc
                clear hc H4 hu
                go_wp2_with (go_at_call 98; refine HC.out.mono ?_; rintro e w2 ⟨rfl, h5, S5, P5, U5⟩)
                go_roundw
                case rel => exact ⟨2 * B, h5, by go_num, by omega, by omega, S5, P4.out.trans undef (P5.mono undef (Nat.zero_le _) (Nat.le_refl _)), St.half_end1 F4.out (by omega) hA P5 U5⟩
                case measure => simp [intOf]; omega
              · have hm' : ¬ (A : Int) + (B : Int) < (n : Int) := by omega
                go_wp2_with fail
                go_roundw
                case rel => exact ⟨2 * B, h4, by go_num, by omega, by omega, H4, P4, St.half_end2 F4.out (by omega) hA (by omega)⟩
                case measure => simp [intOf]; omega
        · have hlt2' : ¬ (B : Int) < (n : Int) := by omega
          go_wp2_with fail
          go_end0
          exact ⟨rfl, h3, H3.out, P3.out.perm, B3.out.whole undef (ltf cf) (by omega)⟩
theorem sort_is {w0 : World} {g : Nat} {S : Value → Prop} {cf : Value → Value → Int} (E : Env w0 g S cf) (hs : List Value) (n cap : Nat) (w : World) (hn : hs.length = n) (h0 : SW w0 g hs w) (hS : All S hs) (hl : n ≤ 10000) :
    Calls Tryz.prog 44 #[.slice (some ⟨g, 0, none⟩) n cap, .func (.func 45) #[] #[]] w (SortsAll w0 g cf hs n) := by
  have HC := Lib.hid (stable_is E hs n cap w hn h0 hS hl)
  clear E h0 hS hn
  go_enter Tryz.func44, Tryz.ntmps44
  go_wp2_with (go_at_call 74; refine HC.out.mono ?_; rintro e w1 ⟨rfl, h1, s1, p1, u1⟩)
  go_end0
  exact ⟨rfl, h1, s1, p1, u1⟩
/-- No row at all. -/
theorem sort_nil (w : World) :
    Calls Tryz.prog 44 #[.slice none 0 0, .func (.func 45) #[] #[]] w fun e w' => e = .returned (.tuple #[]) ∧ Below w.heap.size w w' := by
  have h1 : ∀ W : World, Calls Tryz.prog 97 #[.slice none 0 0, .int .i64 0, .int .i64 0, .func (.func 45) #[] #[]] W fun e w' => e = .returned (.tuple #[]) ∧ w' = W := by
    intro W
    go_enter Tryz.func97, Tryz.ntmps97
    go_wp2_with fail
    refine wp_loop_rounds 1 ?_
    rw [rounds_succ]
    go_wp2_with fail
    go_end0
    exact ⟨rfl, rfl⟩
  have h2 : ∀ W : World, Calls Tryz.prog 74 #[.slice none 0 0, .int .i64 0, .func (.func 45) #[] #[]] W fun e w' => e = .returned (.tuple #[]) ∧ w' = W := by
    intro W
    have H1 := Lib.hid h1
    go_enter Tryz.func74, Tryz.ntmps74
    go_wp2_with fail
    refine wp_loop_rounds 1 ?_
    rw [rounds_succ]
    go_wp2_with (go_at_call 97; refine (H1.out _).mono ?_; rintro e w1 ⟨rfl, rfl⟩)
    refine wp_loop_rounds 1 ?_
    rw [rounds_succ]
    go_wp2_with fail
    go_end0
    exact ⟨rfl, rfl⟩
  have H2 := Lib.hid h2
  clear h1 h2
  go_enter Tryz.func44, Tryz.ntmps44
  go_wp2_with (go_at_call 74; refine (H2.out _).mono ?_; rintro e w1 ⟨rfl, rfl⟩)
  go_end0
  exact ⟨rfl, Below.refl _ _⟩
end Go.Proofs.YtfmjeggomphliaaGreatDoor.Sr
