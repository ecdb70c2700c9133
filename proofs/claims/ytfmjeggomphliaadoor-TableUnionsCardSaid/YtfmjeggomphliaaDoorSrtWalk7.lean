/- Walks: the library's stable sort, whole. -/
import Derived.Test.YtfmjeggomphliaaDoorSrtWalk3
import Derived.Test.YtfmjeggomphliaaDoorSrtWalk4
import Derived.Test.YtfmjeggomphliaaDoorSrtWalk5
import Derived.Test.YtfmjeggomphliaaDoorSrtWalk6
import Derived.Test.YtfmjeggomphliaaDoorSortMath3
set_option linter.unusedVariables false
set_option linter.unusedSimpArgs false
namespace Go.Proofs.YtfmjeggomphliaaDoor.Sr
open Go.RowKit Go Go.Sort Ba Tb

theorem merge_all {w0 : World} {g : Nat} {S : Value → Prop} {cf : Value → Value → Int} (E : Env w0 g S cf) (n cap : Nat) (hl : n ≤ 100000) : ∀ sz, MergeOk w0 g S cf sz n cap
  | 0 => fun hs a m b w _ _ _ _ _ _ h => absurd h (Nat.not_lt_zero _)
  | sz + 1 => fun hs a m b w hn h0 hS ham hmb hb hsz hu hv => by
    have ih := merge_all E n cap hl sz
    by_cases h1 : m = a + 1
    · exact merge_first E hs a m b n cap w hn h0 hS h1 hmb hb hl hv
    by_cases h2 : b = m + 1
    · exact merge_last E hs a m b n cap w hn h0 hS (by omega) h2 hb hl hu
    by_cases h3 : (a + b) / 2 < m
    · exact merge_hi E sz n cap ih hs a m b w hn h0 hS (by omega) (by omega) hb hl (by omega) hu hv h3
    · exact merge_lo E sz n cap ih hs a m b w hn h0 hS (by omega) (by omega) hb hl (by omega) hu hv (by omega)
/-- All is sorted. -/
def SortsAll (w0 : World) (g : Nat) (cf : Value → Value → Int) (hs : List Value) (n : Nat) (e : Ending) (w' : World) : Prop :=
  e = .returned (.tuple #[]) ∧ ∃ hs', SW w0 g hs' w' ∧ hs'.Perm hs ∧ St.Up undef (ltf cf) hs' 0 n
set_option maxHeartbeats 6400000 in
set_option maxRecDepth 100000 in
theorem stable_is {w0 : World} {g : Nat} {S : Value → Prop} {cf : Value → Value → Int} (E : Env w0 g S cf) (hs : List Value) (n cap : Nat) (w : World) (hn : hs.length = n) (h0 : SW w0 g hs w) (hS : All S hs) (hl : n ≤ 10000) :
    Calls Tryd.prog 64 #[.slice (some ⟨g, 0, none⟩) n cap, .int .i64 n, .func (.func 39) #[] #[]] w (SortsAll w0 g cf hs n) := by
  have HE := Lib.hid E
  have H0 := Lib.hid h0
  have HS := Lib.hid hS
  have HN := Lib.hid hn
  have HMA := Lib.hid (merge_all E n cap (by omega))
  clear E h0 hS hn
  go_enter Tryd.func64, Tryd.ntmps64
  go_wp2_with fail
  go_loopw [7, 8] (fun va vb wr => ∃ (k A : Nat) (h1 : List Value), va = .int .i64 A ∧ vb = .int .i64 ((A + 20 : Nat) : Int) ∧ A ≤ n ∧ Hid (A = k * 20) ∧ Hid (SW w0 g h1 wr) ∧ Hid (St.Put undef hs h1 0 n) ∧ Hid (St.Ins20 undef (ltf cf) h1 k)) (fun va vb _ => n - (intOf va).toNat)
  case atStart => exact ⟨0, 0, hs, rfl, rfl, Nat.zero_le _, (rfl : 0 = 0 * 20), H0, St.Put.refl _ _ _ _, (fun t ht => absurd ht (Nat.not_lt_zero _) : St.Ins20 undef (ltf cf) hs 0)⟩
  case round =>
    clear H0
    obtain ⟨k, A, h1, rfl, rfl, hA, HK, H1, P1, I1⟩ := hrel
    have HL1 : Hid (h1.length = n) := P1.out.len.trans HN.out
    have HS1 : Hid (All S h1) := HS.out.put P1.out
    by_cases hlt : A + 20 ≤ n
    · have hlt' : (A : Int) + 20 ≤ (n : Int) := by omega
      have hc := insertion_is HE.out h1 A (A + 20) n cap wr HL1.out H1.out HS1.out (by omega) hlt (by omega)
      have HC := Lib.hid hc
      clear hc H1
      go_wp2_with (go_at_call 80; refine HC.out.mono ?_; rintro e w2 ⟨rfl, h2, S2, P2, U2⟩)
      go_roundw
      case rel => exact ⟨k + 1, A + 20, h2, by go_num, by go_num, hlt, (by have := HK.out; omega : A + 20 = (k + 1) * 20), S2, P1.out.trans undef (P2.mono undef (Nat.zero_le _) hlt), (by have hk := HK.out; subst hk; exact St.ins20_step I1.out P2 U2 : St.Ins20 undef (ltf cf) h2 (k + 1))⟩
      case measure => simp [intOf]; omega
    · have hlt' : ¬ (A : Int) + 20 ≤ (n : Int) := by omega
      have hc := insertion_is HE.out h1 A n n cap wr HL1.out H1.out HS1.out (by omega) (Nat.le_refl _) (by omega)
      have HC := Lib.hid hc
      clear hc H1
      go_wp2_with (go_at_call 80; refine HC.out.mono ?_; rintro e w2 ⟨rfl, h2, S2, P2, U2⟩)
      have HB2 : Hid (St.Blocks undef (ltf cf) h2 20 n) := by have hk := HK.out; subst hk; exact St.ins20_end I1.out P2 U2 hA (by omega)
      have HS2 := Lib.hid S2
      have PP2 : Hid (St.Put undef hs h2 0 n) := P1.out.trans undef (P2.mono undef (Nat.zero_le _) (Nat.le_refl _))
      clear S2 P2 U2 HC P1 I1 HL1 HS1 HK
      go_loopw [6] (fun vB wr => ∃ (B : Nat) (h3 : List Value), vB = .int .i64 B ∧ 0 < B ∧ B ≤ 40000 ∧ Hid (SW w0 g h3 wr) ∧ Hid (St.Put undef hs h3 0 n) ∧ Hid (St.Blocks undef (ltf cf) h3 B n)) (fun vB _ => n - (intOf vB).toNat)
      case atStart => exact ⟨20, h2, rfl, by omega, by omega, HS2, PP2, HB2⟩
      case round =>
        clear HS2 PP2 HB2
        obtain ⟨B, h3, rfl, hB0, hB1, H3, P3, B3⟩ := hrel
        by_cases hlt2 : B < n
        · have hlt2' : (B : Int) < (n : Int) := by omega
          go_wp2_with fail
          go_loopw [7, 8] (fun va vb wr => ∃ (A : Nat) (h4 : List Value), va = .int .i64 A ∧ vb = .int .i64 ((A + 2 * B : Nat) : Int) ∧ A ≤ n ∧ Hid (SW w0 g h4 wr) ∧ Hid (St.Put undef hs h4 0 n) ∧ Hid (St.Half undef (ltf cf) h4 B A n)) (fun va vb _ => n - (intOf va).toNat)
          case atStart => exact ⟨0, h3, rfl, by go_num, Nat.zero_le _, H3, P3, St.half_start B3.out⟩
          case round =>
            clear H3 P3 B3
            obtain ⟨A, h4, rfl, rfl, hA, H4, P4, F4⟩ := hrel
            have HL4 : Hid (h4.length = n) := P4.out.len.trans HN.out
            have HS4 : Hid (All S h4) := HS.out.put P4.out
            by_cases hlt3 : A + 2 * B ≤ n
            · have hlt3' : (A : Int) + 2 * (B : Int) ≤ (n : Int) := by omega
              have hu := St.half_use F4.out hlt3
              have hc := HMA.out (n + 1) h4 A (A + B) (A + 2 * B) wr HL4.out H4.out HS4.out (by omega) (by omega) hlt3 (by omega) hu.1 hu.2
              have HC := Lib.hid hc
              clear hc H4 hu
              go_wp2_with (go_at_call 81; refine HC.out.mono ?_; rintro e w2 ⟨rfl, h5, S5, P5, U5⟩)
              go_roundw
              case rel => exact ⟨A + 2 * B, h5, by go_num, by go_num, hlt3, S5, P4.out.trans undef (P5.mono undef (Nat.zero_le _) hlt3), St.half_step F4.out hlt3 P5 U5⟩
              case measure => simp [intOf]; omega
            · have hlt3' : ¬ (A : Int) + 2 * (B : Int) ≤ (n : Int) := by omega
              by_cases hm : A + B < n
              · have hm' : (A : Int) + (B : Int) < (n : Int) := by omega
                have hu := St.half_last F4.out (by omega) hm
                have hc := HMA.out (n + 1) h4 A (A + B) n wr HL4.out H4.out HS4.out (by omega) (by omega) (Nat.le_refl _) (by omega) hu.1 hu.2
                have HC := Lib.hid hc
                clear hc H4 hu
                go_wp2_with (go_at_call 81; refine HC.out.mono ?_; rintro e w2 ⟨rfl, h5, S5, P5, U5⟩)
                go_roundw
                case rel => exact ⟨2 * B, h5, by go_num, by omega, by omega, S5, P4.out.trans undef (P5.mono undef (Nat.zero_le _) (Nat.le_refl _)), St.half_end1 F4.out (by omega) hA P5 U5⟩
                case measure => simp [intOf]; omega
              · have hm' : ¬ (A : Int) + (B : Int) < (n : Int) := by omega
                go_wp2_with fail
                go_roundw
                case rel => exact ⟨2 * B, h4, by go_num, by omega, by omega, H4, P4, St.half_end2 F4.out (by omega) hA (by omega)⟩
                case measure => simp [intOf]; omega
        · have hlt2' : ¬ (B : Int) < (n : Int) := by omega
          go_wp2_with fail
          go_end0
          exact ⟨rfl, h3, H3.out, P3.out.perm, B3.out.whole undef (ltf cf) (by omega)⟩
theorem sort_is {w0 : World} {g : Nat} {S : Value → Prop} {cf : Value → Value → Int} (E : Env w0 g S cf) (hs : List Value) (n cap : Nat) (w : World) (hn : hs.length = n) (h0 : SW w0 g hs w) (hS : All S hs) (hl : n ≤ 10000) :
    Calls Tryd.prog 42 #[.slice (some ⟨g, 0, none⟩) n cap, .func (.func 39) #[] #[]] w (SortsAll w0 g cf hs n) := by
  have HC := Lib.hid (stable_is E hs n cap w hn h0 hS hl)
  clear E h0 hS hn
  go_enter Tryd.func42, Tryd.ntmps42
  go_wp2_with (go_at_call 64; refine HC.out.mono ?_; rintro e w1 ⟨rfl, h1, s1, p1, u1⟩)
  go_end0
  exact ⟨rfl, h1, s1, p1, u1⟩
/-- No row at all. -/
theorem sort_nil (w : World) :
    Calls Tryd.prog 42 #[.slice none 0 0, .func (.func 39) #[] #[]] w fun e w' => e = .returned (.tuple #[]) ∧ Below w.heap.size w w' := by
  have h1 : ∀ W : World, Calls Tryd.prog 80 #[.slice none 0 0, .int .i64 0, .int .i64 0, .func (.func 39) #[] #[]] W fun e w' => e = .returned (.tuple #[]) ∧ w' = W := by
    intro W
    go_enter Tryd.func80, Tryd.ntmps80
    go_wp2_with fail
    refine wp_loop_rounds 1 ?_
    rw [rounds_succ]
    go_wp2_with fail
    go_end0
    exact ⟨rfl, rfl⟩
  have h2 : ∀ W : World, Calls Tryd.prog 64 #[.slice none 0 0, .int .i64 0, .func (.func 39) #[] #[]] W fun e w' => e = .returned (.tuple #[]) ∧ w' = W := by
    intro W
    have H1 := Lib.hid h1
    go_enter Tryd.func64, Tryd.ntmps64
    go_wp2_with fail
    refine wp_loop_rounds 1 ?_
    rw [rounds_succ]
    go_wp2_with (go_at_call 80; refine (H1.out _).mono ?_; rintro e w1 ⟨rfl, rfl⟩)
    refine wp_loop_rounds 1 ?_
    rw [rounds_succ]
    go_wp2_with fail
    go_end0
    exact ⟨rfl, rfl⟩
  have H2 := Lib.hid h2
  clear h1 h2
  go_enter Tryd.func42, Tryd.ntmps42
  go_wp2_with (go_at_call 64; refine (H2.out _).mono ?_; rintro e w1 ⟨rfl, rfl⟩)
  go_end0
  exact ⟨rfl, Below.refl _ _⟩
end Go.Proofs.YtfmjeggomphliaaDoor.Sr
