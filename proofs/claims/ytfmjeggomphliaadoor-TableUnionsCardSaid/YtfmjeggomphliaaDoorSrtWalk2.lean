/- Walks: the library's stable sort: blocks exchanged, halves turned. -/
import Derived.Test.YtfmjeggomphliaaDoorSrtWalk1
set_option linter.unusedVariables false
set_option linter.unusedSimpArgs false
namespace Go.Proofs.YtfmjeggomphliaaDoor.Sr
open Go.RowKit Go Go.Sort Ba Tb

/-- The same things, these at these places. -/
structure Turned (hs hs' : List Value) (f : Nat → Value) : Prop where
  perm : hs'.Perm hs
  at' : ∀ k, St.gt undef hs' k = f k
def Turns (w0 : World) (g : Nat) (hs : List Value) (f : Nat → Value) (e : Ending) (w' : World) : Prop :=
  e = .returned (.tuple #[]) ∧ ∃ hs', SW w0 g hs' w' ∧ Turned hs hs' f
theorem All.perm {S : Value → Prop} {xs ys : List Value} (h : All S xs) (p : ys.Perm xs) : All S ys := by
  intro k hk
  have h1 : St.gt undef ys k ∈ ys := by rw [St.gt_of undef hk]; exact List.getElem_mem hk
  obtain ⟨j, hj, e⟩ := List.mem_iff_getElem.1 (p.mem_iff.1 h1)
  rw [at', ← e, ← St.gt_of undef hj]
  exact h j hj
set_option maxHeartbeats 3200000 in
set_option maxRecDepth 100000 in
theorem swapRange_is {w0 : World} {g : Nat} {S : Value → Prop} {cf : Value → Value → Int} (E : Env w0 g S cf) (hs : List Value) (a b t n cap : Nat) (w : World) (hn : hs.length = n) (h0 : SW w0 g hs w) (hS : All S hs) (hab : a + t ≤ b) (hb : b + t ≤ n) (hl : n ≤ 100000) :
    Calls Tryd.prog 92 #[.slice (some ⟨g, 0, none⟩) n cap, .int .i64 a, .int .i64 b, .int .i64 t, .func (.func 39) #[] #[]] w (Turns w0 g hs (St.Swr a b t (St.gt undef hs))) := by
  have HE := Lib.hid E
  have H0 := Lib.hid h0
  have HS := Lib.hid hS
  have HN := Lib.hid hn
  have mixed : Tryd.prog.follows .mixedOrders = true := by kernel_rfl
  clear E h0 hS hn
  go_enter Tryd.func92, Tryd.ntmps92
  go_wp2_with fail
  go_loopw [10] (fun vi wr => ∃ (i : Nat) (hi : List Value), vi = .int .i64 i ∧ i ≤ t ∧ Hid (SW w0 g hi wr) ∧ Hid (Turned hs hi (St.Swr a b i (St.gt undef hs)))) (fun vi _ => t - (intOf vi).toNat)
  case atStart => exact ⟨0, hs, rfl, Nat.zero_le _, H0, (⟨List.Perm.refl _, fun k => by unfold St.Swr; rw [if_neg (by omega), if_neg (by omega)]⟩ : Turned hs hs _)⟩
  case round =>
    clear H0
    obtain ⟨i, hi, rfl, hit, H1, T1⟩ := hrel
    have HL1 : Hid (hi.length = n) := T1.out.perm.length_eq.trans HN.out
    have HS1 : Hid (All S hi) := HS.out.perm T1.out.perm
    by_cases hlt : i < t
    · have l1 := H1.out.cell (a + i) (by have := HL1.out; omega)
      have l0 := H1.out.cell (b + i) (by have := HL1.out; omega)
      have hxS := HS1.out (a + i) (by have := HL1.out; omega)
      have hyS := HS1.out (b + i) (by have := HL1.out; omega)
      obtain ⟨xa, xn, xc, hx⟩ := HE.out.sh _ hxS
      obtain ⟨ya, yn, yc, hy⟩ := HE.out.sh _ hyS
      rw [hx] at l1
      rw [hy] at l0
      have HX := Lib.hid hx
      have HY := Lib.hid hy
      have b1 : (a : Int) + (i : Int) < (n : Int) := by omega
      have b0 : (b : Int) + (i : Int) < (n : Int) := by omega
      have p1 : (0 : Int) ≤ (a : Int) + (i : Int) := by omega
      have p0 : (0 : Int) ≤ (b : Int) + (i : Int) := by omega
      have e1 : ((a : Int) + (i : Int)).toNat = a + i := by omega
      have e0 : ((b : Int) + (i : Int)).toNat = b + i := by omega
      have f1 := H1.out.free (a + i) (by have := HL1.out; omega)
      have f0 := H1.out.free (b + i) (by have := HL1.out; omega)
      have k0 := (World.cell?_setCell_other wr ⟨g, a + i, none⟩ ⟨g, b + i, none⟩ (.slice ya yn yc) (by intro e; simp only [Addr.mk.injEq] at e; omega)).trans l0
      have HJ3 : Hid (SW w0 g (St.sw undef hi (a + i) (b + i)) ((wr.setCell ⟨g, a + i, none⟩ (.slice ya yn yc)).setCell ⟨g, b + i, none⟩ (.slice xa xn xc)).drew) := (H1.out.swap (a + i) (b + i) (by have := HL1.out; omega) (by have := HL1.out; omega) _ _ HY.out HX.out).drew
      clear hx hy hxS hyS
      go_wp2_with fail
      go_big_region_o
      clear l1 l0 f1 f0 k0 H1
      generalize ((wr.setCell ⟨g, a + i, none⟩ (.slice ya yn yc)).setCell ⟨g, b + i, none⟩ (.slice xa xn xc)).drew = w3 at HJ3 ⊢
      go_wp2_with fail
      go_roundw
      case rel => exact ⟨i + 1, _, by go_num, by omega, HJ3, (⟨(St.sw_perm undef (by have := HL1.out; omega) (by have := HL1.out; omega)).trans T1.out.perm, St.swr_step undef (by omega) (by have := HL1.out; omega) T1.out.at'⟩ : Turned hs _ _)⟩
      case measure => simp [intOf]; omega
    · obtain rfl : i = t := by omega
      go_wp2_with fail
      go_end0
      exact ⟨rfl, hi, H1.out, T1.out⟩
set_option maxHeartbeats 3200000 in
set_option maxRecDepth 100000 in
theorem rotate_is {w0 : World} {g : Nat} {S : Value → Prop} {cf : Value → Value → Int} (E : Env w0 g S cf) (hs : List Value) (a m b n cap : Nat) (w : World) (hn : hs.length = n) (h0 : SW w0 g hs w) (hS : All S hs) (ham : a < m) (hmb : m < b) (hb : b ≤ n) (hl : n ≤ 100000) :
    Calls Tryd.prog 88 #[.slice (some ⟨g, 0, none⟩) n cap, .int .i64 a, .int .i64 m, .int .i64 b, .func (.func 39) #[] #[]] w (Turns w0 g hs (St.Rot a m b (St.gt undef hs))) := by
  have HE := Lib.hid E
  have H0 := Lib.hid h0
  have HS := Lib.hid hS
  have HN := Lib.hid hn
  clear E h0 hS hn
  obtain ⟨i0, hi0⟩ : ∃ i0, i0 = m - a := ⟨_, rfl⟩
  obtain ⟨j0, hj0⟩ : ∃ j0, j0 = b - m := ⟨_, rfl⟩
  have ea : (m : Int) - (a : Int) = (i0 : Int) := by omega
  have eb : (b : Int) - (m : Int) = (j0 : Int) := by omega
  have wa : IntKind.i64.wrap ((m : Int) - (a : Int)) = (i0 : Int) := by rw [ea]; exact IntWalk.i64_in _ (by omega)
  have wb : IntKind.i64.wrap ((b : Int) - (m : Int)) = (j0 : Int) := by rw [eb]; exact IntWalk.i64_in _ (by omega)
  have HI := Lib.hid hi0
  have HJ := Lib.hid hj0
  clear hi0 hj0
  go_enter Tryd.func88, Tryd.ntmps88
  go_wp2_with fail
  clear wa wb ea eb
  go_loopw [10, 11] (fun vi vj wr => ∃ (i j : Nat) (hi : List Value), vi = .int .i64 i ∧ vj = .int .i64 j ∧ 0 < i ∧ 0 < j ∧ i ≤ m - a ∧ j ≤ b - m ∧ Hid (SW w0 g hi wr) ∧ Hid (hi.Perm hs) ∧ Hid (∀ k, St.Rot (m - i) m (m + j) (St.gt undef hi) k = St.Rot a m b (St.gt undef hs) k)) (fun vi vj _ => (intOf vi).toNat + (intOf vj).toNat)
  case atStart => exact ⟨i0, j0, hs, rfl, rfl, by have := HI.out; omega, by have := HJ.out; omega, by have := HI.out; omega, by have := HJ.out; omega, H0, List.Perm.refl _, (fun k => by rw [show m - i0 = a by have := HI.out; omega, show m + j0 = b by have := HJ.out; omega] : ∀ k, St.Rot (m - i0) m (m + j0) (St.gt undef hs) k = St.Rot a m b (St.gt undef hs) k)⟩
  case round =>
    clear H0
    obtain ⟨i, j, hi, rfl, rfl, i0', j0', him, hjm, H1, P1, R1⟩ := hrel
    have HL1 : Hid (hi.length = n) := P1.out.length_eq.trans HN.out
    have HS1 : Hid (All S hi) := HS.out.perm P1.out
    have w1 : IntKind.i64.wrap ((m : Int) - (i : Int)) = ((m - i : Nat) : Int) := by rw [IntWalk.i64_in _ (by omega)]; omega
    by_cases hne : i = j
    · subst hne
      have hc := swapRange_is HE.out hi (m - i) m i n cap wr HL1.out H1.out HS1.out (by omega) (by omega) hl
      have HC := Lib.hid hc
      clear hc
      go_wp2_with (go_at_call 92; refine HC.out.mono ?_; rintro e w2 ⟨rfl, hs', S2, T2⟩)
      go_end0
      refine ⟨rfl, hs', S2, T2.perm.trans P1.out, fun k => ?_⟩
      rw [T2.at', ← R1.out]
      exact St.rot_eq (by omega) _ k
    · have hne' : ((i : Int) != (j : Int)) = true := by simp; omega
      by_cases hgt : j < i
      · have hc := swapRange_is HE.out hi (m - i) m j n cap wr HL1.out H1.out HS1.out (by omega) (by omega) hl
        have HC := Lib.hid hc
        have w2 : IntKind.i64.wrap ((i : Int) - (j : Int)) = ((i - j : Nat) : Int) := by rw [IntWalk.i64_in _ (by omega)]; omega
        clear hc
        go_wp2_with (go_at_call 92; refine HC.out.mono ?_; rintro e w2 ⟨rfl, hs', S2, T2⟩)
        go_roundw
        case rel => exact ⟨i - j, j, hs', rfl, rfl, by omega, by omega, by omega, by omega, S2, T2.perm.trans P1.out, (fun k => by rw [← R1.out, show St.gt undef hs' = _ from funext T2.at']; exact St.rot_gt hgt (by omega) _ k : ∀ k, St.Rot (m - (i - j)) m (m + j) (St.gt undef hs') k = St.Rot a m b (St.gt undef hs) k)⟩
        case measure => simp [intOf]; omega
      · have hc := swapRange_is HE.out hi (m - i) (m + j - i) i n cap wr HL1.out H1.out HS1.out (by omega) (by omega) hl
        have HC := Lib.hid hc
        have w2 : IntKind.i64.wrap ((j : Int) - (i : Int)) = ((j - i : Nat) : Int) := by rw [IntWalk.i64_in _ (by omega)]; omega
        have w3 : IntKind.i64.wrap ((m : Int) + (j : Int) - (i : Int)) = ((m + j - i : Nat) : Int) := by rw [IntWalk.i64_in _ (by omega)]; omega
        clear hc
        go_wp2_with (go_at_call 92; refine HC.out.mono ?_; rintro e w2 ⟨rfl, hs', S2, T2⟩)
        go_roundw
        case rel => exact ⟨i, j - i, hs', rfl, rfl, by omega, by omega, by omega, by omega, S2, T2.perm.trans P1.out, (fun k => by rw [← R1.out, show St.gt undef hs' = _ from funext T2.at']; exact St.rot_lt (by omega) (by omega) _ k : ∀ k, St.Rot (m - i) m (m + (j - i)) (St.gt undef hs') k = St.Rot a m b (St.gt undef hs) k)⟩
        case measure => simp [intOf]; omega
end Go.Proofs.YtfmjeggomphliaaDoor.Sr
