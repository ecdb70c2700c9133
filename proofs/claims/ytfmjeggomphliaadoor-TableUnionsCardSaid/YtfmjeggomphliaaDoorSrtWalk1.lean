/- Walks: the library's stable sort, a row of rows in place: insertion. -/
import Derived.Test.YtfmjeggomphliaaDoorCmpWalk
import Derived.Shelf.RegionOpenPlain
import Derived.Deep.LoopGhost
set_option linter.unusedVariables false
set_option linter.unusedSimpArgs false
namespace Go.Proofs.YtfmjeggomphliaaDoor.Sr
open Go.RowKit Go Go.Sort Ba Tb

/-- What stands at a place of a row of values. -/
abbrev at' (hs : List Value) (i : Nat) : Value := St.gt undef hs i
/-- A world of the sort: but for the block g all is as it was; there these values lie. -/
structure SW (w0 : World) (g : Nat) (hs : List Value) (W : World) : Prop where
  gr : w0.grownBy W (some g)
  gl : g < w0.heap.size
  cell : ∀ i, i < hs.length → W.cell? ⟨g, i, none⟩ = some (at' hs i)
  free : ∀ i, i < hs.length → W.frozen? ⟨g, i, none⟩ = false
theorem grown_setCell (w : World) (a : Addr) (u : Value) : w.grownBy (w.setCell a u) (some a.block) :=
  ⟨rfl, rfl, rfl, by simp, fun k _ hne => Below.heap_setCell _ _ _ _ (fun e => hne (by rw [e]))⟩
theorem grown_drew (w : World) : w.grownBy w.drew none := ⟨rfl, rfl, rfl, Nat.le_refl _, fun _ _ _ => rfl⟩
theorem grown_mono {w w' : World} (h : w.grownBy w' none) (r : Option Nat) : w.grownBy w' r := ⟨h.os, h.tape, h.output, h.size, fun k hk _ => h.block k hk (by simp)⟩
theorem SW.below {w0 W W' : World} {g : Nat} {hs : List Value} (h : SW w0 g hs W) (hb : Below W.heap.size W W') : SW w0 g hs W' := by
  have hg : g < W.heap.size := Nat.lt_of_lt_of_le h.gl h.gr.size
  exact ⟨h.gr.trans (grown_of hb _), h.gl, fun i hi => (hb.cell (by exact hg)).trans (h.cell i hi), fun i hi => (hb.frozen (by exact hg)).trans (h.free i hi)⟩
theorem SW.drew {w0 W : World} {g : Nat} {hs : List Value} (h : SW w0 g hs W) : SW w0 g hs W.drew :=
  ⟨h.gr.trans (grown_mono (grown_drew W) _), h.gl, h.cell, h.free⟩
theorem SW.set {w0 W : World} {g : Nat} {hs : List Value} (h : SW w0 g hs W) (i : Nat) (hi : i < hs.length) (u : Value) : SW w0 g (hs.set i u) (W.setCell ⟨g, i, none⟩ u) := by
  refine ⟨h.gr.trans (grown_setCell W ⟨g, i, none⟩ u), h.gl, fun k hk => ?_, fun k hk => ?_⟩
  · rw [List.length_set] at hk
    by_cases e : i = k
    · subst e
      rw [World.cell?_setCell_same _ _ _ (h.cell i hi)]
      unfold at'
      rw [St.gt_of undef (by simpa using hk)]; simp
    · rw [World.cell?_setCell_other _ _ _ _ (by intro e'; simp only [Addr.mk.injEq] at e'; exact e e'.2.1), h.cell k hk]
      unfold at'
      rw [St.gt_of undef hk, St.gt_of undef (by simpa using hk), List.getElem_set_ne e]
  · rw [List.length_set] at hk
    rw [World.frozen?_setCell]; exact h.free k hk
theorem SW.swap {w0 W : World} {g : Nat} {hs : List Value} (h : SW w0 g hs W) (i j : Nat) (hi : i < hs.length) (hj : j < hs.length) (u v : Value) (hu : at' hs j = u) (hv : at' hs i = v) :
    SW w0 g (St.sw undef hs i j) ((W.setCell ⟨g, i, none⟩ u).setCell ⟨g, j, none⟩ v) := by
  subst hu; subst hv
  exact (h.set i hi _).set j (by simpa using hj) _
/-- The comparison's contract, wherever the sort is. -/
def CmpOk (w0 : World) (g : Nat) (S : Value → Prop) (cf : Value → Value → Int) : Prop :=
  ∀ W, w0.grownBy W (some g) → ∀ x y, S x → S y → Calls Tryd.prog 39 #[x, y] W fun e w' => e = .returned (.int .i64 (cf x y)) ∧ Below W.heap.size W w'
def ltf (cf : Value → Value → Int) (x y : Value) : Bool := decide (cf x y < 0)
/-- All that the sort leans on. -/
structure Env (w0 : World) (g : Nat) (S : Value → Prop) (cf : Value → Value → Int) : Prop where
  ok : CmpOk w0 g S cf
  ord : St.Ord (ltf cf) S
  sh : ∀ x, S x → ∃ ao n c, x = .slice ao n c
def All (S : Value → Prop) (hs : List Value) : Prop := ∀ k, k < hs.length → S (at' hs k)
theorem All.put {S : Value → Prop} {xs ys : List Value} {a b : Nat} (h : All S xs) (p : St.Put undef xs ys a b) : All S ys := p.all undef h
/-- The test, in a region that draws its order. -/
theorem cmp_of {w0 : World} {g : Nat} {S : Value → Prop} {cf : Value → Value → Int} (E : Env w0 g S cf) {hs : List Value} {W : World} (h : SW w0 g hs W) {x y : Value} {c : Int} (hx : S x) (hy : S y) (hc : cf x y = c) :
    ∀ d os, Calls Tryd.prog 39 #[x, y] (grow (redrawn W d) os) fun e w'' => e = .returned (.int .i64 c) ∧ ∃ p : Regrown, w'' = grow (redrawn W p.d) p.os :=
  qcall fun W' hb => by rw [← hc]; exact E.ok W' (h.below hb).gr x y hx hy
/-- Sorted from a to b; nothing else has moved. -/
def Sorts (w0 : World) (g : Nat) (cf : Value → Value → Int) (hs : List Value) (a b : Nat) (e : Ending) (w' : World) : Prop :=
  e = .returned (.tuple #[]) ∧ ∃ hs', SW w0 g hs' w' ∧ St.Put undef hs hs' a b ∧ St.Up undef (ltf cf) hs' a b
set_option maxHeartbeats 6400000 in
set_option maxRecDepth 100000 in
theorem insertion_is {w0 : World} {g : Nat} {S : Value → Prop} {cf : Value → Value → Int} (E : Env w0 g S cf) (hs : List Value) (a b n cap : Nat) (w : World) (hn : hs.length = n) (h0 : SW w0 g hs w) (hS : All S hs) (hab : a ≤ b) (hb : b ≤ n) (hl : n ≤ 100000) :
    Calls Tryd.prog 80 #[.slice (some ⟨g, 0, none⟩) n cap, .int .i64 a, .int .i64 b, .func (.func 39) #[] #[]] w (Sorts w0 g cf hs a b) := by
  have HE := Lib.hid E
  have H0 := Lib.hid h0
  have HS := Lib.hid hS
  have HN := Lib.hid hn
  clear E h0 hS hn
  go_enter Tryd.func80, Tryd.ntmps80
  go_wp2_with fail
  go_loopw [8] (fun vi wr => ∃ (i : Nat) (hi : List Value), vi = .int .i64 i ∧ a < i ∧ (i ≤ b ∨ i = a + 1) ∧ Hid (SW w0 g hi wr) ∧ Hid (St.Put undef hs hi a b) ∧ Hid (i ≤ b → St.Up undef (ltf cf) hi a i)) (fun vi _ => b + 1 - (intOf vi).toNat)
  case atStart => exact ⟨a + 1, hs, by go_num, by omega, by omega, H0, St.Put.refl _ _ _ _, fun h => St.Up.one undef (ltf cf) HE.out.ord (fun k h1 h2 => HS.out k (by have := HN.out; omega)) (by omega)⟩
  case round =>
    clear H0
    obtain ⟨i, hi, rfl, hai, hib, H1, P1, U1⟩ := hrel
    by_cases hlt : i < b
    · have hltz : (i : Int) < (b : Int) := by omega
      go_wp2_with fail
      go_loopw [9] (fun vj wr2 => ∃ (j : Nat) (hj : List Value), vj = .int .i64 j ∧ a ≤ j ∧ j ≤ i ∧ Hid (SW w0 g hj wr2) ∧ Hid (St.Put undef hs hj a b) ∧ Hid (St.Ins undef (ltf cf) hj a i j)) (fun vj _ => (intOf vj).toNat)
      case atStart => exact ⟨i, hi, rfl, by omega, Nat.le_refl _, H1, P1, St.Ins.start undef (ltf cf) (U1.out (by omega)) (by omega)⟩
      case round =>
        clear H1 P1 U1
        obtain ⟨j, hj, rfl, haj, hji, HJ, PJ, IJ⟩ := hrel
        have HSJ : Hid (All S hj) := HS.out.put PJ.out
        have HLJ : Hid (hj.length = n) := PJ.out.len.trans HN.out
        by_cases hja : a < j
        · obtain ⟨jp, rfl⟩ : ∃ jp, j = jp + 1 := ⟨j - 1, by omega⟩
          have hjaz : (a : Int) < (jp : Int) + 1 := by omega
          obtain ⟨x, hx⟩ : ∃ x, at' hj (jp + 1) = x := ⟨_, rfl⟩
          obtain ⟨y, hy⟩ : ∃ y, at' hj jp = y := ⟨_, rfl⟩
          have l1 := HJ.out.cell (jp + 1) (by have := HLJ.out; omega)
          have l0 := HJ.out.cell jp (by have := HLJ.out; omega)
          rw [hx] at l1
          rw [hy] at l0
          have hxS : S x := by rw [← hx]; exact HSJ.out _ (by have := HLJ.out; omega)
          have hyS : S y := by rw [← hy]; exact HSJ.out _ (by have := HLJ.out; omega)
          obtain ⟨xa, xn, xc, rfl⟩ := HE.out.sh x hxS
          obtain ⟨ya, yn, yc, rfl⟩ := HE.out.sh y hyS
          have HX := Lib.hid hx
          have HY := Lib.hid hy
          obtain ⟨c, hc⟩ : ∃ c, cf (.slice xa xn xc) (.slice ya yn yc) = c := ⟨_, rfl⟩
          have cA := cmp_of HE.out HJ.out hxS hyS hc
          have HC := Lib.hid hc
          have b1 : (jp : Int) + 1 < (n : Int) := by omega
          have b0 : (jp : Int) < (n : Int) := by omega
          clear hx hy hc hxS hyS
          by_cases c0 : c < 0
          · have m1 := cell_regrown l1
            have m0 := cell_regrown l0
            go_wp2_with fail
            refine wp_region_quiet_below (by kernel_rfl) (by kernel_rfl) ?_
            repeat (go_big_quiet_step (with_reducible (first | exact cA _ _)))
            refine wpQuiet_nil ?_
            intro _ hw'
            obtain ⟨⟨dq1, os1⟩, hw''⟩ := hw'
            subst hw''
            have HJ2 := Lib.hid (HJ.out.below (below_regrown wr dq1 os1))
            have l1 := m1 dq1 os1
            have l0 := m0 dq1 os1
            clear HJ cA m1 m0
            generalize grow (redrawn wr dq1) os1 = w2 at *
            have f1 := HJ2.out.free (jp + 1) (by have := HLJ.out; omega)
            have f0 := HJ2.out.free jp (by have := HLJ.out; omega)
            have k0 := (World.cell?_setCell_other w2 ⟨g, jp + 1, none⟩ ⟨g, jp, none⟩ (.slice ya yn yc) (by intro e; simp only [Addr.mk.injEq] at e; omega)).trans l0
            have HJ3 : Hid (SW w0 g (St.sw undef hj (jp + 1) jp) ((w2.setCell ⟨g, jp + 1, none⟩ (.slice ya yn yc)).setCell ⟨g, jp, none⟩ (.slice xa xn xc)).drew) := (HJ2.out.swap (jp + 1) jp (by have := HLJ.out; omega) (by have := HLJ.out; omega) _ _ HY.out HX.out).drew
            have mixed : Tryd.prog.follows .mixedOrders = true := by kernel_rfl
            go_wp2_with fail
            go_big_region_o
            clear l1 l0 f1 f0 k0 HJ2
            generalize ((w2.setCell ⟨g, jp + 1, none⟩ (.slice ya yn yc)).setCell ⟨g, jp, none⟩ (.slice xa xn xc)).drew = w3 at HJ3 ⊢
            go_wp2_with fail
            go_roundw
            case rel => exact ⟨jp, _, rfl, by omega, by omega, HJ3, PJ.out.trans undef (St.Put.sw undef (by have := HLJ.out; omega) (by have := HLJ.out; omega) (by omega) (by omega) (by omega) (by omega)), St.Ins.step undef (ltf cf) HE.out.ord IJ.out (by omega) (by have := HLJ.out; omega) (fun k hk => HSJ.out k (by have := HLJ.out; omega)) (by show ltf cf (at' hj (jp + 1)) (at' hj jp) = true; rw [HX.out, HY.out]; unfold ltf; rw [HC.out]; exact decide_eq_true c0)⟩
            case measure => simp [intOf]
          · have d0 : decide (c < 0) = false := decide_eq_false c0
            have UP : Hid (i + 1 ≤ b → St.Up undef (ltf cf) hj a (i + 1)) := fun _ => St.Ins.stop undef (ltf cf) HE.out.ord IJ.out (fun k hk => HSJ.out k (by have := HLJ.out; omega)) (.inr ⟨by omega, by show ltf cf (at' hj (jp + 1)) (at' hj jp) = false; rw [HX.out, HY.out]; unfold ltf; rw [HC.out]; exact d0⟩)
            have m1 := cell_regrown l1
            have m0 := cell_regrown l0
            clear l1 l0
            go_wp2_with fail
            refine wp_region_quiet_below (by kernel_rfl) (by kernel_rfl) ?_
            repeat (go_big_quiet_step (with_reducible (first | exact cA _ _)))
            refine wpQuiet_nil ?_
            intro _ hw'
            obtain ⟨⟨dq1, os1⟩, hw''⟩ := hw'
            subst hw''
            have HJ2 := Lib.hid (HJ.out.below (below_regrown wr dq1 os1))
            clear HJ cA m1 m0
            generalize grow (redrawn wr dq1) os1 = w2 at *
            go_wp2_with fail
            go_roundw
            case rel => exact ⟨i + 1, hj, by go_num, by omega, by omega, HJ2, PJ, UP⟩
            case measure => simp [intOf]; omega
        · have ej : j = a := by omega
          subst ej
          have UP : Hid (i + 1 ≤ b → St.Up undef (ltf cf) hj j (i + 1)) := fun _ => St.Ins.stop undef (ltf cf) HE.out.ord IJ.out (fun k hk => HSJ.out k (by have := HLJ.out; omega)) (.inl rfl)
          go_wp2_with fail
          refine wp_region_quiet_below (by kernel_rfl) (by kernel_rfl) ?_
          repeat (go_big_quiet_step (with_reducible (fail)))
          refine wpQuiet_nil ?_
          intro _ hw'
          obtain ⟨⟨dq1, os1⟩, hw''⟩ := hw'
          subst hw''
          have HJ2 := Lib.hid (HJ.out.below (below_regrown wr dq1 os1))
          clear HJ
          generalize grow (redrawn wr dq1) os1 = w2 at *
          go_wp2_with fail
          go_roundw
          case rel => exact ⟨i + 1, hj, by go_num, by omega, by omega, HJ2, PJ, UP⟩
          case measure => simp [intOf]; omega
    · have UP : Hid (St.Up undef (ltf cf) hi a b) := by
        show St.Up undef (ltf cf) hi a b
        by_cases e : i = b
        · subst e; exact U1.out (Nat.le_refl _)
        · intro p q h1 h2 h3; omega
      go_wp2_with fail
      go_end0
      exact ⟨rfl, hi, H1.out, P1.out, UP.out⟩
end Go.Proofs.YtfmjeggomphliaaDoor.Sr
