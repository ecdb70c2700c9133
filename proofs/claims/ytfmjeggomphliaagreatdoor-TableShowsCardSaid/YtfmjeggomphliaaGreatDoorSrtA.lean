/- Walks: the library's stable sort, a row of rows in place: insertion. -/
import Derived.Test.YtfmjeggomphliaaGreatDoorCmpWalk
import Derived.Shelf.RegionOpenPlain
import Derived.Deep.LoopGhost
set_option linter.unusedVariables false
set_option linter.unusedSimpArgs false
namespace Go.Proofs.YtfmjeggomphliaaGreatDoor.Sr
open Go.RowKit Go Go.Sort Ba Tb

/-- What stands at a place of a row of values. -/
abbrev at' (hs : List Value) (i : Nat) : Value := St.gt undef hs i
/-- A world of the sort: but for the block g all is as it was; there these values lie. -/
structure SW (w0 : World) (g : Nat) (hs : List Value) (W : World) : Prop where
  gr : w0.grownBy W (some g)
  gl : g < w0.heap.size
  cell : ∀ i, i < hs.length → W.cell? ⟨g, i, none⟩ = some (at' hs i)
  free : ∀ i, i < hs.length → W.frozen? ⟨g, i, none⟩ = false
theorem grown_setCell (w : World) (a : Addr) (u : Value) : w.grownBy (w.setCell a u) (some a.block) :=
  ⟨rfl, rfl, rfl, by simp, fun k _ hne => Below.heap_setCell _ _ _ _ (fun e => hne (by rw [e]))⟩
theorem grown_drew (w : World) : w.grownBy w.drew none := ⟨rfl, rfl, rfl, Nat.le_refl _, fun _ _ _ => rfl⟩
theorem grown_mono {w w' : World} (h : w.grownBy w' none) (r : Option Nat) : w.grownBy w' r := ⟨h.os, h.tape, h.output, h.size, fun k hk _ => h.block k hk (by simp)⟩
theorem SW.below {w0 W W' : World} {g : Nat} {hs : List Value} (h : SW w0 g hs W) (hb : Below W.heap.size W W') : SW w0 g hs W' := by
  have hg : g < W.heap.size := Nat.lt_of_lt_of_le h.gl h.gr.size
  exact ⟨h.gr.trans (grown_of hb _), h.gl, fun i hi => (hb.cell (by exact hg)).trans (h.cell i hi), fun i hi => (hb.frozen (by exact hg)).trans (h.free i hi)⟩
theorem SW.drew {w0 W : World} {g : Nat} {hs : List Value} (h : SW w0 g hs W) : SW w0 g hs W.drew :=
  ⟨h.gr.trans (grown_mono (grown_drew W) _), h.gl, h.cell, h.free⟩
theorem SW.set {w0 W : World} {g : Nat} {hs : List Value} (h : SW w0 g hs W) (i : Nat) (hi : i < hs.length) (u : Value) : SW w0 g (hs.set i u) (W.setCell ⟨g, i, none⟩ u) := by
  refine ⟨h.gr.trans (grown_setCell W ⟨g, i, none⟩ u), h.gl, fun k hk => ?_, fun k hk => ?_⟩
  · rw [List.length_set] at hk
    by_cases e : i = k
    · subst e
      rw [World.cell?_setCell_same _ _ _ (h.cell i hi)]
      unfold at'
      rw [St.gt_of undef (by simpa using hk)]; simp
    · rw [World.cell?_setCell_other _ _ _ _ (by intro e'; simp only [Addr.mk.injEq] at e'; exact e e'.2.1), h.cell k hk]
      unfold at'
      rw [St.gt_of undef hk, St.gt_of undef (by simpa using hk), List.getElem_set_ne e]
  · rw [List.length_set] at hk
    rw [World.frozen?_setCell]; exact h.free k hk
theorem SW.swap {w0 W : World} {g : Nat} {hs : List Value} (h : SW w0 g hs W) (i j : Nat) (hi : i < hs.length) (hj : j < hs.length) (u v : Value) (hu : at' hs j = u) (hv : at' hs i = v) :
    SW w0 g (St.sw undef hs i j) ((W.setCell ⟨g, i, none⟩ u).setCell ⟨g, j, none⟩ v) := by
  subst hu; subst hv
  exact (h.set i hi _).set j (by simpa using hj) _
/-- The comparison's contract, wherever the sort is. -/
def CmpOk (w0 : World) (g : Nat) (S : Value → Prop) (cf : Value → Value → Int) : Prop :=
  ∀ W, w0.grownBy W (some g) → ∀ x y, S x → S y → Calls Tryz.prog 45 #[x, y] W fun e w' => e = .returned (.int .i64 (cf x y)) ∧ Below W.heap.size W w'
def ltf (cf : Value → Value → Int) (x y : Value) : Bool := decide (cf x y < 0)
/-- All that the sort leans on. -/
structure Env (w0 : World) (g : Nat) (S : Value → Prop) (cf : Value → Value → Int) : Prop where
  ok : CmpOk w0 g S cf
  ord : St.Ord (ltf cf) S
  sh : ∀ x, S x → ∃ ao n c, x = .slice ao n c
def All (S : Value → Prop) (hs : List Value) : Prop := ∀ k, k < hs.length → S (at' hs k)
theorem All.put {S : Value → Prop} {xs ys : List Value} {a b : Nat} (h : All S xs) (p : St.Put undef xs ys a b) : All S ys := p.all undef h
/-- The test, in a region that draws its order. -/
theorem cmp_of {w0 : World} {g : Nat} {S : Value → Prop} {cf : Value → Value → Int} (E : Env w0 g S cf) {hs : List Value} {W : World} (h : SW w0 g hs W) {x y : Value} {c : Int} (hx : S x) (hy : S y) (hc : cf x y = c) :
    ∀ d os, Calls Tryz.prog 45 #[x, y] (grow (redrawn W d) os) fun e w'' => e = .returned (.int .i64 c) ∧ ∃ p : Regrown, w'' = grow (redrawn W p.d) p.os :=
  qcall fun W' hb => by rw [← hc]; exact E.ok W' (h.below hb).gr x y hx hy
/-- Sorted from a to b; nothing else has moved. -/
def Sorts (w0 : World) (g : Nat) (cf : Value → Value → Int) (hs : List Value) (a b : Nat) (e : Ending) (w' : World) : Prop :=
  e = .returned (.tuple #[]) ∧ ∃ hs', SW w0 g hs' w' ∧ St.Put undef hs hs' a b ∧ St.Up undef (ltf cf) hs' a b
set_option maxHeartbeats 6400000 in
set_option maxRecDepth 100000 in
theorem insertion_is {w0 : World} {g : Nat} {S : Value → Prop} {cf : Value → Value → Int} (E : Env w0 g S cf) (hs : List Value) (a b n cap : Nat) (w : World) (hn : hs.length = n) (h0 : SW w0 g hs w) (hS : All S hs) (hab : a ≤ b) (hb : b ≤ n) (hl : n ≤ 100000) :
    Calls Tryz.prog 97 #[.slice (some ⟨g, 0, none⟩) n cap, .int .i64 a, .int .i64 b, .func (.func 45) #[] #[]] w (Sorts w0 g cf hs a b) := by
  have HE := Lib.hid E
  have H0 := Lib.hid h0
  have HS := Lib.hid hS
  have HN := Lib.hid hn
  clear E h0 hS hn
  go_enter Tryz.func97, Tryz.ntmps97
  go_wp2_with fail
  go_loopw [8] (fun vi wr => ∃ (i : Nat) (hi : List Value), vi = .int .i64 i ∧ a < i ∧ (i ≤ b ∨ i = a + 1) ∧ Hid (SW w0 g hi wr) ∧ Hid (St.Put undef hs hi a b) ∧ Hid (i ≤ b → St.Up undef (ltf cf) hi a i)) (fun vi _ => b + 1 - (intOf vi).toNat)
  case atStart => exact ⟨a + 1, hs, by go_num, by omega, by omega, H0, St.Put.refl _ _ _ _, fun h => St.Up.one undef (ltf cf) HE.out.ord (fun k h1 h2 => HS.out k (by have := HN.out; omega)) (by omega)⟩
  case round =>
    clear H0
    obtain ⟨i, hi, rfl, hai, hib, H1, P1, U1⟩ := hrel
    by_cases hlt : i < b
    · have hltz : (i : Int) < (b : Int) := by omega
      go_wp2_with fail
      go_loopw [9] (fun vj wr2 => ∃ (j : Nat) (hj : List Value), vj = .int .i64 j ∧ a ≤ j ∧ j ≤ i ∧ Hid (SW w0 g hj wr2) ∧ Hid (St.Put undef hs hj a b) ∧ Hid (St.Ins undef (ltf cf) hj a i j)) (fun vj _ => (intOf vj).toNat)
      case atStart => exact ⟨i, hi, rfl, by omega, Nat.le_refl _, H1, P1, St.Ins.start undef (ltf cf) (U1.out (by omega)) (by omega)⟩
      case round =>
        clear H1 P1 U1
        obtain ⟨j, hj, rfl, haj, hji, HJ, PJ, IJ⟩ := hrel
        have HSJ : Hid (All S hj) := HS.out.put PJ.out
        have HLJ : Hid (hj.length = n) := PJ.out.len.trans HN.out
        by_cases hja : a < j
        · obtain ⟨jp, rfl⟩ : ∃ jp, j = jp + 1 := ⟨j - 1, by omega⟩
          have hjaz : (a : Int) < (jp : Int) + 1 := by omega
          obtain ⟨x, hx⟩ : ∃ x, at' hj (jp + 1) = x := ⟨_, rfl⟩
          obtain ⟨y, hy⟩ : ∃ y, at' hj jp = y := ⟨_, rfl⟩
          have l1 := HJ.out.cell (jp + 1) (by have := HLJ.out; omega)
          have l0 := HJ.out.cell jp (by have := HLJ.out; omega)
          rw [hx] at l1
          rw [hy] at l0
          have hxS : S x := by rw [← hx]; exact HSJ.out _ (by have := HLJ.out; omega)
          have hyS : S y := by rw [← hy]; exact HSJ.out _ (by have := HLJ.out; omega)
          obtain ⟨xa, xn, xc, rfl⟩ := HE.out.sh x hxS
          obtain ⟨ya, yn, yc, rfl⟩ := HE.out.sh y hyS
          have HX := Lib.hid hx
          have HY := Lib.hid hy
          obtain ⟨c, hc⟩ : ∃ c, cf (.slice xa xn xc) (.slice ya yn yc) = c := ⟨_, rfl⟩
          have cA := cmp_of HE.out HJ.out hxS hyS hc
          have HC := Lib.hid hc
          have b1 : (jp : Int) + 1 < (n : Int) := by omega
          have b0 : (jp : Int) < (n : Int) := by omega
          clear hx hy hc hxS hyS
          by_cases c0 : c < 0
          · have m1 := cell_regrown l1
            have m0 := cell_regrown l0
            go_wp2_with fail
            refine wp_region_quiet_below (by kernel_rfl) (by kernel_rfl) ?_
            repeat (go_big_quiet_step (with_reducible (first | exact cA _ _)))
            refine wpQuiet_nil ?_
            intro _ hw'
            obtain ⟨⟨dq1, os1⟩, hw''⟩ := hw'
            subst hw''
            have HJ2 := Lib.hid (HJ.out.below (below_regrown wr dq1 os1))
            have l1 := m1 dq1 os1
            have l0 := m0 dq1 os1
            clear HJ cA m1 m0
            generalize grow (redrawn wr dq1) os1 = w2 at *
            have f1 := HJ2.out.free (jp + 1) (by have := HLJ.out; omega)
            have f0 := HJ2.out.free jp (by have := HLJ.out; omega)
            have k0 := (World.cell?_setCell_other w2 ⟨g, jp + 1, none⟩ ⟨g, jp, none⟩ (.slice ya yn yc) (by intro e; simp only [Addr.mk.injEq] at e; omega)).trans l0
            have HJ3 : Hid (SW w0 g (St.sw undef hj (jp + 1) jp) ((w2.setCell ⟨g, jp + 1, none⟩ (.slice ya yn yc)).setCell ⟨g, jp, none⟩ (.slice xa xn xc)).drew) := (HJ2.out.swap (jp + 1) jp (by have := HLJ.out; omega) (by have := HLJ.out; omega) _ _ HY.out HX.out).drew
            have mixed : Tryz.prog.follows .mixedOrders = true := by kernel_rfl
            go_wp2_with fail
            go_big_region_o
            clear l1 l0 f1 f0 k0 HJ2
            generalize ((w2.setCell ⟨g, jp + 1, none⟩ (.slice ya yn yc)).setCell ⟨g, jp, none⟩ (.slice xa xn xc)).drew = w3 at HJ3 ⊢
            go_wp2_with fail
            go_roundw
            case rel => exact ⟨jp, _, rfl, by omega, by omega, HJ3, PJ.out.trans undef (St.Put.sw undef (by have := HLJ.out; omega) (by have := HLJ.out; omega) (by omega) (by omega) (by omega) (by omega)), St.Ins.step undef (ltf cf) HE.out.ord IJ.out (by omega) (by have := HLJ.out; omega) (fun k hk => HSJ.out k (by have := HLJ.out; omega)) (by show ltf cf (at' hj (jp + 1)) (at' hj jp) = true; rw [HX.out, HY.out]; unfold ltf; rw [HC.out]; exact decide_eq_true c0)⟩
            case measure => simp [intOf]
          · have d0 : decide (c < 0) = false := decide_eq_false c0
            have UP : Hid (i + 1 ≤ b → St.Up undef (ltf cf) hj a (i + 1)) := fun _ => St.Ins.stop undef (ltf cf) HE.out.ord IJ.out (fun k hk => HSJ.out k (by have := HLJ.out; omega)) (.inr ⟨by omega, by show ltf cf (at' hj (jp + 1)) (at' hj jp) = false; rw [HX.out, HY.out]; unfold ltf; rw [HC.out]; exact d0⟩)
            have m1 := cell_regrown l1
            have m0 := cell_regrown l0
            clear l1 l0
            go_wp2_with fail
            refine wp_region_quiet_below (by kernel_rfl) (by kernel_rfl) ?_
            repeat (go_big_quiet_step (with_reducible (first | exact cA _ _)))
            refine wpQuiet_nil ?_
            intro _ hw'
            obtain ⟨⟨dq1, os1⟩, hw''⟩ := hw'
            subst hw''
            have HJ2 := Lib.hid (HJ.out.below (below_regrown wr dq1 os1))
            clear HJ cA m1 m0
            generalize grow (redrawn wr dq1) os1 = w2 at *
            go_wp2_with fail
            go_roundw
            case rel => exact ⟨i + 1, hj, by go_num, by omega, by omega, HJ2, PJ, UP⟩
            case measure => simp [intOf]; omega
        · have ej : j = a := by omega
          subst ej
          have UP : Hid (i + 1 ≤ b → St.Up undef (ltf cf) hj j (i + 1)) := fun _ => St.Ins.stop undef (ltf cf) HE.out.ord IJ.out (fun k hk => HSJ.out k (by have := HLJ.out; omega)) (.inl rfl)
          go_wp2_with fail
          refine wp_region_quiet_below (by kernel_rfl) (by kernel_rfl) ?_
          repeat (go_big_quiet_step (with_reducible (fail)))
          refine wpQuiet_nil ?_
          intro _ hw'
          obtain ⟨⟨dq1, os1⟩, hw''⟩ := hw'
          subst hw''
          have HJ2 := Lib.hid (HJ.out.below (below_regrown wr dq1 os1))
          clear HJ
          generalize grow (redrawn wr dq1) os1 = w2 at *
          go_wp2_with fail
          go_roundw
          case rel => exact ⟨i + 1, hj, by go_num, by omega, by omega, HJ2, PJ, UP⟩
          case measure => simp [intOf]; omega
    · have UP : Hid (St.Up undef (ltf cf) hi a b) := by
        show St.Up undef (ltf cf) hi a b
        by_cases e : i = b
        · subst e; exact U1.out (Nat.le_refl _)
        · intro p q h1 h2 h3; omega
      go_wp2_with fail
      go_end0
      exact ⟨rfl, hi, H1.out, P1.out, UP.out⟩
end Go.Proofs.YtfmjeggomphliaaGreatDoor.Sr

set_option linter.unusedVariables false
set_option linter.unusedSimpArgs false
namespace Go.Proofs.YtfmjeggomphliaaGreatDoor.Sr
open Go.RowKit Go Go.Sort Ba Tb

/-- The same things, these at these places. -/
structure Turned (hs hs' : List Value) (f : Nat → Value) : Prop where
  perm : hs'.Perm hs
  at' : ∀ k, St.gt undef hs' k = f k
def Turns (w0 : World) (g : Nat) (hs : List Value) (f : Nat → Value) (e : Ending) (w' : World) : Prop :=
  e = .returned (.tuple #[]) ∧ ∃ hs', SW w0 g hs' w' ∧ Turned hs hs' f
theorem All.perm {S : Value → Prop} {xs ys : List Value} (h : All S xs) (p : ys.Perm xs) : All S ys := by
  intro k hk
  have h1 : St.gt undef ys k ∈ ys := by rw [St.gt_of undef hk]; exact List.getElem_mem hk
  obtain ⟨j, hj, e⟩ := List.mem_iff_getElem.1 (p.mem_iff.1 h1)
  rw [at', ← e, ← St.gt_of undef hj]
  exact h j hj
set_option maxHeartbeats 3200000 in
set_option maxRecDepth 100000 in
theorem swapRange_is {w0 : World} {g : Nat} {S : Value → Prop} {cf : Value → Value → Int} (E : Env w0 g S cf) (hs : List Value) (a b t n cap : Nat) (w : World) (hn : hs.length = n) (h0 : SW w0 g hs w) (hS : All S hs) (hab : a + t ≤ b) (hb : b + t ≤ n) (hl : n ≤ 100000) :
    Calls Tryz.prog 130 #[.slice (some ⟨g, 0, none⟩) n cap, .int .i64 a, .int .i64 b, .int .i64 t, .func (.func 45) #[] #[]] w (Turns w0 g hs (St.Swr a b t (St.gt undef hs))) := by
  have HE := Lib.hid E
  have H0 := Lib.hid h0
  have HS := Lib.hid hS
  have HN := Lib.hid hn
  have mixed : Tryz.prog.follows .mixedOrders = true := by kernel_rfl
  clear E h0 hS hn
  go_enter Tryz.func130, Tryz.ntmps130
  go_wp2_with fail
  go_loopw [10] (fun vi wr => ∃ (i : Nat) (hi : List Value), vi = .int .i64 i ∧ i ≤ t ∧ Hid (SW w0 g hi wr) ∧ Hid (Turned hs hi (St.Swr a b i (St.gt undef hs)))) (fun vi _ => t - (intOf vi).toNat)
  case atStart => exact ⟨0, hs, rfl, Nat.zero_le _, H0, (⟨List.Perm.refl _, fun k => by unfold St.Swr; rw [if_neg (by omega), if_neg (by omega)]⟩ : Turned hs hs _)⟩
  case round =>
    clear H0
    obtain ⟨i, hi, rfl, hit, H1, T1⟩ := hrel
    have HL1 : Hid (hi.length = n) := T1.out.perm.length_eq.trans HN.out
    have HS1 : Hid (All S hi) := HS.out.perm T1.out.perm
    by_cases hlt : i < t
    · have l1 := H1.out.cell (a + i) (by have := HL1.out; omega)
      have l0 := H1.out.cell (b + i) (by have := HL1.out; omega)
      have hxS := HS1.out (a + i) (by have := HL1.out; omega)
      have hyS := HS1.out (b + i) (by have := HL1.out; omega)
      obtain ⟨xa, xn, xc, hx⟩ := HE.out.sh _ hxS
      obtain ⟨ya, yn, yc, hy⟩ := HE.out.sh _ hyS
      rw [hx] at l1
      rw [hy] at l0
      have HX := Lib.hid hx
      have HY := Lib.hid hy
      have b1 : (a : Int) + (i : Int) < (n : Int) := by omega
      have b0 : (b : Int) + (i : Int) < (n : Int) := by omega
      have p1 : (0 : Int) ≤ (a : Int) + (i : Int) := by omega
      have p0 : (0 : Int) ≤ (b : Int) + (i : Int) := by omega
      have e1 : ((a : Int) + (i : Int)).toNat = a + i := by omega
      have e0 : ((b : Int) + (i : Int)).toNat = b + i := by omega
      have f1 := H1.out.free (a + i) (by have := HL1.out; omega)
      have f0 := H1.out.free (b + i) (by have := HL1.out; omega)
      have k0 := (World.cell?_setCell_other wr ⟨g, a + i, none⟩ ⟨g, b + i, none⟩ (.slice ya yn yc) (by intro e; simp only [Addr.mk.injEq] at e; omega)).trans l0
      have HJ3 : Hid (SW w0 g (St.sw undef hi (a + i) (b + i)) ((wr.setCell ⟨g, a + i, none⟩ (.slice ya yn yc)).setCell ⟨g, b + i, none⟩ (.slice xa xn xc)).drew) := (H1.out.swap (a + i) (b + i) (by have := HL1.out; omega) (by have := HL1.out; omega) _ _ HY.out HX.out).drew
      clear hx hy hxS hyS
      go_wp2_with fail
      go_big_region_o
      clear l1 l0 f1 f0 k0 H1
      generalize ((wr.setCell ⟨g, a + i, none⟩ (.slice ya yn yc)).setCell ⟨g, b + i, none⟩ (.slice xa xn xc)).drew = w3 at HJ3 ⊢
      go_wp2_with fail
      go_roundw
      case rel => exact ⟨i + 1, _, by go_num, by omega, HJ3, (⟨(St.sw_perm undef (by have := HL1.out; omega) (by have := HL1.out; omega)).trans T1.out.perm, St.swr_step undef (by omega) (by have := HL1.out; omega) T1.out.at'⟩ : Turned hs _ _)⟩
      case measure => simp [intOf]; omega
    · obtain rfl : i = t := by omega
      go_wp2_with fail
      go_end0
      exact ⟨rfl, hi, H1.out, T1.out⟩
set_option maxHeartbeats 3200000 in
set_option maxRecDepth 100000 in
theorem rotate_is {w0 : World} {g : Nat} {S : Value → Prop} {cf : Value → Value → Int} (E : Env w0 g S cf) (hs : List Value) (a m b n cap : Nat) (w : World) (hn : hs.length = n) (h0 : SW w0 g hs w) (hS : All S hs) (ham : a < m) (hmb : m < b) (hb : b ≤ n) (hl : n ≤ 100000) :
    Calls Tryz.prog 120 #[.slice (some ⟨g, 0, none⟩) n cap, .int .i64 a, .int .i64 m, .int .i64 b, .func (.func 45) #[] #[]] w (Turns w0 g hs (St.Rot a m b (St.gt undef hs))) := by
  have HE := Lib.hid E
  have H0 := Lib.hid h0
  have HS := Lib.hid hS
  have HN := Lib.hid hn
  clear E h0 hS hn
  obtain ⟨i0, hi0⟩ : ∃ i0, i0 = m - a := ⟨_, rfl⟩
  obtain ⟨j0, hj0⟩ : ∃ j0, j0 = b - m := ⟨_, rfl⟩
  have ea : (m : Int) - (a : Int) = (i0 : Int) := by omega
  have eb : (b : Int) - (m : Int) = (j0 : Int) := by omega
  have wa : IntKind.i64.wrap ((m : Int) - (a : Int)) = (i0 : Int) := by rw [ea]; exact IntWalk.i64_in _ (by omega)
  have wb : IntKind.i64.wrap ((b : Int) - (m : Int)) = (j0 : Int) := by rw [eb]; exact IntWalk.i64_in _ (by omega)
  have HI := Lib.hid hi0
  have HJ := Lib.hid hj0
  clear hi0 hj0
  go_enter Tryz.func120, Tryz.ntmps120
  go_wp2_with fail
  clear wa wb ea eb
  go_loopw [10, 11] (fun vi vj wr => ∃ (i j : Nat) (hi : List Value), vi = .int .i64 i ∧ vj = .int .i64 j ∧ 0 < i ∧ 0 < j ∧ i ≤ m - a ∧ j ≤ b - m ∧ Hid (SW w0 g hi wr) ∧ Hid (hi.Perm hs) ∧ Hid (∀ k, St.Rot (m - i) m (m + j) (St.gt undef hi) k = St.Rot a m b (St.gt undef hs) k)) (fun vi vj _ => (intOf vi).toNat + (intOf vj).toNat)
  case atStart => exact ⟨i0, j0, hs, rfl, rfl, by have := HI.out; omega, by have := HJ.out; omega, by have := HI.out; omega, by have := HJ.out; omega, H0, List.Perm.refl _, (fun k => by rw [show m - i0 = a by have := HI.out; omega, show m + j0 = b by have := HJ.out; omega] : ∀ k, St.Rot (m - i0) m (m + j0) (St.gt undef hs) k = St.Rot a m b (St.gt undef hs) k)⟩
  case round =>
    clear H0
    obtain ⟨i, j, hi, rfl, rfl, i0', j0', him, hjm, H1, P1, R1⟩ := hrel
    have HL1 : Hid (hi.length = n) := P1.out.length_eq.trans HN.out
    have HS1 : Hid (All S hi) := HS.out.perm P1.out
    have w1 : IntKind.i64.wrap ((m : Int) - (i : Int)) = ((m - i : Nat) : Int) := by rw [IntWalk.i64_in _ (by omega)]; omega
    by_cases hne : i = j
    · subst hne
      have hc := swapRange_is HE.out hi (m - i) m i n cap wr HL1.out H1.out HS1.out (by omega) (by omega) hl
      have HC := Lib.hid hc
      clear hc
      go_wp2_with (go_at_call 130; refine HC.out.mono ?_; rintro e w2 ⟨rfl, hs', S2, T2⟩)
      go_end0
      refine ⟨rfl, hs', S2, T2.perm.trans P1.out, fun k => ?_⟩
      rw [T2.at', ← R1.out]
      exact St.rot_eq (by omega) _ k
    · have hne' : ((i : Int) != (j : Int)) = true := by simp; omega
      by_cases hgt : j < i
      · have hc := swapRange_is HE.out hi (m - i) m j n cap wr HL1.out H1.out HS1.out (by omega) (by omega) hl
        have HC := Lib.hid hc
        have w2 : IntKind.i64.wrap ((i : Int) - (j : Int)) = ((i - j : Nat) : Int) := by rw [IntWalk.i64_in _ (by omega)]; omega
        clear hc
        go_wp2_with (go_at_call 130; refine HC.out.mono ?_; rintro e w2 ⟨rfl, hs', S2, T2⟩)
        go_roundw
        case rel => exact ⟨i - j, j, hs', rfl, rfl, by omega, by omega, by omega, by omega, S2, T2.perm.trans P1.out, (fun k => by rw [← R1.out, show St.gt undef hs' = _ from funext T2.at']; exact St.rot_gt hgt (by omega) _ k : ∀ k, St.Rot (m - (i - j)) m (m + j) (St.gt undef hs') k = St.Rot a m b (St.gt undef hs) k)⟩
        case measure => simp [intOf]; omega
      · have hc := swapRange_is HE.out hi (m - i) (m + j - i) i n cap wr HL1.out H1.out HS1.out (by omega) (by omega) hl
        have HC := Lib.hid hc
        have w2 : IntKind.i64.wrap ((j : Int) - (i : Int)) = ((j - i : Nat) : Int) := by rw [IntWalk.i64_in _ (by omega)]; omega
        have w3 : IntKind.i64.wrap ((m : Int) + (j : Int) - (i : Int)) = ((m + j - i : Nat) : Int) := by rw [IntWalk.i64_in _ (by omega)]; omega
        clear hc
        go_wp2_with (go_at_call 130; refine HC.out.mono ?_; rintro e w2 ⟨rfl, hs', S2, T2⟩)
        go_roundw
        case rel => exact ⟨i, j - i, hs', rfl, rfl, by omega, by omega, by omega, by omega, S2, T2.perm.trans P1.out, (fun k => by rw [← R1.out, show St.gt undef hs' = _ from funext T2.at']; exact St.rot_lt (by omega) (by omega) _ k : ∀ k, St.Rot (m - i) m (m + (j - i)) (St.gt undef hs') k = St.Rot a m b (St.gt undef hs) k)⟩
        case measure => simp [intOf]; omega
end Go.Proofs.YtfmjeggomphliaaGreatDoor.Sr

set_option linter.unusedVariables false
namespace Go.Proofs.YtfmjeggomphliaaGreatDoor.Sr
open Go.RowKit Go Go.Sort Ba Tb

/-- The parts behind the exchange. -/
structure Parts (cf : Value → Value → Int) (ys : List Value) (a s mid e b : Nat) : Prop where
  p1 : St.Up undef (ltf cf) ys a s
  p2 : St.Up undef (ltf cf) ys s mid
  p3 : St.Up undef (ltf cf) ys mid e
  p4 : St.Up undef (ltf cf) ys e b
  cr : ∀ p q, a ≤ p → p < mid → mid ≤ q → q < b → St.le (ltf cf) (St.gt undef ys p) (St.gt undef ys q)
variable {cf : Value → Value → Int} {ys : List Value} {a s mid e b : Nat}
theorem up_left0 (h : Parts cf ys a s mid e b) (hs : s ≤ a) : St.Up undef (ltf cf) ys a mid := fun i j g1 g2 g3 => h.p2 i j (by omega) g2 g3
theorem up_left1 (h : Parts cf ys a s mid e b) (hs : mid ≤ s) : St.Up undef (ltf cf) ys a mid := fun i j g1 g2 g3 => h.p1 i j g1 g2 (by omega)
theorem up_right0 (h : Parts cf ys a s mid e b) (hs : e ≤ mid) : St.Up undef (ltf cf) ys mid b := fun i j g1 g2 g3 => h.p4 i j (by omega) g2 g3
theorem up_right1 (h : Parts cf ys a s mid e b) (hs : b ≤ e) : St.Up undef (ltf cf) ys mid b := fun i j g1 g2 g3 => h.p3 i j g1 g2 (by omega)
theorem merge_end {x1 x2 x3 : List Value} (hl : b ≤ x1.length) (h1 : a ≤ mid) (h2 : mid ≤ b) (cr : ∀ p q, a ≤ p → p < mid → mid ≤ q → q < b → St.le (ltf cf) (St.gt undef x1 p) (St.gt undef x1 q))
    (p2 : St.Put undef x1 x2 a mid) (u2 : St.Up undef (ltf cf) x2 a mid) (p3 : St.Put undef x2 x3 mid b) (u3 : St.Up undef (ltf cf) x3 mid b) : St.Up undef (ltf cf) x3 a b :=
  St.Up.join undef (ltf cf) (St.Up.congr undef (ltf cf) u2 (fun k g1 g2 => p3.out k (.inl g2))) u3 (St.cross_put undef (ltf cf) hl h1 h2 p2 p3 cr)
theorem rot_put {hs hs1 : List Value} {m : Nat} (T : Turned hs hs1 (St.Rot s m e (St.gt undef hs))) (h1 : a ≤ s ∧ s ≤ m ∧ m ≤ e) (h2 : e ≤ b) : St.Put undef hs hs1 a b :=
  ⟨T.perm, fun k hk => by rw [T.at']; unfold St.Rot; rw [if_neg (by omega), if_neg (by omega)]⟩
/-- Halves of fewer than so many are merged. -/
def MergeOk (w0 : World) (g : Nat) (S : Value → Prop) (cf : Value → Value → Int) (sz n cap : Nat) : Prop :=
  ∀ (hs : List Value) (a m b : Nat) (w : World), hs.length = n → SW w0 g hs w → All S hs → a < m → m < b → b ≤ n → b - a < sz → St.Up undef (ltf cf) hs a m → St.Up undef (ltf cf) hs m b →
    Calls Tryz.prog 98 #[.slice (some ⟨g, 0, none⟩) n cap, .int .i64 a, .int .i64 m, .int .i64 b, .func (.func 45) #[] #[]] w (Sorts w0 g cf hs a b)
end Go.Proofs.YtfmjeggomphliaaGreatDoor.Sr

set_option linter.unusedVariables false
set_option linter.unusedSimpArgs false
namespace Go.Proofs.YtfmjeggomphliaaGreatDoor.Sr
open Go.RowKit Go Go.Sort Ba Tb

set_option maxHeartbeats 6400000 in
set_option maxRecDepth 100000 in
theorem merge_first {w0 : World} {g : Nat} {S : Value → Prop} {cf : Value → Value → Int} (E : Env w0 g S cf) (hs : List Value) (a m b n cap : Nat) (w : World) (hn : hs.length = n) (h0 : SW w0 g hs w) (hS : All S hs) (ham : m = a + 1) (hmb : m < b) (hb : b ≤ n) (hl : n ≤ 100000) (hu : St.Up undef (ltf cf) hs m b) :
    Calls Tryz.prog 98 #[.slice (some ⟨g, 0, none⟩) n cap, .int .i64 a, .int .i64 m, .int .i64 b, .func (.func 45) #[] #[]] w (Sorts w0 g cf hs a b) := by
  have HE := Lib.hid E
  have H0 := Lib.hid h0
  have HS := Lib.hid hS
  have HN := Lib.hid hn
  have HM := Lib.hid ham
  have HU := Lib.hid hu
  have mixed : Tryz.prog.follows .mixedOrders = true := by kernel_rfl
  have dm : ((m : Int) - (a : Int) == 1) = true := by
    rw [beq_iff_eq]; omega
  have am : a < m := by omega
  clear E h0 hS hn hu ham
  go_enter Tryz.func98, Tryz.ntmps98
  go_wp2_with fail
  go_loopw [10, 11] (fun vi vj wr => ∃ (i j : Nat), vi = .int .i64 i ∧ vj = .int .i64 j ∧ m ≤ i ∧ i ≤ j ∧ j ≤ b ∧ Hid (SW w0 g hs wr) ∧ Hid (St.SrR undef (ltf cf) hs a m b i j)) (fun vi vj _ => (intOf vj).toNat - (intOf vi).toNat)
  case atStart => exact ⟨m, b, rfl, rfl, Nat.le_refl _, by omega, Nat.le_refl _, H0, (⟨fun k h1 h2 => by omega, fun k h1 h2 => by omega⟩ : St.SrR undef (ltf cf) hs a m b m b)⟩
  case round =>
    clear H0
    obtain ⟨i, j, rfl, rfl, hmi, hij, hjb, H1, R1⟩ := hrel
    by_cases hlt : i < j
    · obtain ⟨h, hh⟩ : ∃ h, h = (i + j) / 2 := ⟨_, rfl⟩
      have eh : ((i : Int) + (j : Int)) / 2 = (h : Int) := by omega
      have h1 : i ≤ h := by omega
      have h2 : h < j := by omega
      have hlt' : (i : Int) < (j : Int) := by omega
      obtain ⟨x, hx⟩ : ∃ x, at' hs h = x := ⟨_, rfl⟩
      obtain ⟨y, hy⟩ : ∃ y, at' hs a = y := ⟨_, rfl⟩
      have l1 := H1.out.cell h (by have := HN.out; omega)
      have l0 := H1.out.cell a (by have := HN.out; omega)
      rw [hx] at l1
      rw [hy] at l0
      have hxS : S x := by rw [← hx]; exact HS.out _ (by have := HN.out; omega)
      have hyS : S y := by rw [← hy]; exact HS.out _ (by have := HN.out; omega)
      obtain ⟨c, hc⟩ : ∃ c, cf x y = c := ⟨_, rfl⟩
      have cA := cmp_of HE.out H1.out hxS hyS hc
      have HC : Hid (ltf cf (at' hs h) (at' hs a) = decide (c < 0)) := by show _ = _; unfold ltf; rw [hx, hy, hc]
      have b1 : (h : Int) < (n : Int) := by omega
      have b0 : (a : Int) < (n : Int) := by omega
      have m1 := cell_regrown l1
      have m0 := cell_regrown l0
      clear hx hy hc hxS hyS hh l1 l0
      by_cases c0 : c < 0
      · have d0 : decide (c < 0) = true := decide_eq_true c0
        have RR : Hid (St.SrR undef (ltf cf) hs a m b (h + 1) j) := St.SrR.yes undef (ltf cf) HE.out.ord (fun k g1 g2 => HS.out k (by have := HN.out; omega)) HU.out am R1.out h1 (by omega) hmi (by show ltf cf (at' hs h) (at' hs a) = true; rw [HC.out]; exact d0)
        go_wp2_with fail
        refine wp_region_quiet_below (by kernel_rfl) (by kernel_rfl) ?_
        repeat (go_big_quiet_step (with_reducible (first | exact cA _ _)))
        refine wpQuiet_nil ?_
        intro _ hw'
        obtain ⟨⟨dq1, os1⟩, hw''⟩ := hw'
        subst hw''
        have H2 := Lib.hid (H1.out.below (below_regrown wr dq1 os1))
        clear H1 cA m1 m0
        generalize grow (redrawn wr dq1) os1 = w2 at *
        go_wp2_with fail
        go_roundw
        case rel => exact ⟨h + 1, j, by go_num, rfl, by omega, by omega, hjb, H2, RR⟩
        case measure => simp [intOf]; omega
      · have d0 : decide (c < 0) = false := decide_eq_false c0
        have RR : Hid (St.SrR undef (ltf cf) hs a m b i h) := St.SrR.no undef (ltf cf) HE.out.ord (fun k g1 g2 => HS.out k (by have := HN.out; omega)) HU.out am R1.out h1 (by omega) hmi (by show ltf cf (at' hs h) (at' hs a) = false; rw [HC.out]; exact d0)
        go_wp2_with fail
        refine wp_region_quiet_below (by kernel_rfl) (by kernel_rfl) ?_
        repeat (go_big_quiet_step (with_reducible (first | exact cA _ _)))
        refine wpQuiet_nil ?_
        intro _ hw'
        obtain ⟨⟨dq1, os1⟩, hw''⟩ := hw'
        subst hw''
        have H2 := Lib.hid (H1.out.below (below_regrown wr dq1 os1))
        clear H1 cA m1 m0
        generalize grow (redrawn wr dq1) os1 = w2 at *
        go_wp2_with fail
        go_roundw
        case rel => exact ⟨i, h, rfl, rfl, by omega, by omega, by omega, H2, RR⟩
        case measure => simp [intOf]; omega
    · obtain rfl : i = j := by omega
      go_wp2_with fail
      go_loopw [13] (fun vk wr2 => ∃ (t : Nat) (hk : List Value), vk = .int .i64 ((a + t : Nat) : Int) ∧ a + t + 1 ≤ i ∧ Hid (SW w0 g hk wr2) ∧ Hid (hk.Perm hs) ∧ Hid (∀ k, St.gt undef hk k = St.ShR a t (St.gt undef hs) k)) (fun vk _ => i - (intOf vk).toNat)
      case atStart => exact ⟨0, hs, rfl, by omega, H1, List.Perm.refl _, St.shR_zero a _⟩
      case round =>
        clear H1
        obtain ⟨t, hk, rfl, hti, H2, P2, T2⟩ := hrel
        have HL2 : Hid (hk.length = n) := P2.out.length_eq.trans HN.out
        have HS2 : Hid (All S hk) := HS.out.perm P2.out
        obtain ⟨q, hq⟩ : ∃ q, a + t = q := ⟨_, rfl⟩
        have HQ := Lib.hid hq
        rw [hq] at hti ⊢
        clear hq
        by_cases hlt2 : q < i - 1
        · have hq1 : (q : Int) < (i : Int) - 1 := by omega
          have l1 := H2.out.cell q (by have := HL2.out; omega)
          have l0 := H2.out.cell (q + 1) (by have := HL2.out; omega)
          obtain ⟨xa, xn, xc, hx⟩ := HE.out.sh _ (HS2.out q (by have := HL2.out; omega))
          obtain ⟨ya, yn, yc, hy⟩ := HE.out.sh _ (HS2.out (q + 1) (by have := HL2.out; omega))
          rw [hx] at l1
          rw [hy] at l0
          have HX := Lib.hid hx
          have HY := Lib.hid hy
          have b1 : (q : Int) < (n : Int) := by omega
          have b0 : (q : Int) + 1 < (n : Int) := by omega
          have f1 := H2.out.free q (by have := HL2.out; omega)
          have f0 := H2.out.free (q + 1) (by have := HL2.out; omega)
          have k0 := (World.cell?_setCell_other wr ⟨g, q, none⟩ ⟨g, q + 1, none⟩ (.slice ya yn yc) (by intro e; simp only [Addr.mk.injEq] at e; omega)).trans l0
          have HJ3 : Hid (SW w0 g (St.sw undef hk q (q + 1)) ((wr.setCell ⟨g, q, none⟩ (.slice ya yn yc)).setCell ⟨g, q + 1, none⟩ (.slice xa xn xc)).drew) := (H2.out.swap q (q + 1) (by have := HL2.out; omega) (by have := HL2.out; omega) _ _ HY.out HX.out).drew
          clear hx hy
          go_wp2_with fail
          go_big_region_o
          clear l1 l0 f1 f0 k0 H2
          generalize ((wr.setCell ⟨g, q, none⟩ (.slice ya yn yc)).setCell ⟨g, q + 1, none⟩ (.slice xa xn xc)).drew = w3 at HJ3 ⊢
          go_wp2_with fail
          go_roundw
          case rel => exact ⟨t + 1, _, by rw [← HQ.out]; go_num, by have := HQ.out; omega, HJ3, (St.sw_perm undef (by have := HL2.out; omega) (by have := HL2.out; omega)).trans P2.out, (by rw [← HQ.out]; exact St.shR_step undef (by have := HQ.out; have := HL2.out; omega) T2.out : ∀ k, St.gt undef (St.sw undef hk q (q + 1)) k = _)⟩
          case measure => simp [intOf]; omega
        · have hq1 : ¬ (q : Int) < (i : Int) - 1 := by omega
          go_wp2_with fail
          go_end0
          have ht : i - 1 - a = t := by have := HQ.out; omega
          refine ⟨rfl, hk, H2.out, ⟨P2.out, fun k hkk => ?_⟩, St.merge_right undef (ltf cf) HE.out.ord (i := i) (fun k g1 g2 => HS.out k (by have := HN.out; omega)) (by have := HM.out; rw [← this]; exact HU.out) (by have := HM.out; rw [← this]; exact R1.out) (by have := HM.out; omega) hjb (by rw [ht]; exact T2.out)⟩
          rw [T2.out]
          unfold St.ShR
          have := HM.out
          have := HQ.out
          rw [if_neg (by omega), if_neg (by omega)]
end Go.Proofs.YtfmjeggomphliaaGreatDoor.Sr

set_option linter.unusedVariables false
set_option linter.unusedSimpArgs false
namespace Go.Proofs.YtfmjeggomphliaaGreatDoor.Sr
open Go.RowKit Go Go.Sort Ba Tb

set_option maxHeartbeats 6400000 in
set_option maxRecDepth 100000 in
theorem merge_last {w0 : World} {g : Nat} {S : Value → Prop} {cf : Value → Value → Int} (E : Env w0 g S cf) (hs : List Value) (a m b n cap : Nat) (w : World) (hn : hs.length = n) (h0 : SW w0 g hs w) (hS : All S hs) (ham : a + 1 < m) (hmb : b = m + 1) (hb : b ≤ n) (hl : n ≤ 100000) (hu : St.Up undef (ltf cf) hs a m) :
    Calls Tryz.prog 98 #[.slice (some ⟨g, 0, none⟩) n cap, .int .i64 a, .int .i64 m, .int .i64 b, .func (.func 45) #[] #[]] w (Sorts w0 g cf hs a b) := by
  have HE := Lib.hid E
  have H0 := Lib.hid h0
  have HS := Lib.hid hS
  have HN := Lib.hid hn
  have HM := Lib.hid hmb
  have HU := Lib.hid hu
  have mixed : Tryz.prog.follows .mixedOrders = true := by kernel_rfl
  have dm : ((m : Int) - (a : Int) == 1) = false := by
    rw [beq_eq_false_iff_ne]; omega
  have db : ((b : Int) - (m : Int) == 1) = true := by
    rw [beq_iff_eq]; omega
  have mn : m < n := by omega
  clear E h0 hS hn hu hmb
  go_enter Tryz.func98, Tryz.ntmps98
  go_wp2_with fail
  go_loopw [14, 15] (fun vi vj wr => ∃ (i j : Nat), vi = .int .i64 i ∧ vj = .int .i64 j ∧ a ≤ i ∧ i ≤ j ∧ j ≤ m ∧ Hid (SW w0 g hs wr) ∧ Hid (St.SrL undef (ltf cf) hs a m i j)) (fun vi vj _ => (intOf vj).toNat - (intOf vi).toNat)
  case atStart => exact ⟨a, m, rfl, rfl, Nat.le_refl _, by omega, Nat.le_refl _, H0, (⟨fun k h1 h2 => by omega, fun k h1 h2 => by omega⟩ : St.SrL undef (ltf cf) hs a m a m)⟩
  case round =>
    clear H0
    obtain ⟨i, j, rfl, rfl, hmi, hij, hjb, H1, R1⟩ := hrel
    by_cases hlt : i < j
    · obtain ⟨h, hh⟩ : ∃ h, h = (i + j) / 2 := ⟨_, rfl⟩
      have eh : ((i : Int) + (j : Int)) / 2 = (h : Int) := by omega
      have h1 : i ≤ h := by omega
      have h2 : h < j := by omega
      have hlt' : (i : Int) < (j : Int) := by omega
      obtain ⟨x, hx⟩ : ∃ x, at' hs m = x := ⟨_, rfl⟩
      obtain ⟨y, hy⟩ : ∃ y, at' hs h = y := ⟨_, rfl⟩
      have l1 := H1.out.cell m (by have := HN.out; omega)
      have l0 := H1.out.cell h (by have := HN.out; omega)
      rw [hx] at l1
      rw [hy] at l0
      have hxS : S x := by rw [← hx]; exact HS.out _ (by have := HN.out; omega)
      have hyS : S y := by rw [← hy]; exact HS.out _ (by have := HN.out; omega)
      obtain ⟨c, hc⟩ : ∃ c, cf x y = c := ⟨_, rfl⟩
      have cA := cmp_of HE.out H1.out hxS hyS hc
      have HC : Hid (ltf cf (at' hs m) (at' hs h) = decide (c < 0)) := by show _ = _; unfold ltf; rw [hx, hy, hc]
      have b1 : (m : Int) < (n : Int) := by omega
      have b0 : (h : Int) < (n : Int) := by omega
      have m1 := cell_regrown l1
      have m0 := cell_regrown l0
      clear hx hy hc hxS hyS hh l1 l0
      by_cases c0 : c < 0
      · have d0 : decide (c < 0) = true := decide_eq_true c0
        have RR : Hid (St.SrL undef (ltf cf) hs a m i h) := St.SrL.yes undef (ltf cf) HE.out.ord (fun k g1 g2 => HS.out k (by have := HN.out; omega)) HU.out R1.out h1 (by omega) hmi (by show ltf cf (at' hs m) (at' hs h) = true; rw [HC.out]; exact d0)
        go_wp2_with fail
        refine wp_region_quiet_below (by kernel_rfl) (by kernel_rfl) ?_
        repeat (go_big_quiet_step (with_reducible (first | exact cA _ _)))
        refine wpQuiet_nil ?_
        intro _ hw'
        obtain ⟨⟨dq1, os1⟩, hw''⟩ := hw'
        subst hw''
        have H2 := Lib.hid (H1.out.below (below_regrown wr dq1 os1))
        clear H1 cA m1 m0
        generalize grow (redrawn wr dq1) os1 = w2 at *
        go_wp2_with fail
        go_roundw
        case rel => exact ⟨i, h, rfl, rfl, by omega, by omega, by omega, H2, RR⟩
        case measure => simp [intOf]; omega
      · have d0 : decide (c < 0) = false := decide_eq_false c0
        have RR : Hid (St.SrL undef (ltf cf) hs a m (h + 1) j) := St.SrL.no undef (ltf cf) HE.out.ord (fun k g1 g2 => HS.out k (by have := HN.out; omega)) HU.out R1.out h1 (by omega) hmi (by show ltf cf (at' hs m) (at' hs h) = false; rw [HC.out]; exact d0)
        go_wp2_with fail
        refine wp_region_quiet_below (by kernel_rfl) (by kernel_rfl) ?_
        repeat (go_big_quiet_step (with_reducible (first | exact cA _ _)))
        refine wpQuiet_nil ?_
        intro _ hw'
        obtain ⟨⟨dq1, os1⟩, hw''⟩ := hw'
        subst hw''
        have H2 := Lib.hid (H1.out.below (below_regrown wr dq1 os1))
        clear H1 cA m1 m0
        generalize grow (redrawn wr dq1) os1 = w2 at *
        go_wp2_with fail
        go_roundw
        case rel => exact ⟨h + 1, j, by go_num, rfl, by omega, by omega, hjb, H2, RR⟩
        case measure => simp [intOf]; omega
    · obtain rfl : i = j := by omega
      go_wp2_with fail
      go_loopw [17] (fun vk wr2 => ∃ (q : Nat) (hk : List Value), vk = .int .i64 q ∧ i ≤ q ∧ q ≤ m ∧ Hid (SW w0 g hk wr2) ∧ Hid (hk.Perm hs) ∧ Hid (∀ k, St.gt undef hk k = St.ShL m (m - q) (St.gt undef hs) k)) (fun vk _ => (intOf vk).toNat)
      case atStart => exact ⟨m, hs, rfl, hjb, Nat.le_refl _, H1, List.Perm.refl _, (by rw [Nat.sub_self]; exact St.shL_zero m _ : ∀ k, St.gt undef hs k = St.ShL m (m - m) (St.gt undef hs) k)⟩
      case round =>
        clear H1
        obtain ⟨q, hk, rfl, hiq, hqm, H2, P2, T2⟩ := hrel
        have HL2 : Hid (hk.length = n) := P2.out.length_eq.trans HN.out
        have HS2 : Hid (All S hk) := HS.out.perm P2.out
        by_cases hlt2 : i < q
        · obtain ⟨p, rfl⟩ : ∃ p, q = p + 1 := ⟨q - 1, by omega⟩
          have hq1 : (i : Int) < (p : Int) + 1 := by omega
          have l1 := H2.out.cell (p + 1) (by have := HL2.out; omega)
          have l0 := H2.out.cell p (by have := HL2.out; omega)
          obtain ⟨xa, xn, xc, hx⟩ := HE.out.sh _ (HS2.out (p + 1) (by have := HL2.out; omega))
          obtain ⟨ya, yn, yc, hy⟩ := HE.out.sh _ (HS2.out p (by have := HL2.out; omega))
          rw [hx] at l1
          rw [hy] at l0
          have HX := Lib.hid hx
          have HY := Lib.hid hy
          have b1 : (p : Int) + 1 < (n : Int) := by omega
          have b0 : (p : Int) < (n : Int) := by omega
          have f1 := H2.out.free (p + 1) (by have := HL2.out; omega)
          have f0 := H2.out.free p (by have := HL2.out; omega)
          have k0 := (World.cell?_setCell_other wr ⟨g, p + 1, none⟩ ⟨g, p, none⟩ (.slice ya yn yc) (by intro e; simp only [Addr.mk.injEq] at e; omega)).trans l0
          have HJ3 : Hid (SW w0 g (St.sw undef hk (p + 1) p) ((wr.setCell ⟨g, p + 1, none⟩ (.slice ya yn yc)).setCell ⟨g, p, none⟩ (.slice xa xn xc)).drew) := (H2.out.swap (p + 1) p (by have := HL2.out; omega) (by have := HL2.out; omega) _ _ HY.out HX.out).drew
          clear hx hy
          go_wp2_with fail
          go_big_region_o
          clear l1 l0 f1 f0 k0 H2
          generalize ((wr.setCell ⟨g, p + 1, none⟩ (.slice ya yn yc)).setCell ⟨g, p, none⟩ (.slice xa xn xc)).drew = w3 at HJ3 ⊢
          go_wp2_with fail
          go_roundw
          case rel => exact ⟨p, _, rfl, by omega, by omega, HJ3, (St.sw_perm undef (by have := HL2.out; omega) (by have := HL2.out; omega)).trans P2.out, (by
            have hst := St.shL_step undef (xs := hk) (m := m) (t := m - (p + 1)) (by have := HL2.out; omega) (by omega) T2.out
            rw [show m - (m - (p + 1)) = p + 1 by omega, show p + 1 - 1 = p by omega, show m - (p + 1) + 1 = m - p by omega] at hst
            exact hst : ∀ k, St.gt undef (St.sw undef hk (p + 1) p) k = St.ShL m (m - p) (St.gt undef hs) k)⟩
          case measure => simp [intOf]
        · obtain rfl : q = i := by omega
          go_wp2_with fail
          go_end0
          refine ⟨rfl, hk, H2.out, ⟨P2.out, fun k hkk => ?_⟩, by have := HM.out; rw [this]; exact St.merge_left undef (ltf cf) HE.out.ord (i := q) (fun k g1 g2 => HS.out k (by have := HN.out; omega)) HU.out R1.out hmi hqm T2.out⟩
          rw [T2.out]
          unfold St.ShL
          have := HM.out
          rw [if_neg (by omega), if_neg (by omega)]
end Go.Proofs.YtfmjeggomphliaaGreatDoor.Sr
