/- Those that one needs: Mapping.Of. -/
import Derived.Test.YtkapkfddbdgmoaaDoorSchIn
set_option linter.unusedVariables false
set_option linter.unusedSimpArgs false
namespace Go.Proofs.YtkapkfddbdgmoaaDoor.Wi
open Go.RowKit Go Go.Sort Ba Sc
open Cal hiding ret_int ret_bool lt_of_cell

/-- Those of the upper scheme that one of the lower one needs. -/
def ofL (k n lk lf ll uk uf ul i : Int) : List Int := (partsL uf (ul - uf + 1).toNat).filter (fun x => needsB k n lk lf ll uk uf ul i x)
set_option maxRecDepth 20000 in
set_option maxHeartbeats 3200000 in
theorem of_is (k n lk lf ll uk uf ul i : Int) (w : World) (hL : Len w) (hf : formB k n = true) (hl : rightS lk lf ll = true) (hu : rightS uk uf ul = true) (hfit : fitsB k lk uk = true) :
    Calls Tryd.prog 32 #[.agg #[.int .i64 k, .int .i64 n], .agg #[.int .i64 lk, .int .i64 lf, .int .i64 ll], .agg #[.int .i64 uk, .int .i64 uf, .int .i64 ul], .int .i64 i] w (Told (ofL k n lk lf ll uk uf ul i) w) := by
  obtain ⟨k1, k5⟩ := form_k hf
  obtain ⟨_, _, _, n0, n1⟩ := form_rng hf
  obtain ⟨lk1, lk5, lf0, lfl, llf, _, lfar, lend⟩ := rs_iff hl
  obtain ⟨uk1, uk5, uf0, ufl, ulf, _, ufar, uend⟩ := rs_iff hu
  have HL := Lib.hid hL
  have HRU := Lib.hid hu
  have HFT := Lib.hid hfit
  have bw : Below w.heap.size w (((w.alloc (.cells #[.int .i64 k, .int .i64 n] 49)).alloc (.cells #[.int .i64 lk, .int .i64 lf, .int .i64 ll] 23)).alloc (.cells #[.int .i64 uk, .int .i64 uf, .int .i64 ul] 23)) := by go_grown
  have M := ((Box.new w [.int .i64 k, .int .i64 n] 49).alloc (.cells #[.int .i64 lk, .int .i64 lf, .int .i64 ll] 23)).alloc (.cells #[.int .i64 uk, .int .i64 uf, .int .i64 ul] 23)
  have L := (Box.new (w.alloc (.cells #[.int .i64 k, .int .i64 n] 49)) [.int .i64 lk, .int .i64 lf, .int .i64 ll] 23).alloc (.cells #[.int .i64 uk, .int .i64 uf, .int .i64 ul] 23)
  have U := Box.new ((w.alloc (.cells #[.int .i64 k, .int .i64 n] 49)).alloc (.cells #[.int .i64 lk, .int .i64 lf, .int .i64 ll] 23)) [.int .i64 uk, .int .i64 uf, .int .i64 ul] 23
  simp only [World.size_alloc] at L U
  clear hL hl hu hf hfit lend uend
  by_cases c : lf ≤ i ∧ i ≤ ll
  rotate_left
  · have HH : Hid (decide (lf ≤ i ∧ i ≤ ll) = false) := decide_eq_false c
    have HB : Hid (ofL k n lk lf ll uk uf ul i = []) := filt_none _ _ fun x _ _ => nb_out (fun h => c ⟨h.1, h.2.1⟩)
    clear c
    go_enter Tryd.func32, Tryd.ntmps32
    go_wp2_with fail
    refine (has_is lk lf ll i false _ HH.out).mono ?_
    rintro e w1 ⟨rfl, hb⟩
    have bw := two bw hb
    clear hb
    go_wp2_with fail
    go_ret
    exact told_nil HB.out bw
  have HH : Hid (decide (lf ≤ i ∧ i ≤ ll) = true) := decide_eq_true c
  obtain ⟨i0, i1⟩ := c
  have hk : k = 1 ∨ k = 2 ∨ k = 3 ∨ k = 4 ∨ k = 5 := by omega
  rcases hk with rfl | rfl | rfl | rfl | rfl
  · have HB : Hid (ofL 1 n lk lf ll uk uf ul i = spanL uf ul i i) := filt_is _ _ _ _ ufl fun x h1 h2 => by
      rw [nb1 ⟨i0, i1, h1, h2⟩, Bool.eq_iff_iff]; simp only [decide_eq_true_eq]; omega
    go_enter Tryd.func32, Tryd.ntmps32
    go_wp2_with fail
    refine (has_is lk lf ll i true _ HH.out).mono ?_
    rintro e w1 ⟨rfl, hb⟩
    have bw := two bw hb
    have M := M.next hb
    have L := L.next hb
    have U := U.next hb
    clear hb
    obtain ⟨m0, m1, _, _⟩ := M.two
    obtain ⟨x0, x1, x2, _, _, _⟩ := L.three
    obtain ⟨y0, y1, y2, _, _, _⟩ := U.three
    go_wp2_with fail
    refine (span_is uk uf ul i i _ uf0 ufl ulf (by omega) (by omega) (by omega)).mono ?_
    intro e w2 hI
    obtain ⟨v, rfl, hown, hb2⟩ := hI
    clear m0 m1 x0 x1 x2 y0 y1 y2
    go_wp2_with fail
    go_ret
    rw [HB.out]
    exact (Ints.told (ints_trans bw hown hb2 rfl))
  · have HB : Hid (ofL 2 n lk lf ll uk uf ul i = spanL uf ul (i - n + 1) i) := filt_is _ _ _ _ ufl fun x h1 h2 => by
      rw [nb2 ⟨i0, i1, h1, h2⟩, Bool.eq_iff_iff]; simp only [decide_eq_true_eq]; omega
    go_enter Tryd.func32, Tryd.ntmps32
    go_wp2_with fail
    refine (has_is lk lf ll i true _ HH.out).mono ?_
    rintro e w1 ⟨rfl, hb⟩
    have bw := two bw hb
    have M := M.next hb
    have L := L.next hb
    have U := U.next hb
    clear hb
    obtain ⟨m0, m1, _, _⟩ := M.two
    obtain ⟨x0, x1, x2, _, _, _⟩ := L.three
    obtain ⟨y0, y1, y2, _, _, _⟩ := U.three
    go_wp2_with fail
    refine (span_is uk uf ul (i - n + 1) i _ uf0 ufl ulf (by omega) (by omega) (by omega)).mono ?_
    intro e w2 hI
    obtain ⟨v, rfl, hown, hb2⟩ := hI
    clear m0 m1 x0 x1 x2 y0 y1 y2
    go_wp2_with fail
    go_ret
    rw [HB.out]
    exact (Ints.told (ints_trans bw hown hb2 rfl))
  · have HB : Hid (ofL 3 n lk lf ll uk uf ul i = spanL uf ul (i + n) (i + n)) := filt_is _ _ _ _ ufl fun x h1 h2 => by
      rw [nb3 ⟨i0, i1, h1, h2⟩, Bool.eq_iff_iff]; simp only [decide_eq_true_eq]; omega
    go_enter Tryd.func32, Tryd.ntmps32
    go_wp2_with fail
    refine (has_is lk lf ll i true _ HH.out).mono ?_
    rintro e w1 ⟨rfl, hb⟩
    have bw := two bw hb
    have M := M.next hb
    have L := L.next hb
    have U := U.next hb
    clear hb
    obtain ⟨m0, m1, _, _⟩ := M.two
    obtain ⟨x0, x1, x2, _, _, _⟩ := L.three
    obtain ⟨y0, y1, y2, _, _, _⟩ := U.three
    go_wp2_with fail
    refine (span_is uk uf ul (i + n) (i + n) _ uf0 ufl ulf (by omega) (by omega) (by omega)).mono ?_
    intro e w2 hI
    obtain ⟨v, rfl, hown, hb2⟩ := hI
    clear m0 m1 x0 x1 x2 y0 y1 y2
    go_wp2_with fail
    go_ret
    rw [HB.out]
    exact (Ints.told (ints_trans bw hown hb2 rfl))
  · have h45 : lk ≠ 5 ∧ uk ≠ 5 := by have := HFT.out; unfold fitsB at this; rw [decide_eq_true_eq] at this; exact this.2 rfl
    obtain ⟨a, ha⟩ : ∃ a, startV lk i = a := ⟨_, rfl⟩
    obtain ⟨b, hb0⟩ : ∃ a, startV lk (i + 1) = a := ⟨_, rfl⟩
    have HW : Hid (WinV lk lf ll i a b 0) := .inr (.inr ⟨⟨i0, i1⟩, h45.1, ha, hb0, rfl⟩)
    have HB : Hid (ofL 4 n lk lf ll uk uf ul i = inL uk uf ul a b) := List.filter_congr fun x hx => by
      have hm := mem_parts hx
      rw [nb4 ⟨i0, i1, hm.1, by omega⟩, ha, hb0]
      unfold inB
      rw [Bool.eq_iff_iff]; simp only [decide_eq_true_eq]
      exact ⟨fun h => ⟨h45.2, h⟩, fun h => h.2⟩
    clear ha hb0 h45
    go_enter Tryd.func32, Tryd.ntmps32
    go_wp2_with fail
    refine (has_is lk lf ll i true _ HH.out).mono ?_
    rintro e w1 ⟨rfl, hb⟩
    have bw := two bw hb
    have M := M.next hb
    have L := L.next hb
    have U := U.next hb
    clear hb
    obtain ⟨m0, m1, _, _⟩ := M.two
    obtain ⟨x0, x1, x2, _, _, _⟩ := L.three
    obtain ⟨y0, y1, y2, _, _, _⟩ := U.three
    go_wp2_with fail
    refine (window_is lk lf ll i a b 0 _ (Len.below HL.out bw) lf0 lfar HW.out).mono ?_
    rintro e w2 ⟨rfl, hb⟩
    clear m0 m1 x0 x1 x2 y0 y1 y2
    have bw := two bw hb
    have U := U.next hb
    clear hb
    obtain ⟨y0, y1, y2, _, _, _⟩ := U.three
    go_wp2_with fail
    refine (within_is uk uf ul a b _ (Len.below HL.out bw) HRU.out).mono ?_
    rintro e w3 ⟨hd, cap, rfl, hcl, hb⟩
    have HCL := Lib.hid hcl
    clear hcl y0 y1 y2
    go_wp2_with fail
    go_ret
    rw [HB.out]
    exact ⟨hd, cap, rfl, HCL.out, two bw hb⟩
  · have HB : Hid (ofL 5 n lk lf ll uk uf ul i = partsL uf (ul - uf + 1).toNat) := filt_all _ _ fun x h1 h2 => nb5 ⟨i0, i1, h1, h2⟩
    go_enter Tryd.func32, Tryd.ntmps32
    go_wp2_with fail
    refine (has_is lk lf ll i true _ HH.out).mono ?_
    rintro e w1 ⟨rfl, hb⟩
    have bw := two bw hb
    have M := M.next hb
    have L := L.next hb
    have U := U.next hb
    clear hb
    obtain ⟨m0, m1, _, _⟩ := M.two
    obtain ⟨x0, x1, x2, _, _, _⟩ := L.three
    obtain ⟨y0, y1, y2, _, _, _⟩ := U.three
    go_wp2_with fail
    refine (parts_is uk uf ul _ uf0 ufl ulf (by omega)).mono ?_
    intro e w2 hI
    obtain ⟨v, rfl, hown, hb2⟩ := hI
    clear m0 m1 x0 x1 x2 y0 y1 y2
    go_wp2_with fail
    go_ret
    rw [HB.out]
    exact (Ints.told (ints_trans bw hown hb2 rfl))
end Go.Proofs.YtkapkfddbdgmoaaDoor.Wi
