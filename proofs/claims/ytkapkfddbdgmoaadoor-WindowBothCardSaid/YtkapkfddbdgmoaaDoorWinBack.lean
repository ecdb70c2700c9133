/- Those that need one: Mapping.Back, and the law. -/
import Derived.Test.YtkapkfddbdgmoaaDoorWinNeeds
set_option linter.unusedVariables false
set_option linter.unusedSimpArgs false
namespace Go.Proofs.YtkapkfddbdgmoaaDoor.Wi
open Go.RowKit Go Go.Sort Ba Sc
open Cal hiding ret_int ret_bool lt_of_cell

theorem partsL_zero (f : Int) : partsL f 0 = [] := rfl
/-- Those of a stretch that lie in another one. -/
theorem filt_span (f a b : Int) (m : Nat) : (partsL f m).filter (fun i => decide (a ≤ i ∧ i ≤ b)) = partsL (max a f) (min b (f + m - 1) - max a f + 1).toNat := by
  induction m with
  | zero =>
    have : (min b (f + ((0 : Nat) : Int) - 1) - max a f + 1).toNat = 0 := by omega
    rw [this]; rfl
  | succ m ih =>
    rw [parts_snoc, List.filter_append, ih]
    by_cases h : a ≤ f + (m : Int) ∧ f + (m : Int) ≤ b
    · have e1 : (min b (f + ((m + 1 : Nat) : Int) - 1) - max a f + 1).toNat = (min b (f + (m : Int) - 1) - max a f + 1).toNat + 1 := by omega
      have e2 : max a f + ((min b (f + (m : Int) - 1) - max a f + 1).toNat : Int) = f + m := by omega
      rw [e1, parts_snoc, e2, List.filter_cons_of_pos (by simpa using h), List.filter_nil]
    · have e1 : (min b (f + ((m + 1 : Nat) : Int) - 1) - max a f + 1).toNat = (min b (f + (m : Int) - 1) - max a f + 1).toNat := by omega
      rw [e1, List.filter_cons_of_neg (by simpa using h), List.filter_nil, List.append_nil]
theorem mem_parts {f x : Int} {m : Nat} (h : x ∈ partsL f m) : f ≤ x ∧ x ≤ f + m - 1 := by
  simp only [partsL, List.mem_map, List.mem_range] at h
  obtain ⟨j, hj, rfl⟩ := h
  omega
/-- Those that answer a test, where the test is to lie in a stretch. -/
theorem filt_is {p : Int → Bool} (f l a b : Int) (h : f ≤ l) (hp : ∀ x, f ≤ x → x ≤ l → p x = decide (a ≤ x ∧ x ≤ b)) : (partsL f (l - f + 1).toNat).filter p = spanL f l a b := by
  have e : f + (((l - f + 1).toNat : Nat) : Int) - 1 = l := by omega
  rw [List.filter_congr (q := fun i => decide (a ≤ i ∧ i ≤ b)) (fun x hx => hp x (mem_parts hx).1 (by have := (mem_parts hx).2; omega)), filt_span, e]
  rfl
theorem filt_none {p : Int → Bool} (f l : Int) (hp : ∀ x, f ≤ x → x ≤ l → p x = false) : (partsL f (l - f + 1).toNat).filter p = [] := by
  refine List.filter_eq_nil_iff.2 fun x hx => ?_
  have := mem_parts hx
  rw [hp x this.1 (by omega)]; simp
theorem filt_all {p : Int → Bool} (f l : Int) (hp : ∀ x, f ≤ x → x ≤ l → p x = true) : (partsL f (l - f + 1).toNat).filter p = partsL f (l - f + 1).toNat := by
  refine List.filter_eq_self.2 fun x hx => ?_
  have := mem_parts hx
  exact hp x this.1 (by omega)
theorem span_one {f l i : Int} (h : f ≤ i) (h2 : i ≤ l) : spanL f l i i = [i] := by
  unfold spanL
  rw [show max i f = i by omega, show (min i l - i + 1).toNat = 1 by omega, parts_snoc, partsL_zero]
  simp
/-- What stands behind so many of those that answer. -/
theorem parts_cut (f : Int) (m t : Nat) (h : t < m) : ∃ r, partsL f m = partsL f t ++ (f + t) :: r := by
  induction m with
  | zero => omega
  | succ m ih =>
    rw [parts_snoc]
    by_cases c : t < m
    · obtain ⟨r, hr⟩ := ih c
      exact ⟨r ++ [f + m], by rw [hr]; simp⟩
    · obtain rfl : t = m := by omega
      exact ⟨[], rfl⟩
theorem filt_at {p : Int → Bool} {L : List Int} {f : Int} {m t : Nat} (hL : (partsL f m).filter p = L) (h : t < m) (hp : p (f + t) = true) : L[((partsL f t).filter p).length]? = some (f + t) := by
  obtain ⟨r, hr⟩ := parts_cut f m t h
  rw [← hL, hr, List.filter_append, List.getElem?_append_right (Nat.le_refl _), Nat.sub_self, List.filter_cons_of_pos hp]
  rfl
theorem filt_len_t {p : Int → Bool} {f : Int} {t : Nat} (hp : p (f + t) = true) : ((partsL f (t + 1)).filter p).length = ((partsL f t).filter p).length + 1 := by
  rw [parts_snoc, List.filter_append, List.filter_cons_of_pos hp]; simp
theorem filt_len_f {p : Int → Bool} {f : Int} {t : Nat} (hp : p (f + t) = false) : ((partsL f (t + 1)).filter p).length = ((partsL f t).filter p).length := by
  rw [parts_snoc, List.filter_append, List.filter_cons_of_neg (by rw [hp]; simp)]; simp
theorem filt_le {p : Int → Bool} {f : Int} {t : Nat} : ((partsL f t).filter p).length ≤ t := Nat.le_trans (List.length_filter_le _ _) (by rw [parts_len]; exact Nat.le_refl _)

/-- A list that is told: its length and its cells. -/
def Told (L : List Int) (w : World) (e : Ending) (w' : World) : Prop := ∃ hd cap, e = .returned (.slice hd L.length cap) ∧ (∀ (j : Nat) x, L[j]? = some x → ∃ g, hd = some ⟨g, 0, none⟩ ∧ g < w'.heap.size ∧ w'.cell? ⟨g, j, none⟩ = some (.int .i64 x)) ∧ Below w.heap.size w w'
theorem Ints.told {L : List Int} {w w' : World} {e : Ending} (h : Ints L w e w') : Told L w e w' := by
  obtain ⟨v, rfl, hown, hb⟩ := h
  by_cases h0 : 0 < L.length
  · obtain ⟨g, cap, rfl, h1, h2, h3⟩ := ints_shape hown rfl h0
    exact ⟨_, _, rfl, fun j x hx => ⟨g, rfl, h1, h3 j x hx⟩, hb⟩
  · have hnil : L = [] := List.length_eq_zero_iff.1 (by omega)
    subst hnil
    obtain ⟨_, h2⟩ := hown
    rcases h2 with ⟨rfl, _⟩ | ⟨g, cap, cur, rfl, _⟩
    · exact ⟨none, 0, rfl, fun j x hx => by simp at hx, hb⟩
    · exact ⟨_, _, rfl, fun j x hx => by simp at hx, hb⟩
theorem Told.trans {L : List Int} {w w1 w2 : World} {e : Ending} (hb : Below w.heap.size w w1) (h : Told L w1 e w2) : Told L w e w2 := by
  obtain ⟨hd, cap, he, hc, h2⟩ := h
  exact ⟨hd, cap, he, hc, two hb h2⟩
theorem told_nil {L : List Int} (hL : L = []) {w w1 : World} (hb : Below w.heap.size w w1) : Told L w (.returned (.slice none 0 0)) w1 := by
  subst hL; exact ⟨none, 0, rfl, fun j x hx => by simp at hx, hb⟩
theorem told_one {L : List Int} {i : Int} (hL : L = [i]) {w w1 : World} (hb : Below w.heap.size w w1) : Told L w (.returned (.slice (some ⟨w1.heap.size, 0, none⟩) 1 1)) (w1.alloc (.cells #[.int .i64 i] 3)) := by
  subst hL
  refine ⟨some ⟨w1.heap.size, 0, none⟩, 1, rfl, fun j x hx => ⟨_, rfl, by simp, ?_⟩, two hb (by go_grown)⟩
  match j, hx with
  | 0, hx => simp at hx; subst hx; simp
/-- Those of the lower scheme that need one of the upper one. -/
def backL (k n lk lf ll uk uf ul j : Int) : List Int := (partsL lf (ll - lf + 1).toNat).filter (fun i => needsB k n lk lf ll uk uf ul i j)
set_option maxRecDepth 20000 in
set_option maxHeartbeats 3200000 in
theorem back_is (k n lk lf ll uk uf ul j : Int) (w : World) (hL : Len w) (hf : formB k n = true) (hl : rightS lk lf ll = true) (hu : rightS uk uf ul = true) (hfit : fitsB k lk uk = true) :
    Calls Tryd.prog 35 #[.agg #[.int .i64 k, .int .i64 n], .agg #[.int .i64 lk, .int .i64 lf, .int .i64 ll], .agg #[.int .i64 uk, .int .i64 uf, .int .i64 ul], .int .i64 j] w (Told (backL k n lk lf ll uk uf ul j) w) := by
  obtain ⟨k1, k5⟩ := form_k hf
  obtain ⟨_, _, _, n0, n1⟩ := form_rng hf
  obtain ⟨lk1, lk5, lf0, lfl, llf, _, lfar, lend⟩ := rs_iff hl
  obtain ⟨uk1, uk5, uf0, ufl, ulf, _, ufar, uend⟩ := rs_iff hu
  have HL := Lib.hid hL
  have HRL := Lib.hid hl
  have HLE := Lib.hid lend
  have HUE := Lib.hid uend
  have HF := Lib.hid hf
  have HFT := Lib.hid hfit
  have bw : Below w.heap.size w (((w.alloc (.cells #[.int .i64 k, .int .i64 n] 49)).alloc (.cells #[.int .i64 lk, .int .i64 lf, .int .i64 ll] 23)).alloc (.cells #[.int .i64 uk, .int .i64 uf, .int .i64 ul] 23)) := by go_grown
  have M := ((Box.new w [.int .i64 k, .int .i64 n] 49).alloc (.cells #[.int .i64 lk, .int .i64 lf, .int .i64 ll] 23)).alloc (.cells #[.int .i64 uk, .int .i64 uf, .int .i64 ul] 23)
  have L := (Box.new (w.alloc (.cells #[.int .i64 k, .int .i64 n] 49)) [.int .i64 lk, .int .i64 lf, .int .i64 ll] 23).alloc (.cells #[.int .i64 uk, .int .i64 uf, .int .i64 ul] 23)
  have U := Box.new ((w.alloc (.cells #[.int .i64 k, .int .i64 n] 49)).alloc (.cells #[.int .i64 lk, .int .i64 lf, .int .i64 ll] 23)) [.int .i64 uk, .int .i64 uf, .int .i64 ul] 23
  simp only [World.size_alloc] at L U
  clear hL hl hu hf hfit lend uend
  by_cases c : uf ≤ j ∧ j ≤ ul
  rotate_left
  · have HH : Hid (decide (uf ≤ j ∧ j ≤ ul) = false) := decide_eq_false c
    have HB : Hid (backL k n lk lf ll uk uf ul j = []) := filt_none _ _ fun x _ _ => nb_out (fun h => c h.2.2)
    clear c
    go_enter Tryd.func35, Tryd.ntmps35
    go_wp2_with fail
    refine (has_is uk uf ul j false _ HH.out).mono ?_
    rintro e w1 ⟨rfl, hb⟩
    have bw := two bw hb
    clear hb
    go_wp2_with fail
    go_ret
    exact told_nil HB.out bw
  have HH : Hid (decide (uf ≤ j ∧ j ≤ ul) = true) := decide_eq_true c
  obtain ⟨j0, j1⟩ := c
  have hk : k = 1 ∨ k = 2 ∨ k = 3 ∨ k = 4 ∨ k = 5 := by omega
  rcases hk with rfl | rfl | rfl | rfl | rfl
  · have HB : Hid (backL 1 n lk lf ll uk uf ul j = spanL lf ll j j) := filt_is _ _ _ _ lfl fun x h1 h2 => by
      rw [nb1 ⟨h1, h2, j0, j1⟩, Bool.eq_iff_iff]; simp only [decide_eq_true_eq]; omega
    go_enter Tryd.func35, Tryd.ntmps35
    go_wp2_with fail
    refine (has_is uk uf ul j true _ HH.out).mono ?_
    rintro e w1 ⟨rfl, hb⟩
    have bw := two bw hb
    have M := M.next hb
    have L := L.next hb
    have U := U.next hb
    clear hb
    obtain ⟨m0, m1, _, _⟩ := M.two
    obtain ⟨x0, x1, x2, _, _, _⟩ := L.three
    obtain ⟨y0, y1, y2, _, _, _⟩ := U.three
    go_wp2_with fail
    refine (span_is lk lf ll j j _ lf0 lfl llf (by omega) (by omega) (by omega)).mono ?_
    intro e w2 hI
    obtain ⟨v, rfl, hown, hb2⟩ := hI
    clear m0 m1 x0 x1 x2 y0 y1 y2
    go_wp2_with fail
    go_ret
    rw [HB.out]
    exact (Ints.told (ints_trans bw hown hb2 rfl))
  · have HB : Hid (backL 2 n lk lf ll uk uf ul j = spanL lf ll j (j + n - 1)) := filt_is _ _ _ _ lfl fun x h1 h2 => by
      rw [nb2 ⟨h1, h2, j0, j1⟩, Bool.eq_iff_iff]; simp only [decide_eq_true_eq]; omega
    go_enter Tryd.func35, Tryd.ntmps35
    go_wp2_with fail
    refine (has_is uk uf ul j true _ HH.out).mono ?_
    rintro e w1 ⟨rfl, hb⟩
    have bw := two bw hb
    have M := M.next hb
    have L := L.next hb
    have U := U.next hb
    clear hb
    obtain ⟨m0, m1, _, _⟩ := M.two
    obtain ⟨x0, x1, x2, _, _, _⟩ := L.three
    obtain ⟨y0, y1, y2, _, _, _⟩ := U.three
    go_wp2_with fail
    refine (span_is lk lf ll j (j + n - 1) _ lf0 lfl llf (by omega) (by omega) (by omega)).mono ?_
    intro e w2 hI
    obtain ⟨v, rfl, hown, hb2⟩ := hI
    clear m0 m1 x0 x1 x2 y0 y1 y2
    go_wp2_with fail
    go_ret
    rw [HB.out]
    exact (Ints.told (ints_trans bw hown hb2 rfl))
  · have HB : Hid (backL 3 n lk lf ll uk uf ul j = spanL lf ll (j - n) (j - n)) := filt_is _ _ _ _ lfl fun x h1 h2 => by
      rw [nb3 ⟨h1, h2, j0, j1⟩, Bool.eq_iff_iff]; simp only [decide_eq_true_eq]; omega
    go_enter Tryd.func35, Tryd.ntmps35
    go_wp2_with fail
    refine (has_is uk uf ul j true _ HH.out).mono ?_
    rintro e w1 ⟨rfl, hb⟩
    have bw := two bw hb
    have M := M.next hb
    have L := L.next hb
    have U := U.next hb
    clear hb
    obtain ⟨m0, m1, _, _⟩ := M.two
    obtain ⟨x0, x1, x2, _, _, _⟩ := L.three
    obtain ⟨y0, y1, y2, _, _, _⟩ := U.three
    go_wp2_with fail
    refine (span_is lk lf ll (j - n) (j - n) _ lf0 lfl llf (by omega) (by omega) (by omega)).mono ?_
    intro e w2 hI
    obtain ⟨v, rfl, hown, hb2⟩ := hI
    clear m0 m1 x0 x1 x2 y0 y1 y2
    go_wp2_with fail
    go_ret
    rw [HB.out]
    exact (Ints.told (ints_trans bw hown hb2 rfl))
  · have h45 : lk ≠ 5 ∧ uk ≠ 5 := by have := HFT.out; unfold fitsB at this; rw [decide_eq_true_eq] at this; exact this.2 rfl
    obtain ⟨a, ha⟩ : ∃ a, startV uk j = a := ⟨_, rfl⟩
    obtain ⟨b, hb0⟩ : ∃ a, startV uk (j + 1) = a := ⟨_, rfl⟩
    have HW : Hid (WinV uk uf ul j a b 0) := .inr (.inr ⟨⟨j0, j1⟩, h45.2, ha, hb0, rfl⟩)
    have HA := Lib.hid ha
    have HBB := Lib.hid hb0
    have hab : a < b := by
      have := (sv_mono uk1 uk5 h45.2 (i := j) (j := j + 1) (by omega) (by omega) (sv_mono uk1 uk5 h45.2 (i := j + 1) (j := ul + 1) (by omega) (by omega) (HUE.out h45.2)).1).2.2 (by omega)
      rw [ha, hb0] at this; exact this
    have H45 := Lib.hid h45
    clear ha hb0 h45
    go_enter Tryd.func35, Tryd.ntmps35
    go_wp2_with fail
    refine (has_is uk uf ul j true _ HH.out).mono ?_
    rintro e w1 ⟨rfl, hb⟩
    have bw := two bw hb
    have M := M.next hb
    have L := L.next hb
    have U := U.next hb
    clear hb
    obtain ⟨m0, m1, _, _⟩ := M.two
    obtain ⟨x0, x1, x2, _, _, _⟩ := L.three
    obtain ⟨y0, y1, y2, _, _, _⟩ := U.three
    go_wp2_with fail
    refine (window_is uk uf ul j a b 0 _ (Len.below HL.out bw) uf0 ufar HW.out).mono ?_
    rintro e w2 ⟨rfl, hb⟩
    clear m0 m1 x0 x1 x2 y0 y1 y2
    have bw := two bw hb
    have L := L.next hb
    clear hb
    obtain ⟨x0, x1, x2, _, _, _⟩ := L.three
    go_wp2_with fail
    refine (at_is lk lf ll a _ (Len.below HL.out bw) HRL.out H45.out.1).mono ?_
    rintro e w3 ⟨i, ok, hav, rfl, hb⟩
    clear x0 x1 x2
    have bw := two bw hb
    have L := L.next hb
    clear hb
    obtain ⟨x0, x1, x2, _, _, _⟩ := L.three
    rcases hav with ⟨rfl, i0, i1, hi, hj⟩ | ⟨rfl, rfl, hout⟩
    · obtain ⟨c, hc⟩ : ∃ c, startV lk i = c := ⟨_, rfl⟩
      obtain ⟨d, hd⟩ : ∃ c, startV lk (i + 1) = c := ⟨_, rfl⟩
      have HWi : Hid (WinV lk lf ll i c d 0) := .inr (.inr ⟨⟨i0, i1⟩, H45.out.1, hc, hd, rfl⟩)
      have HX : Hid (∀ x, lf ≤ x → x ≤ ll → needsB 4 n lk lf ll uk uf ul x j = decide (b ≤ d ∧ (i ≤ x ∧ x ≤ i))) := fun x h1 h2 => by
        rw [nb4 ⟨h1, h2, j0, j1⟩, HA.out, HBB.out, Bool.eq_iff_iff]; simp only [decide_eq_true_eq]
        have le := HLE.out H45.out.1
        rcases Int.lt_trichotomy x i with h | h | h
        · have m1 := (sv_mono lk1 lk5 H45.out.1 (i := x + 1) (j := i) (by omega) (by omega) (sv_mono lk1 lk5 H45.out.1 (i := i) (j := ll + 1) (by omega) (by omega) le).1).2.1
          constructor
          · intro ⟨_, h4⟩; omega
          · intro h4; omega
        · subst h; rw [hd]; constructor
          · intro ⟨h3, h4⟩; exact ⟨h4, by omega, by omega⟩
          · intro ⟨h3, _⟩; exact ⟨hi, h3⟩
        · have m1 := (sv_mono lk1 lk5 H45.out.1 (i := i + 1) (j := x) (by omega) (by omega) (sv_mono lk1 lk5 H45.out.1 (i := x) (j := ll + 1) (by omega) (by omega) le).1).2.1
          constructor
          · intro ⟨h3, _⟩; omega
          · intro h4; omega
      clear hc hd hi hj
      go_wp2_with fail
      refine (window_is lk lf ll i c d 0 _ (Len.below HL.out bw) lf0 lfar HWi.out).mono ?_
      rintro e w4 ⟨rfl, hb⟩
      clear x0 x1 x2
      have bw := two bw hb
      clear hb
      by_cases hdb : d < b
      · have HB : Hid (backL 4 n lk lf ll uk uf ul j = []) := filt_none _ _ fun x h1 h2 => (HX.out x h1 h2).trans (decide_eq_false (by omega))
        go_wp2_with fail
        go_ret
        exact told_nil HB.out bw
      · have HB : Hid (backL 4 n lk lf ll uk uf ul j = [i]) := by
          show backL 4 n lk lf ll uk uf ul j = [i]
          rw [← span_one i0 i1]
          exact filt_is _ _ _ _ lfl fun x h1 h2 => (HX.out x h1 h2).trans (by rw [Bool.eq_iff_iff]; simp only [decide_eq_true_eq]; omega)
        have e1 : decide (d < b) = false := decide_eq_false hdb
        go_wp2_with fail
        go_ret
        exact told_one HB.out bw
    · have HB : Hid (backL 4 n lk lf ll uk uf ul j = []) := filt_none _ _ fun x h1 h2 => by
        rw [nb4 ⟨h1, h2, j0, j1⟩]
        refine decide_eq_false fun h3 => ?_
        rw [HA.out, HBB.out] at h3
        have le := HLE.out H45.out.1
        have m0 := (sv_mono lk1 lk5 H45.out.1 (i := x + 1) (j := ll + 1) (by omega) (by omega) le)
        have m1 := (sv_mono lk1 lk5 H45.out.1 (i := lf) (j := x) (by omega) (by omega) (sv_mono lk1 lk5 H45.out.1 (i := x) (j := ll + 1) (by omega) (by omega) le).1).2.1
        have m2 := m0.2.1
        rcases hout with h | h <;> omega
      clear hout
      obtain ⟨c, d, e0, hW⟩ : ∃ c d e, WinV lk lf ll 0 c d e := by
        by_cases h : lf ≤ 0 ∧ 0 ≤ ll
        · exact ⟨_, _, _, .inr (.inr ⟨h, H45.out.1, rfl, rfl, rfl⟩)⟩
        · exact ⟨_, _, _, .inl ⟨h, rfl, rfl, rfl⟩⟩
      have HWi := Lib.hid hW
      clear hW
      go_wp2_with fail
      refine (window_is lk lf ll 0 c d e0 _ (Len.below HL.out bw) lf0 lfar HWi.out).mono ?_
      rintro e w4 ⟨rfl, hb⟩
      clear x0 x1 x2
      have bw := two bw hb
      clear hb
      go_wp2_with fail
      go_ret
      exact told_nil HB.out bw
  · have HB : Hid (backL 5 n lk lf ll uk uf ul j = partsL lf (ll - lf + 1).toNat) := filt_all _ _ fun x h1 h2 => nb5 ⟨h1, h2, j0, j1⟩
    go_enter Tryd.func35, Tryd.ntmps35
    go_wp2_with fail
    refine (has_is uk uf ul j true _ HH.out).mono ?_
    rintro e w1 ⟨rfl, hb⟩
    have bw := two bw hb
    have M := M.next hb
    have L := L.next hb
    have U := U.next hb
    clear hb
    obtain ⟨m0, m1, _, _⟩ := M.two
    obtain ⟨x0, x1, x2, _, _, _⟩ := L.three
    obtain ⟨y0, y1, y2, _, _, _⟩ := U.three
    go_wp2_with fail
    refine (parts_is lk lf ll _ lf0 lfl llf (by omega)).mono ?_
    intro e w2 hI
    obtain ⟨v, rfl, hown, hb2⟩ := hI
    clear m0 m1 x0 x1 x2 y0 y1 y2
    go_wp2_with fail
    go_ret
    rw [HB.out]
    exact (Ints.told (ints_trans bw hown hb2 rfl))
end Go.Proofs.YtkapkfddbdgmoaaDoor.Wi
