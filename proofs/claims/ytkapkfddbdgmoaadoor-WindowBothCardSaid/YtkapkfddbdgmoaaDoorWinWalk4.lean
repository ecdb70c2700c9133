/- Walks: stretches of partitions; the fixed answer. -/
import Derived.Test.YtkapkfddbdgmoaaDoorWinWalk3
set_option linter.unusedVariables false
set_option linter.unusedSimpArgs false
namespace Go.Proofs.YtkapkfddbdgmoaaDoor.Wi
open Go.RowKit Go Go.Sort Ba Sc
open Cal hiding ret_int ret_bool lt_of_cell

/-- The partitions of a scheme from one to another. -/
def spanL (f l a b : Int) : List Int := partsL (max a f) (min b l - max a f + 1).toNat
theorem ints_trans {L : List Int} {w w1 w2 : World} {v : Value} {e : Ending} (hb : Below w.heap.size w w1) (hown : w2.ownsRow w1.heap.size 3 1 v L.length (L.map (Value.int .i64))) (h2 : Below w1.heap.size w1 w2) (he : e = .returned v) : Ints L w e w2 :=
  ⟨v, he, ownsRow_lower hown hb.size, two hb h2⟩
set_option maxHeartbeats 800000 in
theorem span_is (k f l a b : Int) (w : World) (h0 : 0 ≤ f) (h1 : f ≤ l) (h2 : l - f < 512) (h3 : l ≤ 2147483648) (a0 : -1000000000000 ≤ a) (a1 : a ≤ 1000000000000) :
    Calls Tryd.prog 53 #[.agg #[.int .i64 k, .int .i64 f, .int .i64 l], .int .i64 a, .int .i64 b] w (Ints (spanL f l a b) w) := by
  obtain ⟨i0, hi, hz0, hz1, hz2⟩ := info_parts info_int
  have V := Box.new w [.int .i64 k, .int .i64 f, .int .i64 l] 23
  have b0 : Below w.heap.size w (w.alloc (.cells #[.int .i64 k, .int .i64 f, .int .i64 l] 23)) := by go_grown
  obtain ⟨A, hA⟩ : ∃ A : Int, max a f = A := ⟨_, rfl⟩
  obtain ⟨B, hB⟩ : ∃ B : Int, min b l = B := ⟨_, rfl⟩
  have HL : Hid (spanL f l a b = partsL A (B - A + 1).toNat) := by show spanL f l a b = _; unfold spanL; rw [hA, hB]
  have A0 : 0 ≤ A := by omega
  have A1 : A ≤ 1000000000000 := by omega
  have B1 : B ≤ 2147483648 := by omega
  have AB : B - A < 512 := by omega
  go_enter Tryd.func53, Tryd.ntmps53
  go_wp2_with fail
  go_loopw [7, 8] (fun v i wr => ∃ n : Nat, (n : Int) ≤ (B - A + 1).toNat ∧ i = .int .i64 (A + n) ∧ wr.ownsRow (w.heap.size + 1) 3 1 v n ((partsL A n).map (Value.int .i64)) ∧ Box wr w.heap.size [.int .i64 k, .int .i64 f, .int .i64 l] ∧ Below w.heap.size w wr)
    (fun _ i _ => (B + 1 - intOf i).toNat)
  case atStart => exact ⟨0, by omega, by simp, World.ownsRow_nil _ _ _ _, V, b0⟩
  case round =>
    clear V b0
    obtain ⟨n, hn, rfl, hown, V, hbel⟩ := hrel
    obtain ⟨x0, x1, x2, p0, p1, p2⟩ := V.three
    have hlt0 := V.lt
    have HB := Lib.hid hbel
    have hn5 : n ≤ 512 := by omega
    clear hbel
    by_cases hlt : A + n ≤ B
    · have HOWN := Lib.hid hown
      clear hown
      have hs1 : w.heap.size + 1 ≤ wr.heap.size := hlt0
      go_wp2_with (at_builtin; refine app_int rfl (.tmp 21) (.tmp 23) 40 3 rfl Tryd.underlying40 hi hz0 hz1 hz2 (w.heap.size + 1) u7 (partsL A n) n (A + n) ?_ ?_ HOWN.out ?_ ?_ ?_ ?_; exact (parts_len A n).symm; rfl; rfl; omega; omega; intro v1 w1 hown1 hg1)
      have c1 := grown_below (Below.refl (w.heap.size + 1) wr) HOWN.out hg1 (Nat.le_refl _) hs1
      have c2 := grown_below HB.out HOWN.out hg1 (Nat.le_succ _) (by omega)
      have V1 := V.below c1 (Nat.lt_succ_self _)
      go_roundw
      case rel => exact ⟨n + 1, by omega, by go_num, by rw [parts_snoc]; exact hown1, V1, c2⟩
      case measure => simp [intOf]; omega
    · have hn2 : n = (B - A + 1).toNat := by omega
      have HOWN := Lib.hid hown
      clear hown
      have HN := Lib.hid hn2
      clear hn2
      go_wp2_with fail
      go_ret
      refine ⟨_, rfl, ?_, HB.out⟩
      rw [HL.out, parts_len, ← HN.out]
      exact ownsRow_lower HOWN.out (Nat.le_succ _)
set_option maxRecDepth 20000 in
set_option maxHeartbeats 1600000 in
theorem of2_is (n lk lf ll uk uf ul i : Int) (w : World) (n0 : 1 ≤ n) (n1 : n ≤ 512) (l0 : 0 ≤ lf) (l1 : ll < 2147483648) (u0 : 0 ≤ uf) (u1 : uf ≤ ul) (u2 : ul - uf < 512) (u3 : ul < 2147483648) (i0 : lf ≤ i) (i1 : i ≤ ll) :
    Calls Tryd.prog 32 #[.agg #[.int .i64 2, .int .i64 n], .agg #[.int .i64 lk, .int .i64 lf, .int .i64 ll], .agg #[.int .i64 uk, .int .i64 uf, .int .i64 ul], .int .i64 i] w (Ints (spanL uf ul (i - n + 1) i) w) := by
  have bw : Below w.heap.size w (((w.alloc (.cells #[.int .i64 2, .int .i64 n] 49)).alloc (.cells #[.int .i64 lk, .int .i64 lf, .int .i64 ll] 23)).alloc (.cells #[.int .i64 uk, .int .i64 uf, .int .i64 ul] 23)) := by go_grown
  have M := ((Box.new w [.int .i64 2, .int .i64 n] 49).alloc (.cells #[.int .i64 lk, .int .i64 lf, .int .i64 ll] 23)).alloc (.cells #[.int .i64 uk, .int .i64 uf, .int .i64 ul] 23)
  have U := Box.new ((w.alloc (.cells #[.int .i64 2, .int .i64 n] 49)).alloc (.cells #[.int .i64 lk, .int .i64 lf, .int .i64 ll] 23)) [.int .i64 uk, .int .i64 uf, .int .i64 ul] 23
  simp only [World.size_alloc] at U
  have HI := Lib.hid (And.intro i0 i1)
  go_enter Tryd.func32, Tryd.ntmps32
  go_wp2_with fail
  refine (has_is lk lf ll i true _ (decide_eq_true HI.out)).mono ?_
  rintro e w1 ⟨rfl, hb⟩
  have bw := two bw hb
  have M := M.next hb
  have U := U.next hb
  clear hb
  obtain ⟨m0, m1, _, _⟩ := M.two
  obtain ⟨x0, x1, x2, _, _, _⟩ := U.three
  go_wp2_with fail
  refine (span_is uk uf ul (i - n + 1) i _ u0 u1 u2 (by omega) (by omega) (by omega)).mono ?_
  rintro e w2 ⟨v, rfl, hown, hb⟩
  clear m0 m1 x0 x1 x2
  go_wp2_with fail
  go_ret
  exact ints_trans bw hown hb rfl
theorem last_show : mapB 2 3 = ⟨#[108, 97, 115, 116, 32, 51]⟩ := by decide +kernel
set_option maxHeartbeats 800000 in
theorem wawake_any (w : World) (hE : EnvW w) :
    Calls Tryd.prog 31 #[] w fun e w' => e = .returned (.bool true) ∧ Below w.heap.size w w' := by
  have HE := Lib.hid hE
  have bw : Below w.heap.size w (w.alloc (.cells #[.int .i64 2, .int .i64 0, .int .i64 9] 23)) := by go_grown
  clear hE
  go_enter Tryd.func31, Tryd.ntmps31
  go_wp2_with fail
  refine (of2_is 3 2 0 9 2 0 9 1 _ (by decide) (by decide) (by decide) (by decide) (by decide) (by decide) (by decide) (by decide) (by decide) (by decide)).mono ?_
  rintro e w1 ⟨v, rfl, hown, hb⟩
  have bw := two bw hb
  clear hb
  have hL : spanL 0 9 (1 - 3 + 1) 1 = [0, 1] := by decide
  rw [hL] at hown
  obtain ⟨g, cap, hv, hg1, hg2, hcl⟩ := ints_shape (n := 2) hown rfl (by decide)
  rw [hv]
  have c0 := hcl 0 0 rfl
  have c1 := hcl 1 1 rfl
  clear hv hown hcl hL
  go_wp2_with fail
  refine (mshow_is 2 3 _ _ (by decide) last_show (HE.out.below bw)).mono ?_
  rintro e w2 ⟨rfl, hb⟩
  clear c0 c1
  go_wp2_with fail
  go_ret
  exact ⟨rfl, two bw hb⟩
end Go.Proofs.YtkapkfddbdgmoaaDoor.Wi
