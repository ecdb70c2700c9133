/- Walks: does a mapping fit; the law on it. -/
import Derived.Test.YtkapkfddbdgmoaaDoorWinWalk1
set_option linter.unusedVariables false
set_option linter.unusedSimpArgs false
namespace Go.Proofs.YtkapkfddbdgmoaaDoor.Wi
open Go.RowKit Go Go.Sort Ba Sc
open Cal hiding ret_int ret_bool lt_of_cell

/-- What is told of a mapping between two schemes: the error's number. -/
def fitsV (k n lk lf ll uk uf ul : Int) : Int := if formB k n = true then (if (rightS lk lf ll && (rightS uk uf ul && fitsB k lk uk)) = true then 0 else 54) else 20
theorem fv_form {k n lk lf ll uk uf ul : Int} (h : formB k n = false) : fitsV k n lk lf ll uk uf ul = 20 := by unfold fitsV; rw [h]; rfl
theorem fv_low {k n lk lf ll uk uf ul : Int} (h : formB k n = true) (hl : rightS lk lf ll = false) : fitsV k n lk lf ll uk uf ul = 54 := by unfold fitsV; rw [h, hl]; rfl
theorem fv_up {k n lk lf ll uk uf ul : Int} (h : formB k n = true) (hl : rightS lk lf ll = true) (hu : rightS uk uf ul = false) : fitsV k n lk lf ll uk uf ul = 54 := by unfold fitsV; rw [h, hl, hu]; rfl
theorem fv_fit {k n lk lf ll uk uf ul : Int} (h : formB k n = true) (hl : rightS lk lf ll = true) (hu : rightS uk uf ul = true) (hf : fitsB k lk uk = false) : fitsV k n lk lf ll uk uf ul = 54 := by unfold fitsV; rw [h, hl, hu, hf]; rfl
theorem fv_ok {k n lk lf ll uk uf ul : Int} (h : formB k n = true) (hl : rightS lk lf ll = true) (hu : rightS uk uf ul = true) (hf : fitsB k lk uk = true) : fitsV k n lk lf ll uk uf ul = 0 := by unfold fitsV; rw [h, hl, hu, hf]; rfl
theorem Box.eight {W : World} {B : Nat} {a b c d e f g h : Value} (x : Box W B [a, b, c, d, e, f, g, h]) : W.cell? ⟨B, 0, none⟩ = some a ∧ W.cell? ⟨B, 1, none⟩ = some b ∧ W.cell? ⟨B, 2, none⟩ = some c ∧ W.cell? ⟨B, 3, none⟩ = some d ∧ W.cell? ⟨B, 4, none⟩ = some e ∧ W.cell? ⟨B, 5, none⟩ = some f ∧ W.cell? ⟨B, 6, none⟩ = some g ∧ W.cell? ⟨B, 7, none⟩ = some h :=
  ⟨x.cl 0 _ rfl, x.cl 1 _ rfl, x.cl 2 _ rfl, x.cl 3 _ rfl, x.cl 4 _ rfl, x.cl 5 _ rfl, x.cl 6 _ rfl, x.cl 7 _ rfl⟩
set_option maxRecDepth 100000 in
set_option maxHeartbeats 3200000 in
theorem winCheck_is (k n lk lf ll uk uf ul : Int) (w : World) (a0 : -9223372036854775808 ≤ lf) (a1 : ll ≤ 9223372036854775807) (c0 : -9223372036854775808 ≤ uf) (c1 : ul ≤ 9223372036854775807) (hE : EnvW w) :
    Calls Tryd.prog 34 #[.agg #[.int .i64 k, .int .i64 n], .agg #[.int .i64 lk, .int .i64 lf, .int .i64 ll], .agg #[.int .i64 uk, .int .i64 uf, .int .i64 ul]] w fun e w' => e = .returned (.int .i64 (fitsV k n lk lf ll uk uf ul)) ∧ Below w.heap.size w w' := by
  have HE := Lib.hid hE
  have bw : Below w.heap.size w (((w.alloc (.cells #[.int .i64 k, .int .i64 n] 49)).alloc (.cells #[.int .i64 lk, .int .i64 lf, .int .i64 ll] 23)).alloc (.cells #[.int .i64 uk, .int .i64 uf, .int .i64 ul] 23)) := by go_grown
  have M := ((Box.new w [.int .i64 k, .int .i64 n] 49).alloc (.cells #[.int .i64 lk, .int .i64 lf, .int .i64 ll] 23)).alloc (.cells #[.int .i64 uk, .int .i64 uf, .int .i64 ul] 23)
  have L := (Box.new (w.alloc (.cells #[.int .i64 k, .int .i64 n] 49)) [.int .i64 lk, .int .i64 lf, .int .i64 ll] 23).alloc (.cells #[.int .i64 uk, .int .i64 uf, .int .i64 ul] 23)
  have U := Box.new ((w.alloc (.cells #[.int .i64 k, .int .i64 n] 49)).alloc (.cells #[.int .i64 lk, .int .i64 lf, .int .i64 ll] 23)) [.int .i64 uk, .int .i64 uf, .int .i64 ul] 23
  simp only [World.size_alloc] at L U
  clear hE
  cases hf : formB k n
  · have HF := Lib.hid hf
    have HV := Lib.hid (fv_form (lk := lk) (lf := lf) (ll := ll) (uk := uk) (uf := uf) (ul := ul) hf)
    clear hf
    go_enter Tryd.func34, Tryd.ntmps34
    go_wp2_with fail
    refine (form_is k n false _ HF.out).mono ?_
    rintro e w1 ⟨rfl, hb⟩
    have bw := two bw hb
    have M := M.next hb
    have L := L.next hb
    have U := U.next hb
    clear hb
    go_wp2_with fail
    go_ret
    exact ⟨ret_int HV.out.symm, bw⟩
  obtain ⟨k1, k5⟩ := form_k hf
  have HF := Lib.hid hf
  cases hl : rightS lk lf ll
  · have HL := Lib.hid hl
    have HV := Lib.hid (fv_low (uk := uk) (uf := uf) (ul := ul) hf hl)
    clear hf hl
    go_enter Tryd.func34, Tryd.ntmps34
    go_wp2_with fail
    refine (form_is k n true _ HF.out).mono ?_
    rintro e w1 ⟨rfl, hb⟩
    have bw := two bw hb
    have M := M.next hb
    have L := L.next hb
    have U := U.next hb
    clear hb
    obtain ⟨m0, m1, _, _⟩ := M.two
    obtain ⟨l0, l1, l2, _, _, _⟩ := L.three
    obtain ⟨u0, u1, u2, _, _, _⟩ := U.three
    go_wp2_with fail
    refine (check_is lk lf ll false _ (HE.out.below bw).len a0 a1 HL.out).mono ?_
    rintro e w2 ⟨rfl, hb⟩
    have bw := two bw hb
    have M := M.next hb
    have L := L.next hb
    have U := U.next hb
    clear hb
    go_wp2_with fail
    go_ret
    exact ⟨ret_int HV.out.symm, bw⟩
  have HL := Lib.hid hl
  cases hu : rightS uk uf ul
  · have HU := Lib.hid hu
    have HV := Lib.hid (fv_up hf hl hu)
    clear hf hl hu
    go_enter Tryd.func34, Tryd.ntmps34
    go_wp2_with fail
    refine (form_is k n true _ HF.out).mono ?_
    rintro e w1 ⟨rfl, hb⟩
    have bw := two bw hb
    have M := M.next hb
    have L := L.next hb
    have U := U.next hb
    clear hb
    obtain ⟨m0, m1, _, _⟩ := M.two
    obtain ⟨l0, l1, l2, _, _, _⟩ := L.three
    obtain ⟨u0, u1, u2, _, _, _⟩ := U.three
    go_wp2_with fail
    refine (check_is lk lf ll true _ (HE.out.below bw).len a0 a1 HL.out).mono ?_
    clear m0 m1 l0 l1 l2 u0 u1 u2
    rintro e w2 ⟨rfl, hb⟩
    have bw := two bw hb
    have M := M.next hb
    have L := L.next hb
    have U := U.next hb
    clear hb
    obtain ⟨m0, m1, _, _⟩ := M.two
    obtain ⟨l0, l1, l2, _, _, _⟩ := L.three
    obtain ⟨u0, u1, u2, _, _, _⟩ := U.three
    go_wp2_with fail
    refine (check_is uk uf ul false _ (HE.out.below bw).len c0 c1 HU.out).mono ?_
    rintro e w3 ⟨rfl, hb⟩
    have bw := two bw hb
    have M := M.next hb
    have L := L.next hb
    have U := U.next hb
    clear hb
    go_wp2_with fail
    go_ret
    exact ⟨ret_int HV.out.symm, bw⟩
  have HU := Lib.hid hu
  by_cases c3 : k ≤ 3
  · by_cases e : lk = uk
    · have HV := Lib.hid (fv_ok hf hl hu (by unfold fitsB; apply decide_eq_true; omega))
      have ne : (lk != uk) = false := by simpa using e
      clear hf hl hu e
      go_enter Tryd.func34, Tryd.ntmps34
      go_wp2_with fail
      refine (form_is k n true _ HF.out).mono ?_
      rintro e w1 ⟨rfl, hb⟩
      have bw := two bw hb
      have M := M.next hb
      have L := L.next hb
      have U := U.next hb
      clear hb
      obtain ⟨m0, m1, _, _⟩ := M.two
      obtain ⟨l0, l1, l2, _, _, _⟩ := L.three
      obtain ⟨u0, u1, u2, _, _, _⟩ := U.three
      go_wp2_with fail
      refine (check_is lk lf ll true _ (HE.out.below bw).len a0 a1 HL.out).mono ?_
      clear m0 m1 l0 l1 l2 u0 u1 u2
      rintro e w2 ⟨rfl, hb⟩
      have bw := two bw hb
      have M := M.next hb
      have L := L.next hb
      have U := U.next hb
      clear hb
      obtain ⟨m0, m1, _, _⟩ := M.two
      obtain ⟨l0, l1, l2, _, _, _⟩ := L.three
      obtain ⟨u0, u1, u2, _, _, _⟩ := U.three
      go_wp2_with fail
      refine (check_is uk uf ul true _ (HE.out.below bw).len c0 c1 HU.out).mono ?_
      clear m0 m1 l0 l1 l2 u0 u1 u2
      rintro e w3 ⟨rfl, hb⟩
      have bw := two bw hb
      have M := M.next hb
      have L := L.next hb
      have U := U.next hb
      clear hb
      obtain ⟨m0, m1, _, _⟩ := M.two
      obtain ⟨l0, l1, l2, _, _, _⟩ := L.three
      obtain ⟨u0, u1, u2, _, _, _⟩ := U.three
      go_wp2_with fail
      go_ret
      exact ⟨ret_int HV.out.symm, bw⟩
    · have HV := Lib.hid (fv_fit hf hl hu (by unfold fitsB; apply decide_eq_false; omega))
      have ne : (lk != uk) = true := by simpa using e
      clear hf hl hu e
      go_enter Tryd.func34, Tryd.ntmps34
      go_wp2_with fail
      refine (form_is k n true _ HF.out).mono ?_
      rintro e w1 ⟨rfl, hb⟩
      have bw := two bw hb
      have M := M.next hb
      have L := L.next hb
      have U := U.next hb
      clear hb
      obtain ⟨m0, m1, _, _⟩ := M.two
      obtain ⟨l0, l1, l2, _, _, _⟩ := L.three
      obtain ⟨u0, u1, u2, _, _, _⟩ := U.three
      go_wp2_with fail
      refine (check_is lk lf ll true _ (HE.out.below bw).len a0 a1 HL.out).mono ?_
      clear m0 m1 l0 l1 l2 u0 u1 u2
      rintro e w2 ⟨rfl, hb⟩
      have bw := two bw hb
      have M := M.next hb
      have L := L.next hb
      have U := U.next hb
      clear hb
      obtain ⟨m0, m1, _, _⟩ := M.two
      obtain ⟨l0, l1, l2, _, _, _⟩ := L.three
      obtain ⟨u0, u1, u2, _, _, _⟩ := U.three
      go_wp2_with fail
      refine (check_is uk uf ul true _ (HE.out.below bw).len c0 c1 HU.out).mono ?_
      clear m0 m1 l0 l1 l2 u0 u1 u2
      rintro e w3 ⟨rfl, hb⟩
      have bw := two bw hb
      have M := M.next hb
      have L := L.next hb
      have U := U.next hb
      clear hb
      obtain ⟨m0, m1, _, _⟩ := M.two
      obtain ⟨l0, l1, l2, _, _, _⟩ := L.three
      obtain ⟨u0, u1, u2, _, _, _⟩ := U.three
      go_wp2_with fail
      go_ret
      exact ⟨ret_int HV.out.symm, bw⟩
  have d3 : decide (k ≤ 3) = false := decide_eq_false c3
  by_cases k4 : k = 4
  · subst k4
    by_cases l5 : lk = 5
    · subst l5
      have HV := Lib.hid (fv_fit hf hl hu (by unfold fitsB; apply decide_eq_false; omega))
      clear hf hl hu
      go_enter Tryd.func34, Tryd.ntmps34
      go_wp2_with fail
      refine (form_is 4 n true _ HF.out).mono ?_
      rintro e w1 ⟨rfl, hb⟩
      have bw := two bw hb
      have M := M.next hb
      have L := L.next hb
      have U := U.next hb
      clear hb
      obtain ⟨m0, m1, _, _⟩ := M.two
      obtain ⟨l0, l1, l2, _, _, _⟩ := L.three
      obtain ⟨u0, u1, u2, _, _, _⟩ := U.three
      go_wp2_with fail
      refine (check_is 5 lf ll true _ (HE.out.below bw).len a0 a1 HL.out).mono ?_
      clear m0 m1 l0 l1 l2 u0 u1 u2
      rintro e w2 ⟨rfl, hb⟩
      have bw := two bw hb
      have M := M.next hb
      have L := L.next hb
      have U := U.next hb
      clear hb
      obtain ⟨m0, m1, _, _⟩ := M.two
      obtain ⟨l0, l1, l2, _, _, _⟩ := L.three
      obtain ⟨u0, u1, u2, _, _, _⟩ := U.three
      go_wp2_with fail
      refine (check_is uk uf ul true _ (HE.out.below bw).len c0 c1 HU.out).mono ?_
      clear m0 m1 l0 l1 l2 u0 u1 u2
      rintro e w3 ⟨rfl, hb⟩
      have bw := two bw hb
      have M := M.next hb
      have L := L.next hb
      have U := U.next hb
      clear hb
      obtain ⟨m0, m1, _, _⟩ := M.two
      obtain ⟨l0, l1, l2, _, _, _⟩ := L.three
      obtain ⟨u0, u1, u2, _, _, _⟩ := U.three
      go_wp2_with fail
      go_ret
      exact ⟨ret_int HV.out.symm, bw⟩
    have e5 : (lk == 5) = false := by simpa using l5
    by_cases u5 : uk = 5
    · subst u5
      have HV := Lib.hid (fv_fit hf hl hu (by unfold fitsB; apply decide_eq_false; omega))
      clear hf hl hu l5
      go_enter Tryd.func34, Tryd.ntmps34
      go_wp2_with fail
      refine (form_is 4 n true _ HF.out).mono ?_
      rintro e w1 ⟨rfl, hb⟩
      have bw := two bw hb
      have M := M.next hb
      have L := L.next hb
      have U := U.next hb
      clear hb
      obtain ⟨m0, m1, _, _⟩ := M.two
      obtain ⟨l0, l1, l2, _, _, _⟩ := L.three
      obtain ⟨u0, u1, u2, _, _, _⟩ := U.three
      go_wp2_with fail
      refine (check_is lk lf ll true _ (HE.out.below bw).len a0 a1 HL.out).mono ?_
      clear m0 m1 l0 l1 l2 u0 u1 u2
      rintro e w2 ⟨rfl, hb⟩
      have bw := two bw hb
      have M := M.next hb
      have L := L.next hb
      have U := U.next hb
      clear hb
      obtain ⟨m0, m1, _, _⟩ := M.two
      obtain ⟨l0, l1, l2, _, _, _⟩ := L.three
      obtain ⟨u0, u1, u2, _, _, _⟩ := U.three
      go_wp2_with fail
      refine (check_is 5 uf ul true _ (HE.out.below bw).len c0 c1 HU.out).mono ?_
      clear m0 m1 l0 l1 l2 u0 u1 u2
      rintro e w3 ⟨rfl, hb⟩
      have bw := two bw hb
      have M := M.next hb
      have L := L.next hb
      have U := U.next hb
      clear hb
      obtain ⟨m0, m1, _, _⟩ := M.two
      obtain ⟨l0, l1, l2, _, _, _⟩ := L.three
      obtain ⟨u0, u1, u2, _, _, _⟩ := U.three
      go_wp2_with fail
      go_ret
      exact ⟨ret_int HV.out.symm, bw⟩
    have f5 : (uk == 5) = false := by simpa using u5
    have HV := Lib.hid (fv_ok hf hl hu (by unfold fitsB; apply decide_eq_true; omega))
    clear hf hl hu l5 u5
    go_enter Tryd.func34, Tryd.ntmps34
    go_wp2_with fail
    refine (form_is 4 n true _ HF.out).mono ?_
    rintro e w1 ⟨rfl, hb⟩
    have bw := two bw hb
    have M := M.next hb
    have L := L.next hb
    have U := U.next hb
    clear hb
    obtain ⟨m0, m1, _, _⟩ := M.two
    obtain ⟨l0, l1, l2, _, _, _⟩ := L.three
    obtain ⟨u0, u1, u2, _, _, _⟩ := U.three
    go_wp2_with fail
    refine (check_is lk lf ll true _ (HE.out.below bw).len a0 a1 HL.out).mono ?_
    clear m0 m1 l0 l1 l2 u0 u1 u2
    rintro e w2 ⟨rfl, hb⟩
    have bw := two bw hb
    have M := M.next hb
    have L := L.next hb
    have U := U.next hb
    clear hb
    obtain ⟨m0, m1, _, _⟩ := M.two
    obtain ⟨l0, l1, l2, _, _, _⟩ := L.three
    obtain ⟨u0, u1, u2, _, _, _⟩ := U.three
    go_wp2_with fail
    refine (check_is uk uf ul true _ (HE.out.below bw).len c0 c1 HU.out).mono ?_
    clear m0 m1 l0 l1 l2 u0 u1 u2
    rintro e w3 ⟨rfl, hb⟩
    have bw := two bw hb
    have M := M.next hb
    have L := L.next hb
    have U := U.next hb
    clear hb
    obtain ⟨m0, m1, _, _⟩ := M.two
    obtain ⟨l0, l1, l2, _, _, _⟩ := L.three
    obtain ⟨u0, u1, u2, _, _, _⟩ := U.three
    go_wp2_with fail
    go_ret
    exact ⟨ret_int HV.out.symm, bw⟩
  have e4 : (k == 4) = false := by simpa using k4
  have HV := Lib.hid (fv_ok hf hl hu (by unfold fitsB; apply decide_eq_true; omega))
  clear hf hl hu k4
  go_enter Tryd.func34, Tryd.ntmps34
  go_wp2_with fail
  refine (form_is k n true _ HF.out).mono ?_
  rintro e w1 ⟨rfl, hb⟩
  have bw := two bw hb
  have M := M.next hb
  have L := L.next hb
  have U := U.next hb
  clear hb
  obtain ⟨m0, m1, _, _⟩ := M.two
  obtain ⟨l0, l1, l2, _, _, _⟩ := L.three
  obtain ⟨u0, u1, u2, _, _, _⟩ := U.three
  go_wp2_with fail
  refine (check_is lk lf ll true _ (HE.out.below bw).len a0 a1 HL.out).mono ?_
  clear m0 m1 l0 l1 l2 u0 u1 u2
  rintro e w2 ⟨rfl, hb⟩
  have bw := two bw hb
  have M := M.next hb
  have L := L.next hb
  have U := U.next hb
  clear hb
  obtain ⟨m0, m1, _, _⟩ := M.two
  obtain ⟨l0, l1, l2, _, _, _⟩ := L.three
  obtain ⟨u0, u1, u2, _, _, _⟩ := U.three
  go_wp2_with fail
  refine (check_is uk uf ul true _ (HE.out.below bw).len c0 c1 HU.out).mono ?_
  clear m0 m1 l0 l1 l2 u0 u1 u2
  rintro e w3 ⟨rfl, hb⟩
  have bw := two bw hb
  have M := M.next hb
  have L := L.next hb
  have U := U.next hb
  clear hb
  obtain ⟨m0, m1, _, _⟩ := M.two
  obtain ⟨l0, l1, l2, _, _, _⟩ := L.three
  obtain ⟨u0, u1, u2, _, _, _⟩ := U.three
  go_wp2_with fail
  go_ret
  exact ⟨ret_int HV.out.symm, bw⟩
set_option maxRecDepth 100000 in
set_option maxHeartbeats 3200000 in
theorem fits_is (k n lk lf ll uk uf ul : Int) (w : World) (a0 : -9223372036854775808 ≤ lf) (a1 : ll ≤ 9223372036854775807) (c0 : -9223372036854775808 ≤ uf) (c1 : ul ≤ 9223372036854775807) :
    Calls Tryd.prog 29 #[.agg #[.int .i64 k, .int .i64 n, .int .i64 lk, .int .i64 lf, .int .i64 ll, .int .i64 uk, .int .i64 uf, .int .i64 ul]] w fun e w' => e = .returned (.int .i64 (fitsV k n lk lf ll uk uf ul)) ∧ Below w.heap.size w w' := by
  have bw : Below w.heap.size w ((w.alloc (.cells #[.int .i64 k, .int .i64 n, .int .i64 lk, .int .i64 lf, .int .i64 ll, .int .i64 uk, .int .i64 uf, .int .i64 ul] 51)).alloc (.cells #[.int .i64 k, .int .i64 n] 58)) := by go_grown
  have Q := (Box.new w [.int .i64 k, .int .i64 n, .int .i64 lk, .int .i64 lf, .int .i64 ll, .int .i64 uk, .int .i64 uf, .int .i64 ul] 51).alloc (.cells #[.int .i64 k, .int .i64 n] 58)
  have M := Box.new (w.alloc (.cells #[.int .i64 k, .int .i64 n, .int .i64 lk, .int .i64 lf, .int .i64 ll, .int .i64 uk, .int .i64 uf, .int .i64 ul] 51)) [.int .i64 k, .int .i64 n] 58
  simp only [World.size_alloc] at M
  cases hf : formB k n
  · have HF := Lib.hid hf
    have HV := Lib.hid (fv_form (lk := lk) (lf := lf) (ll := ll) (uk := uk) (uf := uf) (ul := ul) hf)
    clear hf
    go_enter Tryd.func29, Tryd.ntmps29
    go_wp2_with fail
    refine (refForm_is k n false _ HF.out).mono ?_
    rintro e w1 ⟨rfl, hb⟩
    have bw := two bw hb
    have M := M.next hb
    have Q := Q.next hb
    clear hb
    go_wp2_with fail
    go_ret
    exact ⟨ret_int HV.out.symm, bw⟩
  obtain ⟨k1, k5⟩ := form_k hf
  have HF := Lib.hid hf
  cases hl : rightS lk lf ll
  · have HL := Lib.hid hl
    have HV := Lib.hid (fv_low (uk := uk) (uf := uf) (ul := ul) hf hl)
    clear hf hl
    go_enter Tryd.func29, Tryd.ntmps29
    go_wp2_with fail
    refine (refForm_is k n true _ HF.out).mono ?_
    rintro e w1 ⟨rfl, hb⟩
    have bw := two bw hb
    have M := M.next hb
    have Q := Q.next hb
    clear hb
    obtain ⟨q0, q1, q2, q3, q4, q5, q6, q7⟩ := Box.eight Q
    obtain ⟨m0, m1, _, _⟩ := M.two
    go_wp2_with fail
    have q0 := cell_regrown q0
    have q1 := cell_regrown q1
    have q2 := cell_regrown q2
    have q3 := cell_regrown q3
    have q4 := cell_regrown q4
    have q5 := cell_regrown q5
    have q6 := cell_regrown q6
    have q7 := cell_regrown q7
    have m0 := cell_regrown m0
    have m1 := cell_regrown m1
    have cA := qcall (w := w1) fun W' _ => ref12_is lk lf ll W'
    have cB := qcall (w := w1) fun W' _ => ref12_is uk uf ul W'
    have cL := qcall (w := w1) fun W' _ => refRight_is lk lf ll false W' a0 a1 HL.out
    refine wp_region_quiet_below (by kernel_rfl) (by kernel_rfl) ?_
    repeat (go_big_quiet_step (with_reducible (first | exact cA _ _ | exact cB _ _ | exact cL _ _)))
    refine wpQuiet_nil ?_
    intro _ hw'
    obtain ⟨⟨dq1, os1⟩, hw''⟩ := hw'
    subst hw''
    have bw := two bw (below_regrown _ dq1 os1)
    go_wp2_with fail
    go_ret
    exact ⟨ret_int HV.out.symm, bw⟩
  have HL := Lib.hid hl
  cases hu : rightS uk uf ul
  · have HU := Lib.hid hu
    have HV := Lib.hid (fv_up hf hl hu)
    clear hf hl hu
    go_enter Tryd.func29, Tryd.ntmps29
    go_wp2_with fail
    refine (refForm_is k n true _ HF.out).mono ?_
    rintro e w1 ⟨rfl, hb⟩
    have bw := two bw hb
    have M := M.next hb
    have Q := Q.next hb
    clear hb
    obtain ⟨q0, q1, q2, q3, q4, q5, q6, q7⟩ := Box.eight Q
    obtain ⟨m0, m1, _, _⟩ := M.two
    go_wp2_with fail
    have q0 := cell_regrown q0
    have q1 := cell_regrown q1
    have q2 := cell_regrown q2
    have q3 := cell_regrown q3
    have q4 := cell_regrown q4
    have q5 := cell_regrown q5
    have q6 := cell_regrown q6
    have q7 := cell_regrown q7
    have m0 := cell_regrown m0
    have m1 := cell_regrown m1
    have cA := qcall (w := w1) fun W' _ => ref12_is lk lf ll W'
    have cB := qcall (w := w1) fun W' _ => ref12_is uk uf ul W'
    have cL := qcall (w := w1) fun W' _ => refRight_is lk lf ll true W' a0 a1 HL.out
    have cU := qcall (w := w1) fun W' _ => refRight_is uk uf ul false W' c0 c1 HU.out
    refine wp_region_quiet_below (by kernel_rfl) (by kernel_rfl) ?_
    repeat (go_big_quiet_step (with_reducible (first | exact cA _ _ | exact cB _ _ | exact cL _ _ | exact cU _ _)))
    refine wpQuiet_nil ?_
    intro _ hw'
    obtain ⟨⟨dq1, os1⟩, hw''⟩ := hw'
    subst hw''
    have bw := two bw (below_regrown _ dq1 os1)
    go_wp2_with fail
    go_ret
    exact ⟨ret_int HV.out.symm, bw⟩
  have HU := Lib.hid hu
  cases ht : fitsB k lk uk
  · have HT := Lib.hid ht
    have HV := Lib.hid (fv_fit hf hl hu ht)
    clear hf hl hu ht
    go_enter Tryd.func29, Tryd.ntmps29
    go_wp2_with fail
    refine (refForm_is k n true _ HF.out).mono ?_
    rintro e w1 ⟨rfl, hb⟩
    have bw := two bw hb
    have M := M.next hb
    have Q := Q.next hb
    clear hb
    obtain ⟨q0, q1, q2, q3, q4, q5, q6, q7⟩ := Box.eight Q
    obtain ⟨m0, m1, _, _⟩ := M.two
    go_wp2_with fail
    have q0 := cell_regrown q0
    have q1 := cell_regrown q1
    have q2 := cell_regrown q2
    have q3 := cell_regrown q3
    have q4 := cell_regrown q4
    have q5 := cell_regrown q5
    have q6 := cell_regrown q6
    have q7 := cell_regrown q7
    have m0 := cell_regrown m0
    have m1 := cell_regrown m1
    have cA := qcall (w := w1) fun W' _ => ref12_is lk lf ll W'
    have cB := qcall (w := w1) fun W' _ => ref12_is uk uf ul W'
    have cL := qcall (w := w1) fun W' _ => refRight_is lk lf ll true W' a0 a1 HL.out
    have cU := qcall (w := w1) fun W' _ => refRight_is uk uf ul true W' c0 c1 HU.out
    have cF := qcall (w := w1) fun W' _ => refFits_is k n lk lf ll uk uf ul false W' k1 k5 HT.out
    refine wp_region_quiet_below (by kernel_rfl) (by kernel_rfl) ?_
    repeat (go_big_quiet_step (with_reducible (first | exact cA _ _ | exact cB _ _ | exact cL _ _ | exact cU _ _ | exact cF _ _)))
    refine wpQuiet_nil ?_
    intro _ hw'
    obtain ⟨⟨dq1, os1⟩, hw''⟩ := hw'
    subst hw''
    have bw := two bw (below_regrown _ dq1 os1)
    go_wp2_with fail
    go_ret
    exact ⟨ret_int HV.out.symm, bw⟩
  · have HT := Lib.hid ht
    have HV := Lib.hid (fv_ok hf hl hu ht)
    clear hf hl hu ht
    go_enter Tryd.func29, Tryd.ntmps29
    go_wp2_with fail
    refine (refForm_is k n true _ HF.out).mono ?_
    rintro e w1 ⟨rfl, hb⟩
    have bw := two bw hb
    have M := M.next hb
    have Q := Q.next hb
    clear hb
    obtain ⟨q0, q1, q2, q3, q4, q5, q6, q7⟩ := Box.eight Q
    obtain ⟨m0, m1, _, _⟩ := M.two
    go_wp2_with fail
    have q0 := cell_regrown q0
    have q1 := cell_regrown q1
    have q2 := cell_regrown q2
    have q3 := cell_regrown q3
    have q4 := cell_regrown q4
    have q5 := cell_regrown q5
    have q6 := cell_regrown q6
    have q7 := cell_regrown q7
    have m0 := cell_regrown m0
    have m1 := cell_regrown m1
    have cA := qcall (w := w1) fun W' _ => ref12_is lk lf ll W'
    have cB := qcall (w := w1) fun W' _ => ref12_is uk uf ul W'
    have cL := qcall (w := w1) fun W' _ => refRight_is lk lf ll true W' a0 a1 HL.out
    have cU := qcall (w := w1) fun W' _ => refRight_is uk uf ul true W' c0 c1 HU.out
    have cF := qcall (w := w1) fun W' _ => refFits_is k n lk lf ll uk uf ul true W' k1 k5 HT.out
    refine wp_region_quiet_below (by kernel_rfl) (by kernel_rfl) ?_
    repeat (go_big_quiet_step (with_reducible (first | exact cA _ _ | exact cB _ _ | exact cL _ _ | exact cU _ _ | exact cF _ _)))
    refine wpQuiet_nil ?_
    intro _ hw'
    obtain ⟨⟨dq1, os1⟩, hw''⟩ := hw'
    subst hw''
    have bw := two bw (below_regrown _ dq1 os1)
    go_wp2_with fail
    go_ret
    exact ⟨ret_int HV.out.symm, bw⟩
end Go.Proofs.YtkapkfddbdgmoaaDoor.Wi
