/- Walks: the partition of a minute, by the library's search. -/
import Derived.Test.YtkapkfddbdgmoaaDoorSchWin
import Derived.Deep.LoopGhost
set_option linter.unusedVariables false
set_option linter.unusedSimpArgs false
namespace Go.Proofs.YtkapkfddbdgmoaaDoor.Sc
open Go.RowKit Go Go.Sort Ba
open Cal hiding ret_int ret_bool lt_of_cell

set_option maxHeartbeats 800000 in
/-- The test that is handed to the search. -/
theorem at1_is (k f l m h q : Int) (sB mB : Nat) (W : World) (S : Box W sB [.int .i64 k, .int .i64 f, .int .i64 l]) (M : Box W mB [.int .i64 m]) (hL : Len W) (f0 : 0 ≤ f) (h0 : 0 ≤ h) (h1 : f + h + 1 ≤ 2147483648) (hq : startV k (f + h + 1) = q) :
    Calls Tryd.prog 48 #[.int .i64 h, .pointer (some ⟨sB, 0, none⟩), .pointer (some ⟨mB, 0, none⟩)] W fun e w' => e = .returned (.bool (decide (m < q))) ∧ Below W.heap.size W w' := by
  obtain ⟨x0, x1, x2, _, _, _⟩ := S.three
  have y0 := M.cl 0 _ rfl
  have HL := Lib.hid hL
  have HQ := Lib.hid hq
  have hw1 : IntKind.i64.wrap (f + h) = f + h := IntWalk.i64_in _ (by omega)
  have hw2 : IntKind.i64.wrap (f + h + 1) = f + h + 1 := IntWalk.i64_in _ (by omega)
  clear hL hq
  go_enter Tryd.func48, Tryd.ntmps48
  go_wp2_with fail
  have x0 := cell_regrown x0
  have x1 := cell_regrown x1
  have x2 := cell_regrown x2
  have y0 := cell_regrown y0
  have cA := qcall (w := W) fun W' hb => start_is k f l (f + h + 1) q W' (Len.below HL.out hb) (by omega) h1 HQ.out
  refine wp_region_quiet_below (by kernel_rfl) (by kernel_rfl) ?_
  repeat (go_big_quiet_step (with_reducible (first | exact cA _ _)))
  refine wpQuiet_nil ?_
  intro _ hw'
  obtain ⟨⟨dq1, os1⟩, hw''⟩ := hw'
  subst hw''
  go_wp2_with fail
  go_ret
  exact ⟨rfl, below_regrown _ _ _⟩
/-- What the search finds. -/
def Found (p : Nat → Bool) (n : Nat) (w : World) (e : Ending) (w' : World) : Prop := ∃ r : Nat, r ≤ n ∧ (∀ t, t < r → p t = false) ∧ (∀ t, r ≤ t → t < n → p t = true) ∧ e = .returned (.int .i64 r) ∧ Below w.heap.size w w'
set_option maxHeartbeats 1600000 in
theorem search_is (k f l m : Int) (n : Nat) (p : Nat → Bool) (sB mB : Nat) (w : World) (S : Box w sB [.int .i64 k, .int .i64 f, .int .i64 l]) (M : Box w mB [.int .i64 m]) (hL : Len w) (f0 : 0 ≤ f) (h1 : f + n ≤ 2147483648)
    (hp : ∀ t : Nat, t < n → decide (m < startV k (f + t + 1)) = p t) (hmono : ∀ a b, a ≤ b → b < n → p a = true → p b = true) :
    Calls Tryd.prog 47 #[.int .i64 n, .func (.func 48) #[] #[.pointer (some ⟨sB, 0, none⟩), .pointer (some ⟨mB, 0, none⟩)]] w (Found p n w) := by
  have HS := Lib.hid S
  have HM := Lib.hid M
  have HL := Lib.hid hL
  have HP := Lib.hid hp
  have MO := Lib.hid hmono
  have n1 : (n : Int) ≤ 2147483648 := by omega
  clear S M hL hp hmono
  go_enter Tryd.func47, Tryd.ntmps47
  go_wp2_with fail
  go_loopg [5, 6] n (fun kx s5 s6 wr => ∃ (lo hi : Nat), s5 = .int .i64 lo ∧ s6 = .int .i64 hi ∧ lo ≤ hi ∧ hi ≤ n ∧ hi - lo ≤ kx ∧ Hid (Below w.heap.size w wr) ∧
    Hid ((∀ t, t < lo → p t = false) ∧ (∀ t, hi ≤ t → t < n → p t = true)))
  case atStart => exact ⟨0, n, rfl, rfl, Nat.zero_le _, Nat.le_refl _, by omega, Below.refl _ _, (⟨fun t ht => absurd ht (Nat.not_lt_zero _), fun t h1 h2 => by omega⟩ : (∀ t, t < 0 → p t = false) ∧ (∀ t, n ≤ t → t < n → p t = true))⟩
  case round =>
    obtain ⟨lo, hi, rfl, rfl, hlh, hin, hg, HB, I⟩ := hrel
    by_cases hlt : lo < hi
    · obtain ⟨q, hq⟩ : ∃ q, startV k (f + (((lo + hi) / 2 : Nat) : Int) + 1) = q := ⟨_, rfl⟩
      have hpm := HP.out ((lo + hi) / 2) (by omega)
      rw [hq] at hpm
      have hc := at1_is k f l m (((lo + hi) / 2 : Nat) : Int) q sB mB wr (HS.out.next HB.out) (HM.out.next HB.out) (Len.below HL.out HB.out) f0 (by omega) (by omega) hq
      rw [hpm] at hc
      rw [show (((lo + hi) / 2 : Nat) : Int) = ((lo : Int) + (hi : Int)) / 2 by omega] at hc
      have HC := Lib.hid hc
      clear hc hq hpm
      cases hp : p ((lo + hi) / 2) <;> rw [hp] at HC
      · have HPF := Lib.hid hp
        clear hp
        go_wp2_with (go_at_call 48; refine HC.out.mono ?_; rintro e w' ⟨rfl, hb⟩)
        have b2 := two HB.out hb
        go_roundg (hi - ((lo + hi) / 2 + 1))
        case measure => omega
        case rel =>
          have I2 : Hid ((∀ t, t < (lo + hi) / 2 + 1 → p t = false) ∧ (∀ t, hi ≤ t → t < n → p t = true)) := ⟨fun t ht => (by
            cases h : p t with
            | false => rfl
            | true => have := MO.out t ((lo + hi) / 2) (by omega) (by omega) h; rw [HPF.out] at this; cases this), I.out.2⟩
          exact ⟨(lo + hi) / 2 + 1, hi, by rw [show ((lo : Int) + (hi : Int)) / 2 + 1 = (((lo + hi) / 2 + 1 : Nat) : Int) by omega], rfl, by omega, hin, Nat.le_refl _, b2, I2⟩
      · have HPT := Lib.hid hp
        clear hp
        go_wp2_with (go_at_call 48; refine HC.out.mono ?_; rintro e w' ⟨rfl, hb⟩)
        have b2 := two HB.out hb
        go_roundg ((lo + hi) / 2 - lo)
        case measure => omega
        case rel =>
          have I2 : Hid ((∀ t, t < lo → p t = false) ∧ (∀ t, (lo + hi) / 2 ≤ t → t < n → p t = true)) := ⟨I.out.1, fun t ht htn => MO.out ((lo + hi) / 2) t ht htn HPT.out⟩
          exact ⟨lo, (lo + hi) / 2, rfl, by rw [show ((lo : Int) + (hi : Int)) / 2 = (((lo + hi) / 2 : Nat) : Int) by omega], by omega, by omega, Nat.le_refl _, b2, I2⟩
    · obtain rfl : hi = lo := by omega
      go_wp2_with fail
      go_ret
      exact ⟨hi, hin, I.out.1, I.out.2, rfl, HB.out⟩
/-- Which partition a minute lies in. -/
def AtV (k f l m i : Int) (ok : Bool) : Prop := (ok = true ∧ f ≤ i ∧ i ≤ l ∧ startV k i ≤ m ∧ m < startV k (i + 1)) ∨ (ok = false ∧ i = 0 ∧ (m < startV k f ∨ startV k (l + 1) ≤ m))
def AtR (k f l m : Int) (w : World) (e : Ending) (w' : World) : Prop := ∃ (i : Int) (ok : Bool), AtV k f l m i ok ∧ e = .returned (.tuple #[.int .i64 i, .bool ok]) ∧ Below w.heap.size w w'
set_option maxHeartbeats 1600000 in
theorem at_is (k f l m : Int) (w : World) (hL : Len w) (hr : rightS k f l = true) (h5 : k ≠ 5) :
    Calls Tryd.prog 27 #[.agg #[.int .i64 k, .int .i64 f, .int .i64 l], .int .i64 m] w (AtR k f l m w) := by
  obtain ⟨k1, k5, f0, fl, lf, _, lfar, lend⟩ := rs_iff hr
  have le := lend h5
  obtain ⟨n, hn⟩ : ∃ n : Nat, (n : Int) = l - f + 1 := ⟨(l - f + 1).toNat, by omega⟩
  have n0 : 0 < n := by omega
  have bw : Below w.heap.size w ((w.alloc (.cells #[.int .i64 k, .int .i64 f, .int .i64 l] 23)).alloc (.cells #[.int .i64 m] 3)) := by go_grown
  have S := (Box.new w [.int .i64 k, .int .i64 f, .int .i64 l] 23).alloc (.cells #[.int .i64 m] 3)
  have M := Box.new (w.alloc (.cells #[.int .i64 k, .int .i64 f, .int .i64 l] 23)) [.int .i64 m] 3
  simp only [World.size_alloc] at M
  have HL := Lib.hid hL
  have e5 : (k == 5) = false := by simpa using h5
  obtain ⟨p, hp⟩ : ∃ p : Nat → Bool, p = fun t : Nat => decide (m < startV k (f + t + 1)) := ⟨_, rfl⟩
  have hp1 : ∀ t : Nat, decide (m < startV k (f + t + 1)) = p t := fun t => by rw [hp]
  have hmono : ∀ a b, a ≤ b → b < n → p a = true → p b = true := fun a b hab hb ha => by
    rw [← hp1] at ha ⊢
    rw [decide_eq_true_eq] at ha ⊢
    have := (sv_mono k1 k5 h5 (i := f + a + 1) (j := f + b + 1) (by omega) (by omega) (sv_mono k1 k5 h5 (i := f + b + 1) (j := l + 1) (by omega) (by omega) le).1).2.1
    omega
  have HP := Lib.hid hp1
  have HMO := Lib.hid hmono
  have HLE := Lib.hid le
  have H5 := Lib.hid h5
  have HN : Hid (l - f + 1 = (n : Int)) := hn.symm
  have hfn : f + (n : Int) ≤ 2147483648 := by omega
  clear hn hp hp1 hmono hL h5 lend le hr
  go_enter Tryd.func27, Tryd.ntmps27
  obtain ⟨x0, x1, x2, _, _, _⟩ := S.three
  go_wp2_with fail
  refine (count_is k f l n _ f0 fl (by omega) HN.out).mono ?_
  rintro e w1 ⟨rfl, hb⟩
  have bw := two bw hb
  have S := S.next hb
  have M := M.next hb
  clear hb x0 x1 x2
  go_wp2_with fail
  have cS := search_is k f l m n p _ _ _ S M (Len.below HL.out bw) f0 hfn (fun t _ => HP.out t) HMO.out
  refine cS.mono ?_
  rintro e w2 ⟨r, hrn, hlo, hhi, rfl, hb⟩
  have bw := two bw hb
  have S := S.next hb
  have M := M.next hb
  have HLO := Lib.hid hlo
  have HHI := Lib.hid hhi
  clear hb hlo hhi
  obtain ⟨x0, x1, x2, _, _, _⟩ := S.three
  have y0 := M.cl 0 _ rfl
  obtain ⟨q, hq⟩ : ∃ q, startV k (f + r) = q := ⟨_, rfl⟩
  have HQ := Lib.hid hq
  clear hq
  have x0 := cell_regrown x0
  have x1 := cell_regrown x1
  have x2 := cell_regrown x2
  have y0 := cell_regrown y0
  by_cases c1 : r < n
  · have hhas : Hid (decide (f ≤ f + (r : Int) ∧ f + (r : Int) ≤ l) = true) := decide_eq_true ⟨by omega, by have := HN.out; omega⟩
    have cA := qcall (w := w2) fun W' hb => has_is k f l (f + r) true W' hhas.out
    have cB := qcall (w := w2) fun W' hb => start_is k f l (f + r) q W' (Len.below HL.out (two bw hb)) (by omega) (by have := HN.out; omega) HQ.out
    have pr := HHI.out r (Nat.le_refl _) c1
    rw [← HP.out, decide_eq_true_eq] at pr
    have PR := Lib.hid pr
    clear pr
    obtain ⟨z0, z1, z2, _, _, _⟩ := S.three
    by_cases c2 : m < q
    · have HV : Hid (AtV k f l m 0 false) := .inr ⟨rfl, rfl, .inl (by
        have hr0 : r = 0 := Classical.byContradiction fun hne => by
          have := HLO.out (r - 1) (by omega)
          rw [← HP.out, decide_eq_false_iff_not, show f + ((r - 1 : Nat) : Int) + 1 = f + r from by omega, HQ.out] at this
          omega
        have h := HQ.out
        rw [hr0] at h
        simp at h
        rw [h]; exact c2)⟩
      go_wp2_with fail
      refine wp_region_quiet_below (by kernel_rfl) (by kernel_rfl) ?_
      repeat (go_big_quiet_step (with_reducible (first | exact cA _ _ | exact cB _ _)))
      refine wpQuiet_nil ?_
      intro _ hw'
      obtain ⟨⟨dq1, os1⟩, hw''⟩ := hw'
      subst hw''
      go_wp2_with fail
      go_returns
      exact ⟨_, _, HV.out, rfl, two bw (below_regrown _ _ _)⟩
    · have HV : Hid (AtV k f l m (f + r) true) := .inl ⟨rfl, by omega, by have := HN.out; omega, by rw [HQ.out]; omega, PR.out⟩
      go_wp2_with fail
      refine wp_region_quiet_below (by kernel_rfl) (by kernel_rfl) ?_
      repeat (go_big_quiet_step (with_reducible (first | exact cA _ _ | exact cB _ _)))
      refine wpQuiet_nil ?_
      intro _ hw'
      obtain ⟨⟨dq1, os1⟩, hw''⟩ := hw'
      subst hw''
      go_wp2_with fail
      go_returns
      exact ⟨_, _, HV.out, rfl, two bw (below_regrown _ _ _)⟩
  · have hhas : Hid (decide (f ≤ f + (r : Int) ∧ f + (r : Int) ≤ l) = false) := decide_eq_false (by have := HN.out; omega)
    have cA := qcall (w := w2) fun W' hb => has_is k f l (f + r) false W' hhas.out
    have pr := HLO.out (n - 1) (by omega)
    rw [← HP.out, decide_eq_false_iff_not, show f + ((n - 1 : Nat) : Int) + 1 = l + 1 from by have := HN.out; omega] at pr
    have HV : Hid (AtV k f l m 0 false) := .inr ⟨rfl, rfl, .inr (by omega)⟩
    clear pr
    obtain ⟨z0, z1, z2, _, _, _⟩ := S.three
    go_wp2_with fail
    refine wp_region_quiet_below (by kernel_rfl) (by kernel_rfl) ?_
    repeat (go_big_quiet_step (with_reducible (first | exact cA _ _)))
    refine wpQuiet_nil ?_
    intro _ hw'
    obtain ⟨⟨dq1, os1⟩, hw''⟩ := hw'
    subst hw''
    go_wp2_with fail
    go_returns
    exact ⟨_, _, HV.out, rfl, two bw (below_regrown _ _ _)⟩
theorem at_none (f l m : Int) (w : World) :
    Calls Tryd.prog 27 #[.agg #[.int .i64 5, .int .i64 f, .int .i64 l], .int .i64 m] w fun e w' => e = .returned (.tuple #[.int .i64 0, .bool false]) ∧ Below w.heap.size w w' := by
  go_enter Tryd.func27, Tryd.ntmps27
  go_wp2_with fail
  go_returns
  exact ⟨rfl, by go_grown⟩
end Go.Proofs.YtkapkfddbdgmoaaDoor.Sc
