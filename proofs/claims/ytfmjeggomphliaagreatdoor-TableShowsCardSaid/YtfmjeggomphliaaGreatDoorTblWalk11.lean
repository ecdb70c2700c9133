/- Walks: rows that are the same; a row counted. -/
import Derived.Test.YtfmjeggomphliaaGreatDoorTblWalk10
set_option linter.unusedVariables false
set_option linter.unusedSimpArgs false
namespace Go.Proofs.YtfmjeggomphliaaGreatDoor.Tb
open Go.RowKit Go Go.Sort Ba Va Sr

theorem take_eq {α : Type} {a b : List α} {k : Nat} {x y : α} (h : a.take k = b.take k) (hx : a[k]? = some x) (hy : b[k]? = some y) : a.take (k + 1) = b.take (k + 1) ↔ x = y := by
  rw [take_one a k x hx, take_one b k y hy, h]
  constructor
  · intro e
    have := List.append_cancel_left e
    injection this
  · intro e; rw [e]
theorem take_ne {α : Type} {a b : List α} {k : Nat} {x y : α} (hx : a[k]? = some x) (hy : b[k]? = some y) (h : x ≠ y) : a ≠ b := fun e => by
  subst e; rw [hx] at hy; cases hy; exact h rfl
set_option maxHeartbeats 1600000 in
theorem rowEq_is (v u : Value) (a b : List Val) (q : Bool) (hq : a = b ↔ q = true) (w : World) (hla : a.length ≤ 4096) (hlb : b.length ≤ 4096) (hv : RowAt w v a) (hu : RowAt w u b) :
    Calls Tryz.prog 41 #[v, u] w fun e w' => e = .returned (.bool q) ∧ Below w.heap.size w w' := by
  obtain ⟨ao, cap, rfl, hcap, _⟩ := hv.len
  obtain ⟨bo, bcap, rfl, hbcap, _⟩ := hu.len
  obtain ⟨n, hn⟩ : ∃ n, a.length = n := ⟨_, rfl⟩
  obtain ⟨m, hm⟩ : ∃ m, b.length = m := ⟨_, rfl⟩
  have HV := Lib.hid hv
  have HU := Lib.hid hu
  have HQ := Lib.hid hq
  rw [hn] at hcap hla HV ⊢
  rw [hm] at hbcap hlb HU ⊢
  have HN := Lib.hid hn
  have HM := Lib.hid hm
  clear hq hv hu hn hm
  by_cases hnm : n = m
  · subst hnm
    go_enter Tryz.func41, Tryz.ntmps41
    go_wp2_with fail
    go_loopw [13] (fun i wr => ∃ k : Nat, k ≤ n ∧ i = .int .i64 k ∧ Hid (Below w.heap.size w wr) ∧ Hid (a.take k = b.take k)) (fun i _ => n - (intOf i).toNat)
    case atStart => exact ⟨0, Nat.zero_le _, rfl, Below.refl _ _, (rfl : a.take 0 = b.take 0)⟩
    case round =>
      obtain ⟨k, hk, rfl, BW, HK⟩ := hrel
      by_cases hlt : k < n
      · obtain ⟨x, hx⟩ : ∃ x, a[k]? = some x := ⟨_, List.getElem?_eq_getElem (by rw [HN.out]; exact hlt)⟩
        obtain ⟨y, hy⟩ : ∃ y, b[k]? = some y := ⟨_, List.getElem?_eq_getElem (by rw [HM.out]; exact hlt)⟩
        obtain ⟨b1, o1, rfl, g1, x0, x1, x2⟩ := RowAt.val HV.out hx
        obtain ⟨b2, o2, rfl, g2, y0, y1, y2⟩ := RowAt.val HU.out hy
        replace x0 := (BW.out.cell (by exact g1)).trans x0
        replace x1 := (BW.out.cell (by exact g1)).trans x1
        replace x2 := (BW.out.cell (by exact g1)).trans x2
        replace y0 := (BW.out.cell (by exact g2)).trans y0
        replace y1 := (BW.out.cell (by exact g2)).trans y1
        replace y2 := (BW.out.cell (by exact g2)).trans y2
        have HX := Lib.hid hx
        have HY := Lib.hid hy
        have hbl : (k : Int) < (n : Int) := by omega
        obtain ⟨z, hz⟩ : ∃ z : Bool, (x.k = y.k ∧ x.n = y.n ∧ x.t = y.t) ↔ z = true := by
          by_cases h : x.k = y.k ∧ x.n = y.n ∧ x.t = y.t
          · exact ⟨true, by simp [h]⟩
          · exact ⟨false, by simp [h]⟩
        have heq := fun W => val_eq x.k x.n x.t y.k y.n y.t z hz W
        have HZ : Hid (x = y ↔ z = true) := by
          show _ ↔ _
          rw [← hz]
          obtain ⟨_, _, _⟩ := x
          obtain ⟨_, _, _⟩ := y
          simp
        obtain ⟨xk, hxk⟩ : ∃ q, x.k = q := ⟨_, rfl⟩
        obtain ⟨xn, hxn⟩ : ∃ q, x.n = q := ⟨_, rfl⟩
        obtain ⟨xt, hxt⟩ : ∃ q, x.t = q := ⟨_, rfl⟩
        obtain ⟨yk, hyk⟩ : ∃ q, y.k = q := ⟨_, rfl⟩
        obtain ⟨yn, hyn⟩ : ∃ q, y.n = q := ⟨_, rfl⟩
        obtain ⟨yt, hyt⟩ : ∃ q, y.t = q := ⟨_, rfl⟩
        rw [hxk, hxn, hxt, hyk, hyn, hyt] at heq
        rw [hxk] at x0
        rw [hxn] at x1
        rw [hxt] at x2
        rw [hyk] at y0
        rw [hyn] at y1
        rw [hyt] at y2
        clear hx hy hz hxk hxn hxt hyk hyn hyt
        cases z with
        | true =>
          have HK2 : Hid (a.take (k + 1) = b.take (k + 1)) := (take_eq HK.out HX.out HY.out).2 (HZ.out.2 rfl)
          go_wp2_with fail
          go_quiet (fail)
          go_wp2_with fail
          go_roundw
          case rel => exact ⟨k + 1, by omega, by go_num, Below.drewN BW.out _, HK2⟩
          case measure => simp [intOf]; omega
        | false =>
          have HR : Hid (q = false) := by
            show q = false
            cases e : q with
            | false => rfl
            | true => exact absurd (HQ.out.2 e) (take_ne HX.out HY.out (fun h => by have := HZ.out.1 h; cases this))
          go_wp2_with fail
          go_quiet (fail)
          go_wp2_with fail
          go_ret
          exact ⟨ret_bool HR.out.symm, Below.drewN BW.out _⟩
      · obtain rfl : k = n := by omega
        have HR : Hid (q = true) := by
          show q = true
          have := HK.out
          rw [← HN.out, List.take_length] at this
          rw [HN.out, ← HM.out, List.take_length] at this
          exact HQ.out.1 this
        go_wp2_with fail
        go_ret
        exact ⟨ret_bool HR.out.symm, BW.out⟩
  · have HR : Hid (q = false) := by
      show q = false
      cases e : q with
      | false => rfl
      | true => have := congrArg List.length (HQ.out.2 e); rw [HN.out, HM.out] at this; exact absurd this hnm
    have hnm' : ((n : Int) != (m : Int)) = true := by simp; omega
    go_enter Tryz.func41, Tryz.ntmps41
    go_wp2_with fail
    go_ret
    exact ⟨ret_bool HR.out.symm, Below.refl _ _⟩
/-- Where a row would stand. -/
def Place (rs : List (List Val)) (r : List Val) (i : Nat) : Prop := i ≤ rs.length ∧ (∀ (t : Nat) (x : List Val), t < i → rs[t]? = some x → cmpR x r < 0) ∧ (∀ (t : Nat) (x : List Val), i ≤ t → rs[t]? = some x → 0 ≤ cmpR x r)
def Searched (rs : List (List Val)) (r : List Val) (w : World) (e : Ending) (w' : World) : Prop := ∃ (i : Nat) (q : Bool), Place rs r i ∧ e = .returned (.tuple #[.int .i64 i, .bool q]) ∧ Below w.heap.size w w'
theorem sorted_at {rs : List (List Val)} (h : Sorted rs) {i j : Nat} {x y : List Val} (hij : i ≤ j) (hx : rs[i]? = some x) (hy : rs[j]? = some y) : cmpR x y ≤ 0 := by
  obtain ⟨h1, e1⟩ := List.getElem?_eq_some_iff.1 hx
  obtain ⟨h2, e2⟩ := List.getElem?_eq_some_iff.1 hy
  by_cases e : i = j
  · subst e
    rw [e1] at e2
    rw [e2, (cmpR_zero y y).2 rfl]; decide
  · have := (List.pairwise_iff_getElem.1 h) i j h1 h2 (by omega)
    rwa [e1, e2] at this
set_option maxHeartbeats 1600000 in
theorem search_is (v u : Value) (rs : List (List Val)) (r : List Val) (w : World) (br : BdRs rs) (hr : r.length ≤ 4096) (hso : Sorted rs) (hv : RowsAt w v rs) (hu : RowAt w u r) :
    Calls Tryz.prog 46 #[v, u, .func (.func 45) #[] #[]] w (Searched rs r w) := by
  obtain ⟨ao, cap, rfl, hcap, _⟩ := hv.len
  obtain ⟨bo, bcap, rfl, _, _⟩ := hu.len
  obtain ⟨n, hn⟩ : ∃ n, rs.length = n := ⟨_, rfl⟩
  have hl := br.len
  have HV := Lib.hid hv
  have HU := Lib.hid hu
  have BR := Lib.hid br
  have HSO := Lib.hid hso
  rw [hn] at hcap hl HV ⊢
  have HN := Lib.hid hn
  have HRL := Lib.hid hr
  clear hv hu br hso hn
  have key : ∀ (wr : World) (k : Nat), Below w.heap.size w wr → k < n → ∃ x b o, rs[k]? = some x ∧ ao = some ⟨b, o, none⟩ ∧ ∃ h, wr.cell? ⟨b, o + k, none⟩ = some h ∧ ∀ W, Below w.heap.size w W → Calls Tryz.prog 45 #[h, .slice bo r.length bcap] W fun e w' => e = .returned (.int .i64 (cmpR x r)) ∧ Below W.heap.size W w' := fun wr k BW hk => by
    obtain ⟨x, hx⟩ : ∃ x, rs[k]? = some x := ⟨_, List.getElem?_eq_getElem (by rw [HN.out]; exact hk)⟩
    obtain ⟨b, o, h, e1, hb, hc, hh⟩ := RowsAt.row HV.out hx
    exact ⟨x, b, o, hx, e1, h, (BW.cell (by exact hb)).trans hc, fun W hW => cmpr_is rfl W (BR.out.row x (List.mem_of_getElem? hx)).len HRL.out (hh.below hW) (HU.out.below hW)⟩
  have HKEY := Lib.hid key
  clear key hr
  go_enter Tryz.func46, Tryz.ntmps46
  go_wp2_with fail
  go_loopw [9, 10] (fun vi vj wr => ∃ (i j : Nat), vi = .int .i64 i ∧ vj = .int .i64 j ∧ i ≤ j ∧ j ≤ n ∧ Hid (Below w.heap.size w wr) ∧ Hid (∀ (t : Nat) (x : List Val), t < i → rs[t]? = some x → cmpR x r < 0) ∧ Hid (∀ (t : Nat) (x : List Val), j ≤ t → rs[t]? = some x → 0 ≤ cmpR x r)) (fun vi vj _ => (intOf vj).toNat - (intOf vi).toNat)
  case atStart => exact ⟨0, n, rfl, rfl, Nat.zero_le _, Nat.le_refl _, Below.refl _ _, (fun t x h => absurd h (Nat.not_lt_zero _) : ∀ (t : Nat) (x : List Val), t < 0 → rs[t]? = some x → cmpR x r < 0), (fun t x h1 h2 => by have := (List.getElem?_eq_some_iff.1 h2).1; have := HN.out; omega : ∀ (t : Nat) (x : List Val), n ≤ t → rs[t]? = some x → 0 ≤ cmpR x r)⟩
  case round =>
    obtain ⟨i, j, rfl, rfl, hij, hjn, BW, H1, H2⟩ := hrel
    by_cases hlt : i < j
    · obtain ⟨h, hh⟩ : ∃ h, h = (i + j) / 2 := ⟨_, rfl⟩
      have eh : ((i : Int) + (j : Int)) / 2 = (h : Int) := by omega
      have g1 : i ≤ h := by omega
      have g2 : h < j := by omega
      have hlt' : (i : Int) < (j : Int) := by omega
      have hn' : (h : Int) < (n : Int) := by omega
      obtain ⟨x, b, o, hx, rfl, hd, hc, hcall⟩ := HKEY.out wr h BW.out (by omega)
      obtain ⟨c, hcc⟩ : ∃ c, cmpR x r = c := ⟨_, rfl⟩
      rw [hcc] at hcall
      have HX := Lib.hid hx
      have HC := Lib.hid hcc
      have HCALL := Lib.hid (hcall wr BW.out)
      clear hx hcc hcall hh
      by_cases c0 : c < 0
      · have d0 : decide (c < 0) = true := decide_eq_true c0
        have H1' : Hid (∀ (t : Nat) (y : List Val), t < h + 1 → rs[t]? = some y → cmpR y r < 0) := fun t y ht hy => by
          have h3 := sorted_at HSO.out (by omega) hy HX.out
          have h4 := HC.out
          apply Classical.byContradiction
          intro hn0
          have h5 := cmpR_swap y r
          have := cmpR_trans r y x (by omega) h3
          have := cmpR_swap x r
          omega
        go_wp2_with (go_at_call 45; refine HCALL.out.mono ?_; rintro e w1 ⟨rfl, hb1⟩)
        go_roundw
        case rel => exact ⟨h + 1, j, by go_num, rfl, by omega, hjn, two BW.out hb1, H1', H2⟩
        case measure => simp [intOf]; omega
      · have d0 : decide (c < 0) = false := decide_eq_false c0
        have H2' : Hid (∀ (t : Nat) (y : List Val), h ≤ t → rs[t]? = some y → 0 ≤ cmpR y r) := fun t y ht hy => by
          have h3 := sorted_at HSO.out ht HX.out hy
          have h4 := HC.out
          have h5 := cmpR_swap x r
          have := cmpR_trans r x y (by omega) h3
          have := cmpR_swap y r
          omega
        go_wp2_with (go_at_call 45; refine HCALL.out.mono ?_; rintro e w1 ⟨rfl, hb1⟩)
        go_roundw
        case rel => exact ⟨i, h, rfl, rfl, by omega, by omega, two BW.out hb1, H1, H2'⟩
        case measure => simp [intOf]; omega
    · obtain rfl : i = j := by omega
      have PL : Hid (Place rs r i) := ⟨by rw [HN.out]; exact hjn, H1.out, H2.out⟩
      by_cases hin : i < n
      · have hin' : (i : Int) < (n : Int) := by omega
        obtain ⟨x, b, o, hx, rfl, hd, hc, hcall⟩ := HKEY.out wr i BW.out hin
        have HCALL := Lib.hid (hcall wr BW.out)
        clear hx hcall
        go_wp2_with (go_at_call 45; refine HCALL.out.mono ?_; rintro e w1 ⟨rfl, hb1⟩)
        refine bodyPost_ret (by simp [results, Tryz.results46, go_sem]; try rfl) rfl ?_
        exact ⟨i, _, PL.out, rfl, two BW.out hb1⟩
      · have hin' : ¬ (i : Int) < (n : Int) := by omega
        go_wp2_with fail
        refine bodyPost_ret (by simp [results, Tryz.results46, go_sem]; try rfl) rfl ?_
        exact ⟨i, _, PL.out, rfl, BW.out⟩
end Go.Proofs.YtfmjeggomphliaaGreatDoor.Tb
