/- Walks: the order of rows. -/
import Derived.Test.YtfmjeggomphliaaGreatDoorFitWalk
set_option linter.unusedVariables false
set_option linter.unusedSimpArgs false
namespace Go.Proofs.YtfmjeggomphliaaGreatDoor.Tb
open Go.RowKit Go Go.Sort Ba Va

theorem cmpR_at (a b : List Val) (k : Nat) (x y : Val) (hx : a[k]? = some x) (hy : b[k]? = some y) : cmpR (a.drop k) (b.drop k) = if cmp2 x y = 0 then cmpR (a.drop (k + 1)) (b.drop (k + 1)) else cmp2 x y := by
  obtain ⟨h1, e1⟩ := List.getElem?_eq_some_iff.1 hx
  obtain ⟨h2, e2⟩ := List.getElem?_eq_some_iff.1 hy
  rw [List.drop_eq_getElem_cons h1, List.drop_eq_getElem_cons h2, e1, e2]
  rfl
theorem cmpR_none (a b : List Val) (k : Nat) (ha : a.length ≤ k) (hk : k ≤ b.length) : cmpR (a.drop k) (b.drop k) = if k < b.length then -1 else 0 := by
  rw [List.drop_of_length_le ha]
  by_cases h : k < b.length
  · rw [if_pos h, List.drop_eq_getElem_cons h]; rfl
  · rw [if_neg h, List.drop_of_length_le (by omega)]; rfl
theorem cmpR_more (a b : List Val) (k : Nat) (ha : k < a.length) (hk : b.length ≤ k) : cmpR (a.drop k) (b.drop k) = 1 := by
  rw [List.drop_of_length_le hk, List.drop_eq_getElem_cons ha]; rfl
/-- Both rows from a place on. -/
def FromR (a b : List Val) (k : Nat) (E : Int) : Prop := cmpR (a.drop k) (b.drop k) = E
set_option maxHeartbeats 3200000 in
theorem cmpf_any (v u : Value) (a b : List Val) (w : World) (hla : a.length ≤ 4096) (hlb : b.length ≤ 4096) (hv : RowAt w v a) (hu : RowAt w u b) :
    Calls Tryz.prog 75 #[v, u, .func (.func 76) #[] #[]] w fun e w' => e = .returned (.int .i64 (cmpR a b)) ∧ Below w.heap.size w w' := by
  obtain ⟨E, hE⟩ : ∃ E, cmpR a b = E := ⟨_, rfl⟩
  rw [hE]
  have HE : Hid (FromR a b 0 E) := hE
  obtain ⟨ao, cap, rfl, hcap, _⟩ := hv.len
  obtain ⟨bo, bcap, rfl, hbcap, _⟩ := hu.len
  obtain ⟨n, hn⟩ : ∃ n, a.length = n := ⟨_, rfl⟩
  obtain ⟨m, hm⟩ : ∃ m, b.length = m := ⟨_, rfl⟩
  have HV := Lib.hid hv
  have HU := Lib.hid hu
  rw [hn] at hcap hla HV ⊢
  rw [hm] at hbcap hlb HU ⊢
  have HN := Lib.hid hn
  have HM := Lib.hid hm
  clear hE hv hu hn hm
  go_enter Tryz.func75, Tryz.ntmps75
  go_wp2_with fail
  go_loopw [13] (fun i wr => ∃ k : Nat, k ≤ n ∧ k ≤ m ∧ i = .int .i64 k ∧ Hid (Below w.heap.size w wr) ∧ Hid (FromR a b k E)) (fun i _ => n - (intOf i).toNat)
  case atStart => exact ⟨0, Nat.zero_le _, Nat.zero_le _, rfl, Below.refl _ _, HE⟩
  case round =>
    obtain ⟨k, hk, hkm, rfl, BW, HK⟩ := hrel
    clear HE
    by_cases hlt : k < n
    · obtain ⟨x, hx⟩ : ∃ x, a[k]? = some x := ⟨_, List.getElem?_eq_getElem (by rw [HN.out]; exact hlt)⟩
      obtain ⟨b1, o1, rfl, g1, x0, x1, x2⟩ := RowAt.val HV.out hx
      replace x0 := (BW.out.cell (by exact g1)).trans x0
      replace x1 := (BW.out.cell (by exact g1)).trans x1
      replace x2 := (BW.out.cell (by exact g1)).trans x2
      by_cases hlt2 : k < m
      · obtain ⟨y, hy⟩ : ∃ y, b[k]? = some y := ⟨_, List.getElem?_eq_getElem (by rw [HM.out]; exact hlt2)⟩
        obtain ⟨b2, o2, rfl, g2, y0, y1, y2⟩ := RowAt.val HU.out hy
        replace y0 := (BW.out.cell (by exact g2)).trans y0
        replace y1 := (BW.out.cell (by exact g2)).trans y1
        replace y2 := (BW.out.cell (by exact g2)).trans y2
        have hst : E = if cmp2 x y = 0 then cmpR (a.drop (k + 1)) (b.drop (k + 1)) else cmp2 x y := by rw [← HK.out]; exact cmpR_at a b k x y hx hy
        obtain ⟨C, hC⟩ : ∃ C, cmp2 x y = C := ⟨_, rfl⟩
        rw [hC] at hst
        have HST := Lib.hid hst
        have HCC := Lib.hid (cmp_is (ka := x.k) (na := x.n) (sa := x.t) (kb := y.k) (nb := y.n) (sb := y.t) hC)
        obtain ⟨xk, hxk⟩ : ∃ q, x.k = q := ⟨_, rfl⟩
        obtain ⟨xn, hxn⟩ : ∃ q, x.n = q := ⟨_, rfl⟩
        obtain ⟨xt, hxt⟩ : ∃ q, x.t = q := ⟨_, rfl⟩
        obtain ⟨yk, hyk⟩ : ∃ q, y.k = q := ⟨_, rfl⟩
        obtain ⟨yn, hyn⟩ : ∃ q, y.n = q := ⟨_, rfl⟩
        obtain ⟨yt, hyt⟩ : ∃ q, y.t = q := ⟨_, rfl⟩
        rw [hxk, hxn, hxt, hyk, hyn, hyt] at HCC
        rw [hxk] at x0
        rw [hxn] at x1
        rw [hxt] at x2
        rw [hyk] at y0
        rw [hyn] at y1
        rw [hyt] at y2
        have g2' : b2 < wr.heap.size := Nat.lt_of_lt_of_le g2 BW.out.size
        have y0' := (World.cell?_alloc_past (.cells #[.int .i64 xk, .int .i64 xn, .string xt] 47) _ _ g2').trans y0
        have y1' := (World.cell?_alloc_past (.cells #[.int .i64 xk, .int .i64 xn, .string xt] 47) _ _ g2').trans y1
        have y2' := (World.cell?_alloc_past (.cells #[.int .i64 xk, .int .i64 xn, .string xt] 47) _ _ g2').trans y2
        have BW2 : Hid (Below w.heap.size w ((wr.alloc (.cells #[.int .i64 xk, .int .i64 xn, .string xt] 47)).alloc (.cells #[.int .i64 yk, .int .i64 yn, .string yt] 47))) := (BW.out.alloc BW.out.size _).alloc (by have := BW.out.size; simp; omega) _
        clear hst hC hx hy hxk hxn hxt hyk hyn hyt
        by_cases c0 : C = 0
        · subst c0
          have HS2 : Hid (FromR a b (k + 1) E) := by show _ = E; have := HST.out; rw [if_pos rfl] at this; exact this.symm
          go_wp2_with (go_at_call 76; refine (HCC.out _).mono ?_; rintro e w1 ⟨rfl, hb1⟩)
          go_roundw
          case rel => exact ⟨k + 1, by omega, by omega, by go_num, two BW2.out hb1, HS2⟩
          case measure => simp [intOf]; omega
        · have HS2 : Hid (E = C) := by show E = C; have := HST.out; rw [if_neg c0] at this; exact this
          have d0 : (C != 0) = true := by simpa using c0
          clear c0
          go_wp2_with (go_at_call 76; refine (HCC.out _).mono ?_; rintro e w1 ⟨rfl, hb1⟩)
          go_ret
          exact ⟨ret_int HS2.out.symm, two BW2.out hb1⟩
      · have HS2 : Hid (E = 1) := by show E = 1; rw [← HK.out]; exact cmpR_more a b k (by rw [HN.out]; exact hlt) (by rw [HM.out]; omega)
        obtain ⟨xk, hxk⟩ : ∃ q, x.k = q := ⟨_, rfl⟩
        obtain ⟨xn, hxn⟩ : ∃ q, x.n = q := ⟨_, rfl⟩
        obtain ⟨xt, hxt⟩ : ∃ q, x.t = q := ⟨_, rfl⟩
        rw [hxk] at x0
        rw [hxn] at x1
        rw [hxt] at x2
        clear hx hxk hxn hxt
        go_wp2_with fail
        go_ret
        exact ⟨ret_int HS2.out.symm, BW.out.alloc BW.out.size _⟩
    · have hst : E = if k < m then -1 else 0 := by rw [← HM.out, ← HK.out]; exact cmpR_none a b k (by rw [HN.out]; omega) (by rw [HM.out]; exact hkm)
      have HST := Lib.hid hst
      clear hst
      have ek : k = n := by omega
      subst ek
      by_cases c1 : k < m
      · have HS2 : Hid (E = -1) := by show E = -1; rw [HST.out, if_pos c1]
        go_wp2_with fail
        go_ret
        exact ⟨ret_int HS2.out.symm, BW.out⟩
      · have HS2 : Hid (E = 0) := by show E = 0; rw [HST.out, if_neg c1]
        go_wp2_with fail
        go_ret
        exact ⟨ret_int HS2.out.symm, BW.out⟩
theorem cmpr_is {v u : Value} {a b : List Val} {c : Int} (hc : cmpR a b = c) (w : World) (hla : a.length ≤ 4096) (hlb : b.length ≤ 4096) (hv : RowAt w v a) (hu : RowAt w u b) :
    Calls Tryz.prog 45 #[v, u] w fun e w' => e = .returned (.int .i64 c) ∧ Below w.heap.size w w' := by
  have HC := Lib.hid (cmpf_any v u a b w hla hlb hv hu)
  rw [hc] at HC
  clear hc hv hu
  go_enter Tryz.func45, Tryz.ntmps45
  go_wp2_with (go_at_call 75; refine HC.out.mono ?_; rintro e w1 ⟨rfl, hb1⟩)
  go_ret
  exact ⟨rfl, hb1⟩
end Go.Proofs.YtfmjeggomphliaaGreatDoor.Tb
