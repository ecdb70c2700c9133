/- Walks: the text of a mapping; a text read as a mapping. -/
import Derived.Test.YtkapkfddbdgmoaaDoorWinMath
set_option linter.unusedVariables false
set_option linter.unusedSimpArgs false
namespace Go.Proofs.YtkapkfddbdgmoaaDoor.Wi
open Go.RowKit Go Go.Sort Ba Sc
open Cal hiding ret_int ret_bool lt_of_cell

/-- strconv.Atoi, whatever the text: some int, the right one if there is one; and something beside it. -/
def AnyNum0 (s : ByteArray) (w : World) (e : Ending) (w' : World) : Prop := ∃ (n : Int) (v : Value), e = .returned (.tuple #[.int .i64 n, v]) ∧ -9223372036854775808 ≤ n ∧ n ≤ 9223372036854775807 ∧ (∀ m, Lib.atoiAll s.data.toList = .ok m → n = m) ∧ (s.data.toList = [] → n = 0) ∧ Below w.heap.size w w'
theorem atoi_any0 (s : ByteArray) (hlim : s.size ≤ 281474976710656) (w : World) (hE : Errs w) : Calls Tryd.prog 45 #[.string s] w (AnyNum0 s w) := by
  obtain ⟨⟨tp, p, h1⟩, ⟨tq, q, h2⟩⟩ := hE
  by_cases hr : Lib.atoiAll s.data.toList = .range
  · have c : Calls Tryd.prog 45 #[.string s] w fun e w' => ∃ N, e = .returned (.tuple #[.int .i64 (Lib.atoiSat s.data.toList), .iface 89 (.pointer (some ⟨N, 0, none⟩))]) ∧ w.heap.size ≤ N ∧ w'.heap[N]? = some (.cells #[.string ⟨#[65, 116, 111, 105]⟩, .string s, .iface tq q] 103 (0, 0)) ∧ Below w.heap.size w w' := Any.strconv_Atoi_range_var Tryd.laysC172 s hlim hr tq q w h2
    obtain ⟨a, b⟩ := Lib.atoiSat_bounds s.data.toList
    exact c.mono fun e w' ⟨N, he, _, _, hb⟩ => ⟨_, _, he, a, b, fun m hm => (by rw [hr] at hm; cases hm), fun he => (by rw [he] at hr; cases hr), hb⟩
  · by_cases hk : ∃ v, Lib.atoiAll s.data.toList = .ok v
    · obtain ⟨v, hv⟩ := hk
      obtain ⟨a, b⟩ := Lib.atoiAll_bounds hv
      exact (atoi_yes s (by omega) v hv w).mono fun e w' ⟨he, hb⟩ => ⟨_, _, he, a, b, fun m hm => (by rw [hv] at hm; injection hm), fun he => (by rw [he] at hv; cases hv), hb⟩
    · have hs := Any.strconv_Atoi_syntax_var Tryd.laysC172 s hlim (by revert hk hr; cases Lib.atoiAll s.data.toList <;> simp) tp p w h1
      have c : Calls Tryd.prog 45 #[.string s] w fun e w' => ∃ N, e = .returned (.tuple #[.int .i64 0, .iface 89 (.pointer (some ⟨N, 0, none⟩))]) ∧ w.heap.size ≤ N ∧ w'.heap[N]? = some (.cells #[.string ⟨#[65, 116, 111, 105]⟩, .string s, .iface tp p] 103 (0, 0)) ∧ Below w.heap.size w w' := hs
      exact c.mono fun e w' ⟨N, he, _, _, hb⟩ => ⟨_, _, he, by decide, by decide, fun m hm => absurd ⟨m, hm⟩ hk, fun _ => rfl, hb⟩
theorem mshow_no (k n : Int) (w : World) (hr : formB k n = false) :
    Calls Tryd.prog 36 #[.agg #[.int .i64 k, .int .i64 n]] w fun e w' => e = .returned (.string ⟨#[]⟩) ∧ Below w.heap.size w w' := by
  have bw : Below w.heap.size w (w.alloc (.cells #[.int .i64 k, .int .i64 n] 49)) := by go_grown
  have HR := Lib.hid hr
  clear hr
  go_enter Tryd.func36, Tryd.ntmps36
  go_wp2_with fail
  refine (form_is k n false _ HR.out).mono ?_
  rintro e w1 ⟨rfl, hb⟩
  have bw := two bw hb
  clear hb
  go_wp2_with fail
  go_ret
  exact ⟨rfl, bw⟩
set_option maxHeartbeats 1600000 in
theorem mshow_is (k : Nat) (n : Int) (x : ByteArray) (w : World) (hr : formB k n = true) (hx : mapB k n = x) (hE : EnvW w) :
    Calls Tryd.prog 36 #[.agg #[.int .i64 k, .int .i64 n]] w fun e w' => e = .returned (.string x) ∧ Below w.heap.size w w' := by
  have bw : Below w.heap.size w (w.alloc (.cells #[.int .i64 k, .int .i64 n] 49)) := by go_grown
  have V := Box.new w [.int .i64 k, .int .i64 n] 49
  have HE := Lib.hid (hE.below bw)
  obtain ⟨k6, _, k1, n0, n1⟩ := form_rng hr
  simp only [Int.toNat_natCast] at k6 k1
  have ws := wword_size k k6
  obtain ⟨D, hD⟩ : ∃ D, wword k = D := ⟨_, rfl⟩
  rw [hD] at ws
  have HR := Lib.hid hr
  have HD := Lib.hid hD
  have kk : (k : Int) < 6 := by omega
  by_cases hn : n = 0
  · subst hn
    rw [mapB_zero, hD] at hx
    subst hx
    clear hr hD hE
    go_enter Tryd.func36, Tryd.ntmps36
    go_wp2_with fail
    refine (form_is k 0 true _ HR.out).mono ?_
    rintro e w1 ⟨rfl, hb⟩
    have V := V.next hb
    have HE1 := Lib.hid (HE.out.below hb)
    have bw := two bw hb
    clear hb
    obtain ⟨x0, x1, p0, p1⟩ := V.two
    have y := HE1.out.words k k6
    rw [HD.out] at y
    go_wp2_with fail
    go_ret
    exact ⟨rfl, bw⟩
  have en : (n == 0) = false := by simpa using hn
  have fs := Lib.itoa_length_le n (by omega) (by omega)
  obtain ⟨A, hA⟩ : ∃ A : ByteArray, (⟨(Lib.itoa n).toArray⟩ : ByteArray) = A := ⟨_, rfl⟩
  have As : A.size ≤ 21 := by rw [← hA, str_size]; exact fs
  have HX : Hid (D ++ ⟨#[32]⟩ ++ A = x) := by
    show D ++ ⟨#[32]⟩ ++ A = x
    rw [← hx, ← hA, ← hD]; unfold mapB; rw [if_neg hn]
  have s1 : (D ++ ⟨#[32]⟩).size ≤ 8 := by rw [str_app, show (⟨#[32]⟩ : ByteArray).size = 1 from rfl]; omega
  have cF := fun W h => itoa_is n (by omega) (by omega) W h
  rw [hA] at cF
  have CF := Lib.hid cF
  clear hr hD hE hn hx hA cF fs
  go_enter Tryd.func36, Tryd.ntmps36
  go_wp2_with fail
  refine (form_is k n true _ HR.out).mono ?_
  rintro e w1 ⟨rfl, hb⟩
  have V := V.next hb
  have HE1 := Lib.hid (HE.out.below hb)
  have bw := two bw hb
  clear hb
  obtain ⟨x0, x1, p0, p1⟩ := V.two
  have y := HE1.out.words k k6
  rw [HD.out] at y
  go_wp2_with fail
  have x0 := cell_regrown x0
  have x1 := cell_regrown x1
  have y := cell_regrown y
  have cA := qcall (w := w1) fun W' hb => CF.out W' (HE1.out.below hb).tab
  refine wp_region_quiet_below (by kernel_rfl) (by kernel_rfl) ?_
  repeat (go_big_quiet_step (with_reducible (first | exact cA _ _)))
  refine wpQuiet_nil ?_
  intro _ hw'
  obtain ⟨⟨dq1, os1⟩, hw''⟩ := hw'
  subst hw''
  go_wp2_with fail
  go_ret
  exact ⟨ret_str HX.out, two bw (below_regrown _ _ _)⟩
/-- Show, whatever the mapping. -/
theorem mshow_any (k n : Int) (x : ByteArray) (w : World) (k0 : 0 ≤ k) (hE : EnvW w) (hx : (if formB k n = true then mapB k.toNat n else ⟨#[]⟩) = x) :
    Calls Tryd.prog 36 #[.agg #[.int .i64 k, .int .i64 n]] w fun e w' => e = .returned (.string x) ∧ Below w.heap.size w w' := by
  obtain ⟨j, rfl⟩ : ∃ j : Nat, k = j := ⟨k.toNat, by omega⟩
  cases hr : formB j n
  · rw [hr, if_neg (by decide)] at hx
    subst hx
    exact mshow_no _ n w hr
  · rw [hr, if_pos rfl] at hx
    exact mshow_is j n x w hr hx hE

/-- What the walk that reads a mapping leans on. -/
structure EnvP (w : World) : Prop where
  env : EnvW w
  errs : Errs w
  ml : ∃ m : Int, w.cell? ⟨2, 0, none⟩ = some (.int .i64 m)
theorem EnvP.below {w w' : World} (h : EnvP w) (hb : Below w.heap.size w w') : EnvP w' := by
  obtain ⟨h1, h2, ⟨m, h4⟩⟩ := h
  exact ⟨h1.below hb, h2.below hb, ⟨m, (hb.cell (lt_of_cell h4)).trans h4⟩⟩
theorem mcut_is (s sep a b : ByteArray) (c : Bool) (w : World) (hs : s.size < 4294967281) (hE : EnvP w) (h : Lib.cut s.data.toList sep.data.toList = (a.data.toList, b.data.toList, c)) :
    Calls Tryd.prog 43 #[.string s, .string sep] w fun e w' => e = .returned (.tuple #[.string a, .string b, .bool c]) ∧ Below w.heap.size w w' := by
  obtain ⟨m, hm⟩ := hE.ml
  have := Tryd.strings_Cut s sep m w hs hm
  rw [h] at this
  simp only [list_eta] at this
  exact this.mono fun e w' ⟨he, n, hw⟩ => ⟨he, by rw [hw]; exact Below.drewN (Below.refl _ _) n⟩
theorem mindex_is (x : ByteArray) (i : Int) (w : World) (hE : EnvP w) (h : Lib.idxOfS wwords x = i) :
    Calls Tryd.prog 44 #[.slice (some ⟨1, 0, none⟩) 6 6, .string x] w fun e w' => e = .returned (.int .i64 i) ∧ w = w' := by
  have := Tryd.slices_Index_string 1 0 6 6 wwords x w (by decide) (by decide) (fun j hj => by rw [Nat.zero_add]; exact hE.env.words j (by simpa [wwords] using hj))
  rw [show wwords.take 6 = wwords from rfl, h] at this
  exact this.mono fun e w' ⟨he, hw⟩ => ⟨he, hw.symm⟩
/-- What Parse gives. -/
def MParsed (t : ByteArray) (w : World) (e : Ending) (w' : World) : Prop := ∃ k n er : Int, MReads t.data.toList k n er ∧ e = .returned (.tuple #[.agg #[.int .i64 k, .int .i64 n], .int .i64 er]) ∧ Below w.heap.size w w'
theorem mparsed_err {t : ByteArray} {w w' : World} {e : Ending} (h : ∀ k n, formB k n = true → (mapB k.toNat n).data.toList ≠ t.data.toList) (he : e = .returned (.tuple #[.agg #[.int .i64 0, .int .i64 0], .int .i64 20])) (hb : Below w.heap.size w w') : MParsed t w e w' :=
  ⟨0, 0, 20, .inr ⟨rfl, rfl, rfl, h⟩, he, hb⟩
theorem mparsed_ok {t : ByteArray} {w w' : World} {e : Ending} {k n : Int} (hr : formB k n = true) (h : mapB k.toNat n = t) (he : e = .returned (.tuple #[.agg #[.int .i64 k, .int .i64 n], .int .i64 0])) (hb : Below w.heap.size w w') : MParsed t w e w' :=
  ⟨k, n, 0, .inl ⟨rfl, hr, by rw [h]⟩, he, hb⟩
set_option maxHeartbeats 3200000 in
theorem mparse_any (t : ByteArray) (w : World) (ht : t.size ≤ 20000) (hE : EnvP w) :
    Calls Tryd.prog 38 #[.string t] w (MParsed t w) := by
  have R := Box.new w [.int .i64 0, .int .i64 0] 49
  have bw : Below w.heap.size w (w.alloc (.cells #[.int .i64 0, .int .i64 0] 49)) := by go_grown
  have HE := Lib.hid hE
  obtain ⟨a, ha⟩ : ∃ a : ByteArray, (Lib.cut t.data.toList [32]).1 = a.data.toList := ⟨⟨(Lib.cut t.data.toList [32]).1.toArray⟩, by simp⟩
  obtain ⟨b, hb0⟩ : ∃ b : ByteArray, (Lib.cut t.data.toList [32]).2.1 = b.data.toList := ⟨⟨(Lib.cut t.data.toList [32]).2.1.toArray⟩, by simp⟩
  obtain ⟨c0, hc0⟩ : ∃ c, (Lib.cut t.data.toList [32]).2.2 = c := ⟨_, rfl⟩
  have C1 : Hid (Lib.cut t.data.toList (⟨#[32]⟩ : ByteArray).data.toList = (a.data.toList, b.data.toList, c0)) := by
    show Lib.cut t.data.toList [32] = _
    rw [← ha, ← hb0, ← hc0]
  have bs : b.size ≤ 20000 := by
    have := cut_len t.data.toList [32]
    rw [size_data, ← hb0]; rw [← size_data] at this; omega
  obtain ⟨i, hi⟩ : ∃ i, Lib.idxOfS wwords a = i := ⟨_, rfl⟩
  have hib := widx_bd a
  rw [hi] at hib
  obtain ⟨i0, i1⟩ := hib
  have HI := Lib.hid hi
  have FO := Lib.hid (fun k n k' n' hk hn hn0 hr ht => mfound (t := t) (k := k) (n := n) (k' := k') (n' := n') ha hb0 hi hk hn hn0 hr ht)
  clear ha hb0 hc0 hi hE
  obtain ⟨k, hk⟩ : ∃ k : Int, max i 0 = k := ⟨_, rfl⟩
  have k0 : 0 ≤ k := by omega
  have HK : Hid (k = if i < 0 then 0 else i) := by show k = if i < 0 then 0 else i; split <;> omega
  go_enter Tryd.func38, Tryd.ntmps38
  go_wp2_with fail
  refine (mcut_is t ⟨#[32]⟩ a b c0 _ (by omega) (HE.out.below bw) C1.out).mono ?_
  rintro e w1 ⟨rfl, hb⟩
  have R := R.next hb
  have bw := two bw hb
  clear hb
  go_wp2_with fail
  refine (atoi_any0 b (by omega) _ (HE.out.below bw).errs).mono ?_
  rintro e w2 ⟨n, v1, rfl, n0, n1, hn, hn0, hb⟩
  have R := R.next hb
  have bw := two bw hb
  have HN := Lib.hid hn
  have HN0 := Lib.hid hn0
  clear hb hn hn0
  go_wp2_with fail
  refine (mindex_is a i _ (HE.out.below bw) HI.out).mono ?_
  rintro e w3 ⟨rfl, rfl⟩
  have hz : w.heap.size < w2.heap.size := R.lt
  have hz1 : ¬ w2.heap.size = w.heap.size := by omega
  have hz2 : ¬ w.heap.size = w2.heap.size := by omega
  have V := Box.new w2 [.int .i64 k, .int .i64 n] 49
  have R0 := R
  have R := R.alloc (.cells #[.int .i64 k, .int .i64 n] 49)
  have bw := bw.alloc (Nat.le_of_lt hz) (.cells #[.int .i64 k, .int .i64 n] 49)
  obtain ⟨x, hx⟩ : ∃ x, (if formB k n = true then mapB k.toNat n else ⟨#[]⟩) = x := ⟨_, rfl⟩
  have HX := Lib.hid hx
  clear hx
  by_cases he : t.toList.isEmpty = true
  · have te : t = ⟨#[]⟩ := (empty_iff t).1 he
    have HT : Hid (∀ k n, formB k n = true → (mapB k.toNat n).data.toList ≠ t.data.toList) := fun k n h h2 => by rw [te] at h2; exact mapB_ne h h2
    clear te
    obtain ⟨r0, r1, q0, q1⟩ := R0.two
    go_wp2_with fail
    try simp only [Exit.inBlock, Exit.then]
    refine bodyPost_ret (by simp [results, Tryd.results38, go_sem, r0, r1, hz, hz1, hz2]; try rfl) rfl ?_
    exact mparsed_err HT.out rfl (by go_grown)
  have he' : t.toList.isEmpty = false := by simpa using he
  have TE : Hid (t ≠ ⟨#[]⟩) := fun h => he ((empty_iff t).2 h)
  clear he
  obtain ⟨x0, x1, p0, p1⟩ := V.two
  by_cases hxt : x = t
  · subst hxt
    go_wp2_with fail
    refine (mshow_any k n x _ k0 (HE.out.below bw).env HX.out).mono ?_
    rintro e w8 ⟨rfl, hb⟩
    clear x0 x1 p0 p1
    have R := R.next hb
    have V := V.next hb
    have bw := two bw hb
    clear hb
    obtain ⟨r0, r1, q0, q1⟩ := R.two
    obtain ⟨x0, x1, p0, p1⟩ := V.two
    have HR : Hid (formB k n = true ∧ mapB k.toNat n = x) := by
      show formB k n = true ∧ mapB k.toNat n = x
      have h := HX.out
      by_cases hr : formB k n = true
      · rw [if_pos hr] at h; exact ⟨hr, h⟩
      · rw [if_neg hr] at h; exact absurd h.symm TE.out
    go_wp2_with fail
    try simp only [Exit.inBlock, Exit.then]
    refine bodyPost_ret (by simp [results, Tryd.results38, go_sem, r0, r1, hz, hz1, hz2]; try rfl) rfl ?_
    exact mparsed_ok HR.out.1 HR.out.2 rfl (by go_grown)
  · have hne : (x.toList == t.toList) = false := by
      rw [list_of, list_of, Bool.eq_false_iff]
      intro h
      exact hxt (Go.WideShapes.bytes_inj (by simpa using h))
    have HT : Hid (∀ k n, formB k n = true → (mapB k.toNat n).data.toList ≠ t.data.toList) := fun k' n' hr h => by
      obtain ⟨e1, e2⟩ := FO.out k' n' k n HK.out HN.out HN0.out hr h
      have hx := HX.out
      rw [e1, e2, if_pos hr] at hx
      exact hxt (by rw [← hx]; exact Go.WideShapes.bytes_inj h)
    clear hxt
    go_wp2_with fail
    refine (mshow_any k n x _ k0 (HE.out.below bw).env HX.out).mono ?_
    rintro e w8 ⟨rfl, hb⟩
    clear x0 x1 p0 p1
    have R := R.next hb
    have V := V.next hb
    have bw := two bw hb
    clear hb
    obtain ⟨r0, r1, q0, q1⟩ := R.two
    obtain ⟨x0, x1, p0, p1⟩ := V.two
    go_wp2_with fail
    try simp only [Exit.inBlock, Exit.then]
    refine bodyPost_ret (by simp [results, Tryd.results38, go_sem, r0, r1, hz, hz1, hz2]; try rfl) rfl ?_
    exact mparsed_err HT.out rfl (by go_grown)
end Go.Proofs.YtkapkfddbdgmoaaDoor.Wi
