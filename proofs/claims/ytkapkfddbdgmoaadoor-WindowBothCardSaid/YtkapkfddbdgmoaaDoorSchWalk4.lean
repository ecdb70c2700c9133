/- Walks: a text read as a scheme; the fixed answer. -/
import Derived.Test.YtkapkfddbdgmoaaDoorSchWalk3
set_option linter.unusedVariables false
set_option linter.unusedSimpArgs false
namespace Go.Proofs.YtkapkfddbdgmoaaDoor.Sc
open Go.RowKit Go Go.Sort Ba
open Cal hiding ret_int ret_bool lt_of_cell

theorem cut_is (s sep a b : ByteArray) (c : Bool) (w : World) (hs : s.size < 4294967281) (hE : EnvS w) (h : Lib.cut s.data.toList sep.data.toList = (a.data.toList, b.data.toList, c)) :
    Calls Tryd.prog 43 #[.string s, .string sep] w fun e w' => e = .returned (.tuple #[.string a, .string b, .bool c]) ∧ Below w.heap.size w w' := by
  obtain ⟨m, hm⟩ := hE.ml
  have := Tryd.strings_Cut s sep m w hs hm
  rw [h] at this
  simp only [list_eta] at this
  exact this.mono fun e w' ⟨he, n, hw⟩ => ⟨he, by rw [hw]; exact Below.drewN (Below.refl _ _) n⟩
theorem index_is (x : ByteArray) (i : Int) (w : World) (hE : EnvS w) (h : Lib.idxOfS swords x = i) :
    Calls Tryd.prog 44 #[.slice (some ⟨0, 0, none⟩) 6 6, .string x] w fun e w' => e = .returned (.int .i64 i) ∧ w = w' := by
  have := Tryd.slices_Index_string 0 0 6 6 swords x w (by decide) (by decide) (fun j hj => by rw [Nat.zero_add]; exact hE.words j (by simpa [swords] using hj))
  rw [show swords.take 6 = swords from rfl, h] at this
  exact this.mono fun e w' ⟨he, hw⟩ => ⟨he, hw.symm⟩
/-- Show, whatever the scheme. -/
theorem show_any (k f l : Int) (x : ByteArray) (w : World) (k0 : 0 ≤ k) (f0 : -9223372036854775808 ≤ f) (l1 : l ≤ 9223372036854775807) (hE : EnvS w) (hx : (if rightS k f l = true then showB k.toNat f l else ⟨#[]⟩) = x) :
    Calls Tryd.prog 20 #[.agg #[.int .i64 k, .int .i64 f, .int .i64 l]] w fun e w' => e = .returned (.string x) ∧ Below w.heap.size w w' := by
  subst hx
  obtain ⟨j, rfl⟩ : ∃ j : Nat, k = j := ⟨k.toNat, by omega⟩
  cases hr : rightS j f l
  · exact show_no _ f l w f0 l1 hr hE
  · exact show_is j f l w hr hE
/-- What Parse gives. -/
def Parsed (t : ByteArray) (w : World) (e : Ending) (w' : World) : Prop := ∃ k f l er : Int, Reads t.data.toList k f l er ∧ e = .returned (.tuple #[.agg #[.int .i64 k, .int .i64 f, .int .i64 l], .int .i64 er]) ∧ Below w.heap.size w w'
theorem parsed_err {t : ByteArray} {w w' : World} {e : Ending} (h : ∀ k f l, rightS k f l = true → (showB k.toNat f l).data.toList ≠ t.data.toList) (he : e = .returned (.tuple #[.agg #[.int .i64 0, .int .i64 0, .int .i64 0], .int .i64 20])) (hb : Below w.heap.size w w') : Parsed t w e w' :=
  ⟨0, 0, 0, 20, .inr ⟨rfl, rfl, rfl, rfl, h⟩, he, hb⟩
theorem parsed_ok {t : ByteArray} {w w' : World} {e : Ending} {k f l : Int} (hr : rightS k f l = true) (h : showB k.toNat f l = t) (he : e = .returned (.tuple #[.agg #[.int .i64 k, .int .i64 f, .int .i64 l], .int .i64 0])) (hb : Below w.heap.size w w') : Parsed t w e w' :=
  ⟨k, f, l, 0, .inl ⟨rfl, hr, by rw [h]⟩, he, hb⟩
/-- What was read off the parts, if the text is a scheme's. -/
theorem found {t a b c d : ByteArray} {i k f l k' f' l' : Int} (h1 : (Lib.cut t.data.toList [32]).1 = a.data.toList) (h2 : (Lib.cut t.data.toList [32]).2.1 = b.data.toList) (h3 : (Lib.cut b.data.toList [46, 46]).1 = c.data.toList) (h4 : (Lib.cut b.data.toList [46, 46]).2.1 = d.data.toList)
    (hi : Lib.idxOfS swords a = i) (hk : k' = if i < 0 then 0 else i) (hf : ∀ m, Lib.atoiAll c.data.toList = .ok m → f' = m) (hl : ∀ m, Lib.atoiAll d.data.toList = .ok m → l' = m)
    (hr : rightS k f l = true) (ht : (showB k.toNat f l).data.toList = t.data.toList) : k' = k ∧ f' = f ∧ l' = l := by
  obtain ⟨a0, a1, _, a2, a3, a4, a5⟩ := rs_k hr
  have p := parts_of hr
  rw [ht, h2] at p
  obtain ⟨p1, p2⟩ := p
  rw [h1] at p1
  rw [p2] at h3 h4
  have e : a = sword k.toNat := Go.WideShapes.bytes_inj p1
  rw [e, sword_idx _ a0] at hi
  refine ⟨by rw [hk, ← hi, if_neg (by omega)]; exact a1, hf f ?_, hl l ?_⟩
  · rw [← h3]; exact Nu.atoi_itoa f a2 a3
  · rw [← h4]; exact Nu.atoi_itoa l a4 a5
theorem cut_len (s sep : List UInt8) : (Lib.cut s sep).1.length ≤ s.length ∧ (Lib.cut s sep).2.1.length ≤ s.length := by
  unfold Lib.cut
  split
  · exact ⟨by simp; omega, by simp⟩
  · exact ⟨Nat.le_refl _, by simp⟩
set_option maxHeartbeats 3200000 in
theorem parse_any (t : ByteArray) (w : World) (ht : t.size ≤ 20000) (hE : EnvS w) :
    Calls Tryd.prog 21 #[.string t] w (Parsed t w) := by
  have R := Box.new w [.int .i64 0, .int .i64 0, .int .i64 0] 23
  have bw : Below w.heap.size w (w.alloc (.cells #[.int .i64 0, .int .i64 0, .int .i64 0] 23)) := by go_grown
  have HE := Lib.hid hE
  obtain ⟨a, ha⟩ : ∃ a : ByteArray, (Lib.cut t.data.toList [32]).1 = a.data.toList := ⟨⟨(Lib.cut t.data.toList [32]).1.toArray⟩, by simp⟩
  obtain ⟨b, hb0⟩ : ∃ b : ByteArray, (Lib.cut t.data.toList [32]).2.1 = b.data.toList := ⟨⟨(Lib.cut t.data.toList [32]).2.1.toArray⟩, by simp⟩
  obtain ⟨c0, hc0⟩ : ∃ c, (Lib.cut t.data.toList [32]).2.2 = c := ⟨_, rfl⟩
  obtain ⟨c, hc⟩ : ∃ c : ByteArray, (Lib.cut b.data.toList [46, 46]).1 = c.data.toList := ⟨⟨(Lib.cut b.data.toList [46, 46]).1.toArray⟩, by simp⟩
  obtain ⟨d, hd⟩ : ∃ d : ByteArray, (Lib.cut b.data.toList [46, 46]).2.1 = d.data.toList := ⟨⟨(Lib.cut b.data.toList [46, 46]).2.1.toArray⟩, by simp⟩
  obtain ⟨c1, hc1⟩ : ∃ c, (Lib.cut b.data.toList [46, 46]).2.2 = c := ⟨_, rfl⟩
  have C1 : Hid (Lib.cut t.data.toList (⟨#[32]⟩ : ByteArray).data.toList = (a.data.toList, b.data.toList, c0)) := by
    show Lib.cut t.data.toList [32] = _
    rw [← ha, ← hb0, ← hc0]
  have C2 : Hid (Lib.cut b.data.toList (⟨#[46, 46]⟩ : ByteArray).data.toList = (c.data.toList, d.data.toList, c1)) := by
    show Lib.cut b.data.toList [46, 46] = _
    rw [← hc, ← hd, ← hc1]
  have bs : b.size ≤ 20000 := by
    have := cut_len t.data.toList [32]
    rw [size_data, ← hb0]; rw [← size_data] at this; omega
  have cs : c.size ≤ 20000 ∧ d.size ≤ 20000 := by
    have := cut_len b.data.toList [46, 46]
    rw [size_data c, size_data d, ← hc, ← hd]; rw [← size_data] at this; omega
  obtain ⟨cs, ds⟩ := cs
  obtain ⟨i, hi⟩ : ∃ i, Lib.idxOfS swords a = i := ⟨_, rfl⟩
  have hib := idx_bd a
  rw [hi] at hib
  obtain ⟨i0, i1⟩ := hib
  have HI := Lib.hid hi
  have FO := Lib.hid (fun k f l k' f' l' hk hf hl hr ht => found (t := t) (k := k) (f := f) (l := l) (k' := k') (f' := f') (l' := l') ha hb0 hc hd hi hk hf hl hr ht)
  clear ha hb0 hc0 hc hd hc1 hi hE
  obtain ⟨k, hk⟩ : ∃ k : Int, max i 0 = k := ⟨_, rfl⟩
  have k0 : 0 ≤ k := by omega
  have HK : Hid (k = if i < 0 then 0 else i) := by show k = if i < 0 then 0 else i; split <;> omega
  go_enter Tryd.func21, Tryd.ntmps21
  go_wp2_with fail
  refine (cut_is t ⟨#[32]⟩ a b c0 _ (by omega) (HE.out.below bw) C1.out).mono ?_
  rintro e w1 ⟨rfl, hb⟩
  have R := R.next hb
  have bw := two bw hb
  clear hb
  go_wp2_with fail
  refine (cut_is b ⟨#[46, 46]⟩ c d c1 _ (by omega) (HE.out.below bw) C2.out).mono ?_
  rintro e w2 ⟨rfl, hb⟩
  have R := R.next hb
  have bw := two bw hb
  clear hb
  go_wp2_with fail
  refine (index_is a i _ (HE.out.below bw) HI.out).mono ?_
  rintro e w3 ⟨rfl, rfl⟩
  have hz : w.heap.size < w2.heap.size := R.lt
  have hz1 : ¬ w2.heap.size = w.heap.size := by omega
  have hz2 : ¬ w.heap.size = w2.heap.size := by omega
  have V := Box.new w2 [.int .i64 k, .int .i64 0, .int .i64 0] 23
  have R := R.alloc (.cells #[.int .i64 k, .int .i64 0, .int .i64 0] 23)
  have bw := bw.alloc (Nat.le_of_lt hz) (.cells #[.int .i64 k, .int .i64 0, .int .i64 0] 23)
  go_wp2_with fail
  refine (atoi_any c (by omega) _ (HE.out.below bw).errs).mono ?_
  rintro e w4 ⟨f, v1, rfl, f0, f1, hf, hb⟩
  have R := R.next hb
  have V := V.next hb
  have bw := two bw hb
  clear hb
  have HF := Lib.hid hf
  clear hf
  obtain ⟨x0, x1, x2, p0, p1, p2⟩ := V.three
  have R' := R.other hz1 1 (.int .i64 f)
  have V' := V.put 1 (.int .i64 f)
  have bw' := bw.setCell (p := ⟨w2.heap.size, 1, none⟩) (Nat.le_of_lt hz) (.int .i64 f)
  go_wp2_with fail
  generalize (w4.setCell ⟨w2.heap.size, 1, none⟩ (.int .i64 f)) = w5 at R' V' bw' ⊢
  clear x0 x1 x2 p0 p1 p2
  clear R V bw
  have R := R'
  have V := V'
  have bw := bw'
  clear R' V' bw'
  refine (atoi_any d (by omega) _ (HE.out.below bw).errs).mono ?_
  rintro e w6 ⟨l, v2, rfl, l0, l1, hl, hb⟩
  have R := R.next hb
  have V := V.next hb
  have bw := two bw hb
  clear hb
  have HL := Lib.hid hl
  clear hl
  obtain ⟨x0, x1, x2, p0, p1, p2⟩ := V.three
  have R' := R.other hz1 2 (.int .i64 l)
  have V' := V.put 2 (.int .i64 l)
  have bw' := bw.setCell (p := ⟨w2.heap.size, 2, none⟩) (Nat.le_of_lt hz) (.int .i64 l)
  obtain ⟨x, hx⟩ : ∃ x, (if rightS k f l = true then showB (k).toNat f l else ⟨#[]⟩) = x := ⟨_, rfl⟩
  have HX := Lib.hid hx
  clear hx
  by_cases he : t.toList.isEmpty = true
  · have te : t = ⟨#[]⟩ := (empty_iff t).1 he
    have HT : Hid (∀ k f l, rightS k f l = true → (showB k.toNat f l).data.toList ≠ t.data.toList) := fun k f l _ h => by rw [te] at h; exact showB_ne _ _ _ h
    clear te
    obtain ⟨r0, r1, r2, q0, q1, q2⟩ := R'.three
    go_wp2_with fail
    try simp only [Exit.inBlock, Exit.then]
    refine bodyPost_ret (by simp [results, Tryd.results21, go_sem, r0, r1, r2, hz1, hz2]; try rfl) rfl ?_
    exact parsed_err HT.out rfl (by go_grown)
  have he' : t.toList.isEmpty = false := by simpa using he
  have TE : Hid (t ≠ ⟨#[]⟩) := fun h => he ((empty_iff t).2 h)
  clear he
  by_cases hxt : x = t
  · subst hxt
    go_wp2_with fail
    generalize (w6.setCell ⟨w2.heap.size, 2, none⟩ (.int .i64 l)) = w7 at R' V' bw' ⊢
    clear x0 x1 x2 p0 p1 p2
    clear R V bw
    refine (show_any k f l x _ (by omega) f0 l1 (HE.out.below bw') HX.out).mono ?_
    rintro e w8 ⟨rfl, hb⟩
    have R := R'.next hb
    have V := V'.next hb
    have bw := two bw' hb
    clear hb R' V' bw'
    obtain ⟨r0, r1, r2, q0, q1, q2⟩ := R.three
    obtain ⟨x0, x1, x2, p0, p1, p2⟩ := V.three
    have HR : Hid (rightS k f l = true ∧ showB (k).toNat f l = x) := by
      show rightS k f l = true ∧ showB (k).toNat f l = x
      have h := HX.out
      by_cases hr : rightS k f l = true
      · rw [if_pos hr] at h; exact ⟨hr, h⟩
      · rw [if_neg hr] at h; exact absurd h.symm TE.out
    go_wp2_with fail
    try simp only [Exit.inBlock, Exit.then]
    refine bodyPost_ret (by simp [results, Tryd.results21, go_sem, r0, r1, r2, hz1, hz2]; try rfl) rfl ?_
    exact parsed_ok HR.out.1 HR.out.2 rfl (by go_grown)
  · have hne : (x.toList == t.toList) = false := by
      rw [list_of, list_of, Bool.eq_false_iff]
      intro h
      exact hxt (Go.WideShapes.bytes_inj (by simpa using h))
    have HT : Hid (∀ k f l, rightS k f l = true → (showB k.toNat f l).data.toList ≠ t.data.toList) := fun k' f' l' hr h => by
      obtain ⟨e1, e2, e3⟩ := FO.out k' f' l' k f l (HK.out) HF.out HL.out hr h
      have hx := HX.out
      rw [e1, e2, e3, if_pos hr] at hx
      exact hxt (by rw [← hx]; exact Go.WideShapes.bytes_inj h)
    have HT := Lib.hid HT.out
    clear hxt
    go_wp2_with fail
    generalize (w6.setCell ⟨w2.heap.size, 2, none⟩ (.int .i64 l)) = w7 at R' V' bw' ⊢
    clear x0 x1 x2 p0 p1 p2
    clear R V bw
    refine (show_any k f l x _ (by omega) f0 l1 (HE.out.below bw') HX.out).mono ?_
    rintro e w8 ⟨rfl, hb⟩
    have R := R'.next hb
    have V := V'.next hb
    have bw := two bw' hb
    clear hb R' V' bw'
    obtain ⟨r0, r1, r2, q0, q1, q2⟩ := R.three
    obtain ⟨x0, x1, x2, p0, p1, p2⟩ := V.three
    go_wp2_with fail
    try simp only [Exit.inBlock, Exit.then]
    refine bodyPost_ret (by simp [results, Tryd.results21, go_sem, r0, r1, r2, hz1, hz2]; try rfl) rfl ?_
    exact parsed_err HT.out rfl (by go_grown)
end Go.Proofs.YtkapkfddbdgmoaaDoor.Sc
