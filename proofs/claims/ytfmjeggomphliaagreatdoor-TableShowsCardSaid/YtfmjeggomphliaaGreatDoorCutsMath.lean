/- Plain facts: what is written as a table's text is read back. No program in sight. -/
import Derived.Test.YtfmjeggomphliaaGreatDoorTblWalk10
import Derived.Test.YtfmjeggomphliaaGreatDoorTextMath
import Derived.Test.YtfmjeggomphliaaGreatDoorLinesMath
set_option linter.unusedVariables false
set_option linter.unusedSimpArgs false
namespace Go.Proofs.YtfmjeggomphliaaGreatDoor.Tb
open Go.RowKit Go Ba Va

/-! ### Rows -/
def valOf (l : List UInt8) : Option Val := match candV l with
  | none => none
  | some (k, n, t) => if showL k n ⟨t.toArray⟩ = l then some ⟨k, n, ⟨t.toArray⟩⟩ else none
theorem val_some {l : List UInt8} {v : Val} (h : valOf l = some v) : ParsesTo l v.k v.n v.t.data.toList 0 := by
  unfold valOf at h
  cases hc : candV l with
  | none => rw [hc] at h; cases h
  | some z =>
    obtain ⟨k, n, t⟩ := z
    rw [hc] at h
    simp only at h
    split at h
    · rename_i hs
      simp only [Option.some.injEq] at h
      subst h
      exact .inl ⟨rfl, by simpa using hc, by simpa using hs⟩
    · cases h
theorem val_none {l : List UInt8} (h : valOf l = none) : ParsesTo l 0 0 [] 20 := by
  refine .inr ⟨rfl, rfl, rfl, rfl, fun k n t hc hs => ?_⟩
  unfold valOf at h
  rw [hc] at h
  simp only at h
  rw [if_pos hs] at h
  cases h
theorem val_show {v : Val} (hr : rightB v.k v.n v.t = true) (hn : -9223372036854775808 ≤ v.n ∧ v.n ≤ 9223372036854775807) : valOf (valB v).data.toList = some v := by
  have := parses_show hr hn.1 hn.2
  rcases this with ⟨_, h1, h2⟩ | ⟨h, _⟩
  · unfold valOf
    have e : (valB v).data.toList = showL v.k v.n v.t := by show (showL v.k v.n v.t).toArray.toList = _; simp
    rw [e, h1]
    show (if showL v.k v.n ⟨v.t.data.toList.toArray⟩ = showL v.k v.n v.t then some (⟨v.k, v.n, ⟨v.t.data.toList.toArray⟩⟩ : Val) else none) = _
    rw [if_pos h2, list_eta]
  · cases h
def rowOf (l : List UInt8) : Option (List Val) := allOf valOf (cellsL l)
def rowsOf (l : List UInt8) : Option (List (List Val)) := allOf (fun x => rowOf (Lib.trimSuffix x [10])) (linesL l)
theorem show_flag {v : Val} (hr : rightB v.k v.n v.t = true) : flag (valB v).data.toList false false = some (false, false) := by
  have e : (valB v).data.toList = showL v.k v.n v.t := by show (showL v.k v.n v.t).toArray.toList = _; simp
  rw [e]
  unfold showL
  rw [if_pos hr]
  split
  · rfl
  · split
    · refine flag_plain _ (fun b hb => ?_)
      rcases Nu.itoa_all _ b hb with h | rfl
      · refine ⟨?_, ?_, ?_⟩ <;> (rintro rfl; revert h; decide)
      · decide
    · exact flag_quoted _
theorem show_nl {v : Val} (hr : rightB v.k v.n v.t = true) : ∀ b ∈ (valB v).data.toList, b ≠ 10 := by
  have e : (valB v).data.toList = showL v.k v.n v.t := by show (showL v.k v.n v.t).toArray.toList = _; simp
  rw [e]
  have hr' := hr
  unfold showL
  rw [if_pos hr]
  split
  · decide
  · split
    · intro b hb
      rcases Nu.itoa_all _ b hb with h | rfl
      · rintro rfl; revert h; decide
      · decide
    · rename_i k0 k1
      have hp : plainB v.t = true := by
        unfold rightB at hr'
        rw [if_neg k0, if_neg k1] at hr'
        by_cases k2 : v.k = 2
        · rw [if_pos k2, Bool.and_eq_true] at hr'; exact hr'.2
        · rw [if_neg k2] at hr'; cases hr'
      have hok : ∀ b ∈ v.t.data.toList, b ≠ 10 := by
        intro b hb
        unfold plainB at hp
        rw [Bool.and_eq_true] at hp
        have := List.all_eq_true.1 hp.1 b hb
        rintro rfl
        revert this
        decide
      have hesc : ∀ (t : List UInt8), (∀ b ∈ t, b ≠ 10) → ∀ b ∈ esc t, b ≠ 10 := by
        intro t
        induction t with
        | nil => intro _ b hb; cases hb
        | cons c t ih =>
          intro h b hb
          have e : esc (c :: t) = esc [c] ++ esc t := by rw [← esc_app]; rfl
          rw [e] at hb
          rcases List.mem_append.1 hb with hb | hb
          · by_cases hc : c = 34 ∨ c = 92
            · rw [esc_yes c hc] at hb
              simp only [List.mem_cons, List.not_mem_nil, or_false] at hb
              rcases hb with rfl | rfl
              · decide
              · exact h b (by simp)
            · rw [esc_no c hc] at hb
              simp only [List.mem_cons, List.not_mem_nil, or_false] at hb
              subst hb
              exact h b (by simp)
          · exact ih (fun x hx => h x (by simp [hx])) b hb
      intro b hb
      have hb' : b ∈ 34 :: (esc v.t.data.toList ++ [34]) := hb
      simp only [List.mem_cons, List.mem_append, List.not_mem_nil, or_false] at hb'
      rcases hb' with rfl | hb' | rfl
      · decide
      · exact hesc _ hok b hb'
      · decide
theorem join_mem {b : UInt8} {sep : List UInt8} : ∀ {xs : List (List UInt8)}, b ∈ Lib.join xs sep → (∃ x ∈ xs, b ∈ x) ∨ b ∈ sep
  | [], h => by simp [Lib.join_nil] at h
  | [x], h => by rw [Lib.join_one] at h; exact .inl ⟨x, by simp, h⟩
  | x :: y :: r, h => by
    rw [join_two] at h
    rcases List.mem_append.1 h with h | h
    · exact .inl ⟨x, by simp, h⟩
    · rcases List.mem_append.1 h with h | h
      · exact .inr h
      · rcases join_mem h with ⟨z, hz, hb⟩ | hb
        · exact .inl ⟨z, by simp [hz], hb⟩
        · exact .inr hb
theorem fit_right : ∀ {cs : List Col} {r : List Val}, fitL cs r = true → ∀ x ∈ r, rightB x.k x.n x.t = true
  | [], [], _, x, hx => by cases hx
  | [], _ :: _, h, _, _ => by cases h
  | _ :: _, [], h, _, _ => by cases h
  | c :: cs, v :: r, h, x, hx => by
    have h' : (fitC c v && fitL cs r) = true := h
    rw [Bool.and_eq_true] at h'
    rcases List.mem_cons.1 hx with rfl | hx
    · have h2 := h'.1
      unfold fitC at h2
      rw [Bool.and_eq_true] at h2
      exact h2.1
    · exact fit_right h'.2 x hx
theorem line_nl {r : List Val} (h : ∀ x ∈ r, rightB x.k x.n x.t = true) : ∀ b ∈ lineL r, b ≠ 10 := by
  intro b hb
  rcases join_mem hb with ⟨y, hy, hb⟩ | hb
  · obtain ⟨x, hx, rfl⟩ := List.mem_map.1 hy
    exact show_nl (h x hx) b hb
  · simp only [List.mem_cons, List.not_mem_nil, or_false] at hb
    rcases hb with rfl | rfl <;> decide
theorem row_line {r : List Val} (hp : r ≠ []) (h : ∀ x ∈ r, rightB x.k x.n x.t = true) (hn : ∀ x ∈ r, -9223372036854775808 ≤ x.n ∧ x.n ≤ 9223372036854775807) : rowOf (lineL r) = some r := by
  unfold rowOf lineL
  rw [cells_join _ (by simpa using hp) (fun y hy => by
    obtain ⟨x, hx, rfl⟩ := List.mem_map.1 hy
    exact show_flag (h x hx))]
  exact all_map r (fun x hx => val_show (h x hx) (hn x hx))
theorem trim_nl (a : List UInt8) : Lib.trimSuffix (a ++ [10]) [10] = a := by
  unfold Lib.trimSuffix
  have h : Lib.hasSuffix (a ++ [10]) [10] = true := by
    unfold Lib.hasSuffix
    rw [List.isSuffixOf_iff_suffix]
    exact List.suffix_append _ _
  rw [if_pos h, List.length_append]
  show (a ++ [10]).take (a.length + 1 - 1) = a
  rw [Nat.add_sub_cancel, List.take_left' rfl]
theorem rows_lines : ∀ (rs : List (List Val)), (∀ r ∈ rs, r ≠ [] ∧ (∀ x ∈ r, rightB x.k x.n x.t = true) ∧ ∀ x ∈ r, -9223372036854775808 ≤ x.n ∧ x.n ≤ 9223372036854775807) → rowsOf (rowsL rs) = some rs
  | [], _ => rfl
  | r :: rs, h => by
    obtain ⟨h1, h2, h3⟩ := h r (by simp)
    have ih := rows_lines rs (fun x hx => h x (by simp [hx]))
    have e : rowsL (r :: rs) = lineL r ++ [10] ++ rowsL rs := by simp [rowsL]
    unfold rowsOf at ih ⊢
    rw [e, lines_app _ _ (line_nl h2)]
    unfold allOf
    simp only [trim_nl, row_line h1 h2 h3]
    rw [ih]

/-! ### Columns -/
def typeOf (w : List UInt8) : Int := if w = [105, 110, 116] then 1 else if w = [116, 101, 120, 116] then 2 else 0
def colOf (p : List UInt8) : Col := ⟨⟨(Lib.cut p [32]).1.toArray⟩, typeOf (Lib.cut p [32]).2.1⟩
def bodyOf (t : List UInt8) : List UInt8 := Lib.trimSuffix (Lib.trimPrefix t [40]) [41]
def headOf (t : List UInt8) : List Col := (partsL (bodyOf t)).map colOf
def SchemaOf (t : List UInt8) (cs : List Col) : Prop := t ≠ [] ∧ chk cs = 0 ∧ showC cs = t
theorem name_bytes {s : ByteArray} (h : nameB s = true) : ∀ b ∈ s.data.toList, b ≠ 32 ∧ b ≠ 44 ∧ b ≠ 10 := by
  intro b hb
  unfold nameB nameL at h
  simp only [Bool.and_eq_true] at h
  have := List.all_eq_true.1 h.1.2 b hb
  refine ⟨?_, ?_, ?_⟩ <;> (rintro rfl; revert this; decide)
theorem col_back {c : Col} (hn : nameB c.name = true) (ht : c.ty = 1 ∨ c.ty = 2) : colOf (colB c).data.toList = c := by
  have e : (colB c).data.toList = c.name.data.toList ++ ([32] ++ wordL c.ty) := by
    unfold colB wordB
    simp
  unfold colOf
  rw [e, Nu.cut_app 32 [] c.name.data.toList (wordL c.ty) (fun x hx => (name_bytes hn x hx).1)]
  obtain ⟨n, ty⟩ := c
  rcases ht with h | h
  · simp only at h; subst h; rfl
  · simp only at h; subst h; rfl
theorem body_show (cs : List Col) : bodyOf (showC cs) = Lib.join (cs.map fun c => (colB c).data.toList) [44, 32] := by
  unfold bodyOf showC
  generalize Lib.join (cs.map fun c => (colB c).data.toList) [44, 32] = J
  have h1 : Lib.trimPrefix (40 :: (J ++ [41])) [40] = J ++ [41] := by
    unfold Lib.trimPrefix
    have : Lib.hasPrefix (40 :: (J ++ [41])) [40] = true := by simp [Lib.hasPrefix, List.isPrefixOf]
    rw [if_pos this]; rfl
  rw [h1]
  unfold Lib.trimSuffix
  have h : Lib.hasSuffix (J ++ [41]) [41] = true := by
    unfold Lib.hasSuffix
    rw [List.isSuffixOf_iff_suffix]
    exact List.suffix_append _ _
  rw [if_pos h, List.length_append]
  show (J ++ [41]).take (J.length + 1 - 1) = J
  rw [Nat.add_sub_cancel, List.take_left' rfl]
theorem word_bytes (T : Int) : ∀ b ∈ wordL T, b ≠ 44 ∧ b ≠ 10 := by
  unfold wordL
  split <;> decide
theorem col_bytes {c : Col} (hn : nameB c.name = true) : ∀ b ∈ (colB c).data.toList, b ≠ 44 ∧ b ≠ 10 := by
  have e : (colB c).data.toList = c.name.data.toList ++ ([32] ++ wordL c.ty) := by
    unfold colB wordB
    simp
  rw [e]
  intro b hb
  simp only [List.mem_append, List.mem_cons, List.not_mem_nil, or_false] at hb
  rcases hb with hb | rfl | hb
  · exact ⟨(name_bytes hn b hb).2.1, (name_bytes hn b hb).2.2⟩
  · decide
  · exact word_bytes _ b hb
theorem head_show {cs : List Col} (h : chk cs = 0) : headOf (showC cs) = cs := by
  obtain ⟨h1, h2, _⟩ := chk_ty h
  unfold headOf
  rw [body_show, parts_join _ (by
    intro e
    have := congrArg List.length e
    rw [List.length_map] at this
    rw [List.length_nil] at this
    omega) (fun x hx b hb => by
    obtain ⟨c, hc, rfl⟩ := List.mem_map.1 hx
    exact (col_bytes (h1 c hc).2 b hb).1), List.map_map]
  conv => rhs; rw [← List.map_id cs]
  apply List.map_congr_left
  intro c hc
  exact col_back (h1 c hc).2 (h1 c hc).1
theorem show_nl_C {cs : List Col} (h : chk cs = 0) : ∀ b ∈ showC cs, b ≠ 10 := by
  obtain ⟨h1, _⟩ := chk_ty h
  intro b hb
  unfold showC at hb
  simp only [List.mem_cons, List.mem_append, List.not_mem_nil, or_false] at hb
  rcases hb with rfl | hb | rfl
  · decide
  · rcases join_mem hb with ⟨y, hy, hb⟩ | hb
    · obtain ⟨c, hc, rfl⟩ := List.mem_map.1 hy
      exact (col_bytes (h1 c hc).2 b hb).2
    · simp only [List.mem_cons, List.not_mem_nil, or_false] at hb
      rcases hb with rfl | rfl <;> decide
  · decide

/-! ### Tables -/
/-- What a text is read as. -/
def TableOf (s : List UInt8) (cs : List Col) (rs : List (List Val)) : Prop :=
  cs = headOf (Lib.cut s [10]).1 ∧ chk cs = 0 ∧ showC cs = (Lib.cut s [10]).1 ∧ ∃ qs, rowsOf (Lib.cut s [10]).2.1 = some qs ∧ err cs qs = 0 ∧ rs = sortR qs ∧ showT cs rs = s
theorem table_show {cs : List Col} {rs : List (List Val)} (h : errT cs rs = 0) (hn : ∀ r ∈ rs, ∀ x ∈ r, -9223372036854775808 ≤ x.n ∧ x.n ≤ 9223372036854775807) : TableOf (showT cs rs) cs rs := by
  obtain ⟨h1, h2, h3, h4⟩ := errT_zero h
  have hc : Lib.cut (showT cs rs) [10] = (showC cs, rowsL rs, true) := by
    unfold showT
    rw [List.append_assoc]
    exact Nu.cut_app 10 [] (showC cs) (rowsL rs) (show_nl_C h1)
  have hs : sortR rs = rs := (sort_of (List.Perm.refl rs) ((sorted_iff rs).1 h3)).symm
  refine ⟨by rw [hc, head_show h1], h1, by rw [hc], rs, ?_, ?_, hs.symm, rfl⟩
  · rw [hc]
    refine rows_lines rs (fun r hr => ⟨?_, fit_right (h2 r hr), hn r hr⟩)
    intro e
    subst e
    have := fitL_len (h2 _ hr)
    have h5 := (chk_ty h1).2.1
    rw [List.length_nil] at this
    omega
  · apply Classical.byContradiction
    intro he
    unfold errT at h
    rw [if_pos he] at h
    exact he h
theorem table_unique {s : List UInt8} {cs cs' : List Col} {rs rs' : List (List Val)} (h : TableOf s cs rs) (h' : TableOf s cs' rs') : cs = cs' ∧ rs = rs' := by
  obtain ⟨a1, _, _, q, a2, _, a3, _⟩ := h
  obtain ⟨b1, _, _, q', b2, _, b3, _⟩ := h'
  rw [a2] at b2
  obtain rfl := Option.some.inj b2
  exact ⟨a1.trans b1.symm, a3.trans b3.symm⟩
end Go.Proofs.YtfmjeggomphliaaGreatDoor.Tb
