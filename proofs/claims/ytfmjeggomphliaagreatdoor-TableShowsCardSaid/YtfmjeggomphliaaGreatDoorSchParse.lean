/- Walks: a text read as a schema. -/
import Derived.Test.YtfmjeggomphliaaGreatDoorIterWalk
import Derived.Test.YtfmjeggomphliaaGreatDoorCutsMath
import Derived.Test.YtfmjeggomphliaaGreatDoorAtoi
import Derived.RangeFuncBox
set_option linter.unusedVariables false
set_option linter.unusedSimpArgs false
namespace Go.Proofs.YtfmjeggomphliaaGreatDoor.Rf
open Go.RowKit Go Go.Sort Ba Tb Va Go.Shelf
attribute [local go_sem] Oper.semAt_some

/-- What the readers of texts lean on. -/
structure EnvZ (w : World) : Prop where
  tab : EnvT w
  w0 : w.cell? ⟨0, 0, none⟩ = some (.string ⟨#[]⟩)
  ml : ∃ m : Int, w.cell? ⟨1, 0, none⟩ = some (.int .i64 m)
  errs : Errs w
theorem EnvZ.below {w w' : World} (h : EnvZ w) (hb : Below w.heap.size w w') : EnvZ w' :=
  ⟨h.tab.below hb, (hb.cell (by exact lt_of_cell h.w0)).trans h.w0, by obtain ⟨m, hm⟩ := h.ml; exact ⟨m, (hb.cell (by exact lt_of_cell hm)).trans hm⟩, h.errs.below hb⟩
theorem cutz_is (s sep a b : ByteArray) (c : Bool) (w : World) (hs : s.size < 4294967281) (hE : EnvZ w) (h : Lib.cut s.data.toList sep.data.toList = (a.data.toList, b.data.toList, c)) :
    Calls Tryz.prog 21 #[.string s, .string sep] w fun e w' => e = .returned (.tuple #[.string a, .string b, .bool c]) ∧ Below w.heap.size w w' := by
  obtain ⟨m, hm⟩ := hE.ml
  have := Tryz.strings_Cut s sep m w hs hm
  rw [h] at this
  simp only [list_eta] at this
  exact this.mono fun e w' ⟨he, n, hw⟩ => ⟨he, by rw [hw]; exact Below.drewN (Below.refl _ _) n⟩
theorem lines_is (s : ByteArray) (w : World) : Calls Tryz.prog 23 #[.string s] w fun e w' => e = .returned (.func (.func 52) #[] #[.pointer (some ⟨w.heap.size, 0, none⟩)]) ∧ w' = w.alloc (.cells #[.string s] 9) := by
  go_enter Tryz.func23, Tryz.ntmps23
  go_wp2
  go_ret
  exact ⟨rfl, rfl⟩
theorem splits_is (s sep : ByteArray) (w : World) : Calls Tryz.prog 50 #[.string s, .string sep] w fun e w' => e = .returned (.func (.func 105) #[] #[.pointer (some ⟨w.heap.size + 1, 0, none⟩), .pointer (some ⟨w.heap.size, 0, none⟩), .pointer (some ⟨w.heap.size + 2, 0, none⟩)]) ∧ w' = ((w.alloc (.cells #[.string s] 9)).alloc (.cells #[.string sep] 9)).alloc (.cells #[.int .i64 0] 3) := by
  go_enter Tryz.func50, Tryz.ntmps50
  go_wp2
  go_ret
  exact ⟨rfl, rfl⟩
/-- What the call itself has gathered stays while a block that is not its own turns. -/
theorem own_kept {W W' : World} {base r : Nat} {e : TypeId} {size : Nat} {v : Value} {n : Nat} {xs : List Value} (h : W.ownsRow base e size v n xs) (hg : W.grownBy W' (some r)) (hr : r < base ∨ ∃ o, W.heap[r]? = some o ∧ o.isCells = false) : W'.ownsRow base e size v n xs := by
  refine own_of_block h fun k hk => hg.block k (h.lt k hk).2 ?_
  intro e1
  obtain rfl := Option.some.inj e1
  rcases hr with hr | ⟨o, ho, hc⟩
  · have := (h.lt _ hk).1; omega
  · rcases h.2 with ⟨rfl, _⟩ | ⟨g, cap, cur, rfl, _, hh, _⟩
    · cases hk
    · cases hk
      rw [hh] at ho; cases ho; cases hc
theorem bal (w : World) (o : Obj) : Below w.heap.size w (w.alloc o) := (Below.refl _ _).alloc (Nat.le_refl _) _
theorem own_isCells {W : World} {base r : Nat} {e : TypeId} {size : Nat} {v : Value} {n : Nat} {xs : List Value} {o : Obj} (h : W.ownsRow base e size v n xs) (hr : v.ownBlock = some r) (ho : W.heap[r]? = some o) : o.isCells = true := by
  rcases h.2 with ⟨rfl, _⟩ | ⟨g, cap, cur, rfl, _, hh, _⟩
  · cases hr
  · cases hr
    rw [hh] at ho; cases ho; rfl
theorem own_put1 {W : World} {base : Nat} {v : Value} {xs : List Col} (h : OwnC W base v xs) (B : Nat) (hB : B < base) (i : Nat) (a : Value) : OwnC (W.setCell ⟨B, i, none⟩ a) base v xs :=
  own_of_block h fun k hk => Below.heap_setCell _ _ _ _ (by have := (h.lt k hk).1; show k ≠ B; omega)
def isDef : Op → Bool
  | .defer _ => true
  | _ => false
theorem nodefer {ops : Array Oper} (h : ops.all (fun o => !isDef o.op) = true) : ∀ (i : Nat) (o : Oper), ops[i]? = some o → ∀ c, o.op ≠ .defer c := fun i o ho c e => by
  have h1 := (Array.all_eq_true_iff_forall_mem.1 h) o (Array.mem_of_getElem? ho)
  rw [e] at h1
  cases h1
theorem own_cols {W : World} {base : Nat} {v : Value} {xs : List Col} {c : Col} (h : W.ownsRow base 45 2 v ((xs.map cc).length + 1) ((xs.map cc).flatten ++ [.string c.name, .int .i64 c.ty])) : OwnC W base v (xs ++ [c]) := by
  unfold OwnC
  rw [List.map_append, List.flatten_append, List.length_append]
  rw [List.length_map] at h
  simpa [cc] using h
/-- Parse of a schema's text. -/
def SchParsed (t : List UInt8) (w : World) (e : Ending) (w' : World) : Prop :=
  ∃ ao n c er, e = .returned (.tuple #[.slice ao n c, .int .i64 er]) ∧ Below w.heap.size w w' ∧ ((er = 0 ∧ SchemaOf t (headOf t) ∧ ColsAt w' (.slice ao n c) (headOf t)) ∨ (er = 20 ∧ ao = none ∧ n = 0 ∧ c = 0 ∧ ¬ SchemaOf t (headOf t)))
theorem trim_sz (a b : List UInt8) : (Lib.trimPrefix a b).length ≤ a.length := Lib.trimPrefix_le a b
theorem words_ix (x : ByteArray) : (max (Lib.idxOfS [⟨#[]⟩, wordB 1, wordB 2] x) 0 : Int) = typeOf x.data.toList := by
  have e1 : (wordB 1).data.toList = [105, 110, 116] := rfl
  have e2 : (wordB 2).data.toList = [116, 101, 120, 116] := rfl
  by_cases h0 : x = ⟨#[]⟩
  · subst h0; decide +kernel
  · by_cases h1 : x = wordB 1
    · subst h1; decide +kernel
    · by_cases h2 : x = wordB 2
      · subst h2; decide +kernel
      · have hm := Lib.idxOfS_miss [⟨#[]⟩, wordB 1, wordB 2] 3 x (fun j hj => by
          match j, hj with
          | 0, _ => exact fun e => h0 e.symm
          | 1, _ => exact fun e => h1 e.symm
          | 2, _ => exact fun e => h2 e.symm)
        rw [show ([⟨#[]⟩, wordB 1, wordB 2] : List ByteArray).take 3 = [⟨#[]⟩, wordB 1, wordB 2] from rfl] at hm
        rw [hm]
        unfold typeOf
        rw [if_neg (fun e => h1 (Go.WideShapes.bytes_inj (e.trans e1.symm))), if_neg (fun e => h2 (Go.WideShapes.bytes_inj (e.trans e2.symm)))]
        rfl
theorem cols_put {W : World} {v : Value} {cs : List Col} {D : Nat} {x : Option (List Deferred)} {o : Obj} (h : ColsAt W v cs) (hD : W.heap[D]? = some (.deferred x)) : ColsAt (W.putObj D o) v cs := by
  obtain ⟨ao, cap, h1, h2, h3, h4⟩ := h
  refine ⟨ao, cap, h1, h2, h3, fun i y hy => ?_⟩
  obtain ⟨b, off, e, hlt, hc⟩ := h4 i y hy
  have hne : b ≠ D := by
    rintro rfl
    have c0 := hc 0 (by decide)
    rw [List.getElem?_map] at hy
    cases hcs : cs[i]? with
    | none => rw [hcs] at hy; cases hy
    | some c =>
      rw [hcs] at hy
      obtain rfl := Option.some.inj hy
      unfold World.cell? at c0
      simp only [hD] at c0
      cases c0
  exact ⟨b, off, e, by rw [World.putObj_size]; exact hlt, fun j hj => (cell_same (World.putObj_heap_other hne)).trans (hc j hj)⟩
/-- The text that Show gives, whatever the columns. -/
def showX (cs : List Col) : List UInt8 := if chk cs = 0 then showC cs else []
theorem schShow_any (sv : Value) (cs : List Col) (w : World) (hl : cs.length ≤ 4096) (hn : ∀ c ∈ cs, c.name.size ≤ 4096) (hs : ColsAt w sv cs) (hE : EnvT w) :
    Calls Tryz.prog 34 #[sv] w fun e w' => e = .returned (.string ⟨(showX cs).toArray⟩) ∧ Below w.heap.size w w' := by
  unfold showX
  by_cases hc : chk cs = 0
  · rw [if_pos hc]; exact schShow_is sv cs w hs hc hE
  · rw [if_neg hc]
    obtain ⟨E, hEE⟩ : ∃ E, chk cs = E := ⟨_, rfl⟩
    have HCK := Lib.hid (check_is hEE w hl hn hs)
    rw [hEE] at hc
    have d0 : (E != 0) = true := by simpa using hc
    clear hEE hc hs hE hl hn
    go_enter Tryz.func34, Tryz.ntmps34
    go_wp2_with (go_at_call 66; refine HCK.out.mono ?_; rintro e w1 ⟨rfl, hb1⟩)
    go_ret
    exact ⟨rfl, hb1⟩
theorem cut_le (l : List UInt8) : (Lib.cut l [32]).1.length ≤ l.length := by
  unfold Lib.cut
  split
  · simp only [List.length_take]; omega
  · exact Nat.le_refl _
theorem part_le : ∀ (l x : List UInt8), x ∈ partsL l → x.length ≤ l.length
  | [], x, h => by
    have : x = [] := by simpa [partsL] using h
    subst this; exact Nat.le_refl _
  | [c], x, h => by
    have : x = [c] := by simpa [partsL] using h
    subst this; exact Nat.le_refl _
  | c :: d :: r, x, h => by
    by_cases hc : c = 44 ∧ d = 32
    · rw [parts_hit hc] at h
      rcases List.mem_cons.1 h with rfl | h
      · exact Nat.zero_le _
      · have := part_le r x h
        simp only [List.length_cons]; omega
    · cases hp : partsL (d :: r) with
      | nil =>
        have e : partsL (c :: d :: r) = [[c]] := by
          show (if c = 44 ∧ d = 32 then [] :: partsL r else match partsL (d :: r) with | [] => [[c]] | x :: xs => (c :: x) :: xs) = _
          rw [if_neg hc, hp]
        rw [e] at h
        have : x = [c] := by simpa using h
        subst this; simp
      | cons y ys =>
        rw [parts_ne hc hp] at h
        rcases List.mem_cons.1 h with rfl | h
        · have := part_le (d :: r) y (by rw [hp]; simp)
          simp only [List.length_cons] at this ⊢; omega
        · have := part_le (d :: r) x (by rw [hp]; simp [h])
          simp only [List.length_cons] at this ⊢; omega
theorem head_bd (t : List UInt8) (ht : t.length ≤ 4000) : (headOf t).length ≤ 4096 ∧ ∀ c ∈ headOf t, c.name.size ≤ 4096 := by
  have hb : (bodyOf t).length ≤ 4000 := by
    unfold bodyOf
    have h1 := Lib.trimSuffix_le (Lib.trimPrefix t [40]) [41]
    have h2 := Lib.trimPrefix_le t [40]
    omega
  unfold headOf
  refine ⟨by rw [List.length_map]; have := parts_len (bodyOf t); omega, fun c hc => ?_⟩
  obtain ⟨p, hp, rfl⟩ := List.mem_map.1 hc
  have h1 := part_le _ _ hp
  have h2 := cut_le p
  show (⟨(Lib.cut p [32]).1.toArray⟩ : ByteArray).size ≤ 4096
  rw [size_list]
  simp only [List.toList_toArray]
  omega
set_option maxHeartbeats 6400000 in
set_option maxRecDepth 100000 in
theorem schParse_is (t : ByteArray) (w : World) (ht : t.size ≤ 4000) (hE : EnvZ w) :
    Calls Tryz.prog 22 #[.string t] w (SchParsed t.data.toList w) := by
  obtain ⟨x1, hx1⟩ : ∃ x : ByteArray, x.data.toList = Lib.trimPrefix t.data.toList [40] := ⟨⟨(Lib.trimPrefix t.data.toList [40]).toArray⟩, by simp⟩
  obtain ⟨x2, hx2⟩ : ∃ x : ByteArray, x.data.toList = bodyOf t.data.toList := ⟨⟨(bodyOf t.data.toList).toArray⟩, by simp⟩
  have hz1 : x1.size ≤ 4000 := by rw [size_list, hx1]; have := Lib.trimPrefix_le t.data.toList [40]; rw [← size_list] at this; omega
  have hz2 : x2.size ≤ 4000 := by rw [size_list, hx2]; unfold bodyOf; have := Lib.trimSuffix_le (Lib.trimPrefix t.data.toList [40]) [41]; rw [← hx1, ← size_list] at this; rw [← hx1]; omega
  have HX2 := Lib.hid hx2
  have HE := Lib.hid hE
  have H1 : Hid (∀ W, Calls Tryz.prog 48 #[.string t, .string ⟨#[40]⟩] W fun e w' => e = .returned (.tuple #[.string x1, .bool (Lib.hasPrefix t.data.toList [40])]) ∧ W = w') := fun W => (Tryz.strings_CutPrefix t ⟨#[40]⟩ W).mono fun e w' ⟨he, hw⟩ => ⟨by rw [he]; show Ending.returned (.tuple #[.string ⟨(Lib.trimPrefix t.data.toList [40]).toArray⟩, _]) = _; rw [← hx1, list_eta], hw.symm⟩
  have H2 : Hid (∀ W, Calls Tryz.prog 49 #[.string x1, .string ⟨#[41]⟩] W fun e w' => e = .returned (.tuple #[.string x2, .bool (Lib.hasSuffix x1.data.toList [41])]) ∧ W = w') := fun W => (Tryz.strings_CutSuffix x1 ⟨#[41]⟩ W (by omega)).mono fun e w' ⟨he, hw⟩ => ⟨by rw [he]; show Ending.returned (.tuple #[.string ⟨(Lib.trimSuffix x1.data.toList [41]).toArray⟩, _]) = _; rw [hx1]; show Ending.returned (.tuple #[.string ⟨(bodyOf t.data.toList).toArray⟩, _]) = _; rw [← hx2, list_eta], hw.symm⟩
  clear hx1 hx2 hE
  refine (callsIn_wide (n := 4)).1 ?_
  refine callsIn_of_wp_marks Tryz.func22 rfl trivial ?_ rfl
  simp only [Tryz.ntmps22, List.size_toArray, List.length_cons, List.length_nil, Nat.reduceAdd, Nat.reduceSub, Array.replicate_succ, Array.replicate_zero, List.push_toArray, List.append_toArray, List.nil_append, List.cons_append]
  gi_wp2_with (first | (refine ⟨trivial, ?_⟩; gi_at_call 48; refine (callsIn_wide.2 (H1.out _)).mono ?_; rintro e v1 ⟨rfl, rfl⟩) | (refine ⟨trivial, ?_⟩; gi_at_call 49; refine (callsIn_wide.2 (H2.out _)).mono ?_; rintro e v1 ⟨rfl, rfl⟩) | (refine ⟨trivial, ?_⟩; gi_at_call 50; refine (callsIn_wide.2 (splits_is _ _ _)).mono ?_; rintro e v1 ⟨rfl, rfl⟩))
  obtain ⟨i0, hi, hz0, hz1, hz2⟩ := info_parts infoCol
  have bw0 : Below w.heap.size w ((((w.alloc (.cells #[.slice none 0 0] 24)).alloc (.cells #[.string x2] 9)).alloc (.cells #[.string ⟨#[44, 32]⟩] 9)).alloc (.cells #[.int .i64 0] 3)) := (((((Below.refl _ w).alloc (Nat.le_refl _) _).alloc (by simp) _).alloc (by simp; omega) _).alloc (by simp; omega) _)
  have bx0 : Boxed ((((w.alloc (.cells #[.slice none 0 0] 24)).alloc (.cells #[.string x2] 9)).alloc (.cells #[.string ⟨#[44, 32]⟩] 9)).alloc (.cells #[.int .i64 0] 3)) w.heap.size 24 (.slice none 0 0) := (((Boxed.new w _ _).alloc _).alloc _).alloc _
  have sp0 : SplitAt (w.heap.size + 1) x2 ((((w.alloc (.cells #[.slice none 0 0] 24)).alloc (.cells #[.string x2] 9)).alloc (.cells #[.string ⟨#[44, 32]⟩] 9)).alloc (.cells #[.int .i64 0] 3)) := by
    have e1 := ((Boxed.new (w.alloc (.cells #[.slice none 0 0] 24)) 9 (.string x2)).alloc (.cells #[.string ⟨#[44, 32]⟩] 9)).alloc (.cells #[.int .i64 0] 3)
    have e2 := (Boxed.new ((w.alloc (.cells #[.slice none 0 0] 24)).alloc (.cells #[.string x2] 9)) 9 (.string ⟨#[44, 32]⟩)).alloc (.cells #[.int .i64 0] 3)
    have e3 := Boxed.new (((w.alloc (.cells #[.slice none 0 0] 24)).alloc (.cells #[.string x2] 9)).alloc (.cells #[.string ⟨#[44, 32]⟩] 9)) 3 (.int .i64 0)
    simp only [World.size_alloc] at e1 e2 e3
    exact ⟨e1, e2, e3, (HE.out.below bw0).ml⟩
  have hs0 : ((((w.alloc (.cells #[.slice none 0 0] 24)).alloc (.cells #[.string x2] 9)).alloc (.cells #[.string ⟨#[44, 32]⟩] 9)).alloc (.cells #[.int .i64 0] 3)).heap.size = w.heap.size + 4 := by simp
  have hml : 1 < w.heap.size := by obtain ⟨m, hm⟩ := HE.out.ml; exact lt_of_cell hm
  generalize ((((w.alloc (.cells #[.slice none 0 0] 24)).alloc (.cells #[.string x2] 9)).alloc (.cells #[.string ⟨#[44, 32]⟩] 9)).alloc (.cells #[.int .i64 0] 3)) = W0 at *
  have BW0 := Lib.hid bw0
  have SP0 := Lib.hid sp0
  have HS0 := Lib.hid hs0
  clear bw0 sp0 H1 H2
  refine wpIn_range (n := 4) (gf := 105) (lb := #[.pointer (some ⟨w.heap.size + 1 + 1, 0, none⟩), .pointer (some ⟨w.heap.size + 1, 0, none⟩), .pointer (some ⟨w.heap.size + 1 + 2, 0, none⟩)]) (by rfl) (enters_of Tryz.func105 (by kernel_rfl) rfl)
    (splits_seq (w.heap.size + 1) x2 (by omega) (by omega)) (fun W hk => SP0.out.same hk) (by rw [HS0.out]; omega) (fun k hk => by have := HS0.out; rcases hk with h | h | h | h <;> omega) (fun _ => rfl)
    (fun pre W => ∃ v, Boxed W w.heap.size 24 v ∧ OwnC W W0.heap.size v (pre.map fun x => colOf x.1.data.toList) ∧ Below w.heap.size w W)
    (fun _ _ => False) ?hI (fun _ _ _ _ h => h.elim) ⟨_, bx0, World.ownsRow_nil _ _ _ _, BW0.out⟩ ?a1 ?assign ?body ?done (fun _ _ _ _ _ h _ => h.elim)
  case assign =>
    intro l x W K hK
    gi_wp2
    exact hK
  case hI =>
    rintro pre W W' r ⟨v, h1, h2, h3⟩ hg hr
    have hs := HS0.out
    have hr' : r < W0.heap.size ∨ ∃ o, W.heap[r]? = some o ∧ o.isCells = false := by
      rcases hr with rfl | ⟨_, h⟩
      · exact .inl (by omega)
      · exact .inr h
    refine ⟨v, h1.kept hg ?_, own_kept h2 hg hr', h3.grown hg h3.size (fun k e => ?_)⟩
    · intro e
      obtain rfl := Option.some.inj e
      rcases hr with h | ⟨h, _⟩ <;> omega
    · obtain rfl := Option.some.inj e
      rcases hr with h | ⟨h, _⟩ <;> omega
  case body =>
    rintro l pre x W ⟨v, h1, h2, h3⟩ hsz hN
    obtain ⟨nm, wd, fo, hcut⟩ : ∃ (a b : ByteArray) (c : Bool), Lib.cut x.1.data.toList [32] = (a.data.toList, b.data.toList, c) := ⟨⟨(Lib.cut x.1.data.toList [32]).1.toArray⟩, ⟨(Lib.cut x.1.data.toList [32]).2.1.toArray⟩, (Lib.cut x.1.data.toList [32]).2.2, by simp⟩
    obtain ⟨ty, hty⟩ : ∃ ty, typeOf wd.data.toList = ty := ⟨_, rfl⟩
    obtain ⟨ix, hix⟩ : ∃ ix, Lib.idxOfS [⟨#[]⟩, wordB 1, wordB 2] wd = ix := ⟨_, rfl⟩
    have hmax : max ix 0 = ty := by rw [← hix, words_ix, hty]
    obtain ⟨xs, hxs⟩ : ∃ xs, (pre.map fun x => colOf x.1.data.toList) = xs := ⟨_, rfl⟩
    rw [hxs] at h2
    have HXS : Hid (((pre ++ [x]).map fun x => colOf x.1.data.toList) = xs ++ [⟨nm, ty⟩]) := by
      show _ = _
      rw [List.map_append, hxs, List.map_cons, List.map_nil]
      unfold colOf
      rw [hcut]
      simp only [hty, list_eta]
    have HCUT : Hid (∀ V, Below w.heap.size w V → Calls Tryz.prog 21 #[.string x.1, .string ⟨#[32]⟩] V fun e w' => e = .returned (.tuple #[.string nm, .string wd, .bool fo]) ∧ Below V.heap.size V w') := fun V hb => cutz_is x.1 ⟨#[32]⟩ nm wd fo V (by have := x.2; omega) (HE.out.below hb) hcut
    have HIX : Hid (∀ V, Below w.heap.size w V → Calls Tryz.prog 51 #[.slice (some ⟨0, 0, none⟩) 3 3, .string wd] V fun e w' => e = .returned (.int .i64 ix) ∧ V = w') := fun V hb => by
      have hz := HE.out.below hb
      have := Tryz.slices_Index_string 0 0 3 3 [⟨#[]⟩, wordB 1, wordB 2] wd V (by decide) (by decide) (fun j hj => by
        match j, hj with
        | 0, _ => exact hz.w0
        | 1, _ => exact hz.tab.w1
        | 2, _ => exact hz.tab.w2)
      rw [show ([⟨#[]⟩, wordB 1, wordB 2] : List ByteArray).take 3 = [⟨#[]⟩, wordB 1, wordB 2] from rfl, hix] at this
      exact this.mono fun e w' ⟨he, hw⟩ => ⟨he, hw.symm⟩
    have HXL : Hid (xs.length ≤ 4002) := by show _ ≤ _; rw [← hxs, List.length_map]; omega
    have H1 := Lib.hid h1
    have H2 := Lib.hid h2
    have H3 := Lib.hid h3
    have HSZ := Lib.hid hsz
    clear hcut hty hix hxs h1 h2 h3 hsz hs0 bx0 hN
    gi_wp2_with (refine ⟨trivial, ?_⟩; gi_at_call 21; refine (CallsIn.inRound l (callsIn_wide.2 (HCUT.out _ H3.out))).mono ?_; rintro e W1 ⟨rfl, hb1⟩)
    have hlt1 : w.heap.size < W1.heap.size := by have := HSZ.out; have := hb1.size; have := HS0.out; omega
    have BO := Lib.hid (H1.out.kept (grown_of hb1 none) (by simp))
    have OW := Lib.hid (H2.out.below hb1)
    have BW := Lib.hid (two H3.out hb1)
    have c4 := BO.out.cell
    have c4a := ((BO.out.alloc (.cells #[.string nm, .int .i64 ty] 45)).cell)
    have OWA : Hid (((W1.alloc (.cells #[.string nm, .int .i64 ty] 45)).drew).ownsRow W0.heap.size 45 2 v (xs.map cc).length (xs.map cc).flatten) := by
      have h9 := (OW.out.below (bal W1 (.cells #[.string nm, .int .i64 ty] 45))).below (Below.drew (Below.refl _ _))
      unfold OwnC at h9
      rw [List.length_map]; exact h9
    have BOA : Hid (Boxed ((W1.alloc (.cells #[.string nm, .int .i64 ty] 45)).drew) w.heap.size 24 v) := BO.out.alloc _
    have HNEW : Hid (∀ (j : Nat) (u : Value), ([.string nm, .int .i64 ty] : List Value)[j]? = some u → ((W1.alloc (.cells #[.string nm, .int .i64 ty] 45)).drew).cell? ((⟨W1.heap.size, 0, none⟩ : Addr).add j) = some u) := fun j u hj => by
      rw [Addr.add_lit, Nat.zero_add]
      show (W1.alloc _).cell? _ = _
      rw [World.cell?_alloc_at _ _ _ _ rfl]
      simpa using hj
    have HBS : Hid (W0.heap.size ≤ ((W1.alloc (.cells #[.string nm, .int .i64 ty] 45)).drew).heap.size) := by
      show _ ≤ (W1.alloc _).heap.size
      rw [World.size_alloc]; have := HSZ.out; have := hb1.size; omega
    have KP : Hid (Keeps W0.heap.size (SplitKp (w.heap.size + 1)) W ((W1.alloc (.cells #[.string nm, .int .i64 ty] 45)).drew)) :=
      Keeps.below (((hb1.trans ((bal W1 _).mono hb1.size)).trans (Below.drew (Below.refl _ _)))) (fun k hk => by have := HSZ.out; have := HS0.out; rcases hk with h | h | h | h <;> omega)
    have BWA : Hid (Below w.heap.size w ((W1.alloc (.cells #[.string nm, .int .i64 ty] 45)).drew)) := (two BW.out (bal W1 _)).trans (Below.drew (Below.refl _ _))
    clear hb1
    refine region_in (S := fun _ => True) (nodefer (by kernel_rfl)) (fun ⟨_, _, h⟩ => h) (by kernel_rfl) trivial (fun hHeld => ?_)
    refine wpAnyH_take (i := 1) (v := ?v1x) rfl (by kernel_rfl) (by kernel_rfl) (by kernel_rfl) (fun _ _ _ h => h) (Or.inl ⟨by rfl, ?hy1x⟩) hHeld ?rest1x
    case hy1x => (intro w hSw; (try dsimp only at hSw); go_simp <;> with_reducible rfl)
    try simp only [Array.reduceGetElem, Act.put, List.setIfInBounds_toArray, List.set_cons_zero, List.set_cons_succ]
    refine wpAnyH_take (i := 2) (v := ?v2x) rfl (by kernel_rfl) (by kernel_rfl) (by kernel_rfl) (fun _ _ _ h => h) (Or.inl ⟨by rfl, ?hy2x⟩) hHeld ?rest2x
    case hy2x => (intro w hSw; (try dsimp only at hSw); go_simp <;> with_reducible rfl)
    try simp only [Array.reduceGetElem, Act.put, List.setIfInBounds_toArray, List.set_cons_zero, List.set_cons_succ]
    refine wpAnyH_take (i := 3) (v := ?v3x) rfl (by kernel_rfl) (by kernel_rfl) (by kernel_rfl) (fun _ _ _ h => h) (Or.inl ⟨by rfl, ?hy3x⟩) hHeld ?rest3x
    case hy3x => (intro w hSw; (try dsimp only at hSw); go_simp <;> with_reducible rfl)
    try simp only [Array.reduceGetElem, Act.put, List.setIfInBounds_toArray, List.set_cons_zero, List.set_cons_succ]
    refine wpAnyH_ready (rs := [0, 4]) (by kernel_rfl) (by simp) ?_
    refine AllReadyH.cons rfl (fun K hK => ?_) (AllReadyH.cons rfl (fun K hK => ?_) AllReadyH.nil)
    · go_simp
      refine hK.out _ _ ?_ (fun hHeld2 => ?_)
      · exact trivial
      clear hK K hHeld
      have hHeld := hHeld2
      clear hHeld2
      try simp only [Array.reduceGetElem, Act.put, List.setIfInBounds_toArray, List.set_cons_zero, List.set_cons_succ]
      refine wpAnyH_ready (rs := [4]) (by kernel_rfl) (by simp) ?_
      refine AllReadyH.cons rfl (fun K hK => ?_) AllReadyH.nil
      go_simp
      go_at_call 51; refine (HIX.out _ (Below.drew BW.out)).mono ?_; rintro e u1 ⟨rfl, rfl⟩; go_wp2_with fail
      refine hK.out _ _ ?_ (fun hHeld2 => ?_)
      · exact trivial
      clear hK K hHeld
      have hHeld := hHeld2
      clear hHeld2
      try simp only [Array.reduceGetElem, Act.put, List.setIfInBounds_toArray, List.set_cons_zero, List.set_cons_succ]
      refine wpAnyH_ready (rs := [5]) (by kernel_rfl) (by simp) ?_
      refine AllReadyH.cons rfl (fun K hK => ?_) AllReadyH.nil
      go_simp
      refine hK.out _ _ ?_ (fun hHeld2 => ?_)
      · exact trivial
      clear hK K hHeld
      have hHeld := hHeld2
      clear hHeld2
      try simp only [Array.reduceGetElem, Act.put, List.setIfInBounds_toArray, List.set_cons_zero, List.set_cons_succ]
      refine wpAnyH_take (i := 6) (v := ?v4x) rfl (by kernel_rfl) (by kernel_rfl) (by kernel_rfl) (fun _ _ _ h => h) (Or.inl ⟨by rfl, ?hy4x⟩) hHeld ?rest4x
      case hy4x => (intro w hSw; (try dsimp only at hSw); go_simp <;> with_reducible rfl)
      try simp only [Array.reduceGetElem, Act.put, List.setIfInBounds_toArray, List.set_cons_zero, List.set_cons_succ]
      refine wpAnyH_ready (rs := [7]) (by kernel_rfl) (by simp) ?_
      refine AllReadyH.cons rfl (fun K hK => ?_) AllReadyH.nil
      go_simp
      refine hK.out _ _ ?_ (fun hHeld2 => ?_)
      · exact trivial
      clear hK K hHeld
      have hHeld := hHeld2
      clear hHeld2
      have hcc := c4a
      try simp only [Array.reduceGetElem, Act.put, List.setIfInBounds_toArray, List.set_cons_zero, List.set_cons_succ]
      refine wpAnyH_ready (rs := [8]) (by kernel_rfl) (by simp) ?_
      refine AllReadyH.cons rfl (fun K hK => ?_) AllReadyH.nil
      rw [if_pos (by rfl)]
      refine wp_append_own (W1.alloc (.cells #[.string nm, .int .i64 ty] 45)).drew _ _ 24 (by rfl) W0.heap.size 45 i0 _ 2 24 Tryz.underlying24 hi hz0 hz1 hz2 rfl (by decide) v (xs.map cc).length (xs.map cc).flatten (by rfl) OWA.out ⟨W1.heap.size, 0, none⟩ 1 1 [.string nm, .int .i64 ty] (by rfl) (by simp) HNEW.out (by intro u hu; simp at hu; rcases hu with rfl | rfl <;> rfl) (by have := HXL.out; unfold maxLen; rw [List.length_map]; omega) (by have := HXL.out; rw [List.length_map]; omega) HBS.out ?_
      intro v8 w8 hown8 hgrow8 _
      refine hK.out _ _ ?_ (fun hHeld2 => ?_)
      · exact trivial
      clear hK K hHeld
      have hHeld := hHeld2
      clear hHeld2
      obtain ⟨ea, en, ec, rfl⟩ := (OwnC.sh (own_cols (c := ⟨nm, ty⟩) hown8))
      have B8 := Lib.hid ((BOA.out).kept hgrow8 (Boxed.not_row BOA.out (by decide) OWA.out))
      have c8 := B8.out.cell
      have f8 := B8.out.frozen
      try simp only [Array.reduceGetElem, Act.put, List.setIfInBounds_toArray, List.set_cons_zero, List.set_cons_succ]
      refine wpAnyH_ready (rs := [9]) (by kernel_rfl) (by simp) ?_
      refine AllReadyH.cons rfl (fun K hK => ?_) AllReadyH.nil
      go_simp
      refine hK.out _ _ ?_ (fun hHeld2 => ?_)
      · exact trivial
      clear hK K hHeld
      have hHeld := hHeld2
      clear hHeld2
      try simp only [Array.reduceGetElem, Act.put, List.setIfInBounds_toArray, List.set_cons_zero, List.set_cons_succ]
      refine wpAnyH_done (by kernel_rfl) ?_ _
      have NK : ∀ r, SplitKp (w.heap.size + 1) r → r ≠ w.heap.size ∧ r < W0.heap.size := fun r hk => by have := HS0.out; rcases hk with h | h | h | h <;> omega
      have k1 : Keeps W0.heap.size (SplitKp (w.heap.size + 1)) (W1.alloc (.cells #[.string nm, .int .i64 ty] 45)).drew w8 := Keeps.grown hgrow8 (fun k hk => Nat.lt_of_lt_of_le (NK k hk).2 HBS.out) (fun r e hk => by have h7 := (OWA.out.lt r e).1; have h8 := (NK r hk).2; omega) (fun r o e ho => own_isCells OWA.out e ho)
      have k2 : Keeps W0.heap.size (SplitKp (w.heap.size + 1)) w8 (w8.setCell ⟨w.heap.size, 0, none⟩ (.slice ea en ec)) := Keeps.put w8 (fun hk => (NK _ hk).1 rfl) (fun o ho => by have h7 := B8.out; rw [show w8.heap[w.heap.size]? = _ from h7] at ho; cases ho; rfl)
      exact ⟨(KP.out.trans k1).trans k2, .slice ea en ec, B8.out.set _, (by rw [HXS.out]; exact own_put1 (own_cols (c := ⟨nm, ty⟩) hown8) _ (by have := HS0.out; omega) 0 _), (BWA.out.grown hgrow8 BWA.out.size (fun j e => by have h7 := (OWA.out.lt j e).1; have := HS0.out; omega)).setCell (p := ⟨w.heap.size, 0, none⟩) (Nat.le_refl _) _⟩
    · go_simp
      go_at_call 51; refine (HIX.out _ (Below.drew BW.out)).mono ?_; rintro e u1 ⟨rfl, rfl⟩; go_wp2_with fail
      refine hK.out _ _ ?_ (fun hHeld2 => ?_)
      · exact trivial
      clear hK K hHeld
      have hHeld := hHeld2
      clear hHeld2
      try simp only [Array.reduceGetElem, Act.put, List.setIfInBounds_toArray, List.set_cons_zero, List.set_cons_succ]
      refine wpAnyH_ready (rs := [0, 5]) (by kernel_rfl) (by simp) ?_
      refine AllReadyH.cons rfl (fun K hK => ?_) (AllReadyH.cons rfl (fun K hK => ?_) AllReadyH.nil)
      · go_simp
        refine hK.out _ _ ?_ (fun hHeld2 => ?_)
        · exact trivial
        clear hK K hHeld
        have hHeld := hHeld2
        clear hHeld2
        try simp only [Array.reduceGetElem, Act.put, List.setIfInBounds_toArray, List.set_cons_zero, List.set_cons_succ]
        refine wpAnyH_ready (rs := [5]) (by kernel_rfl) (by simp) ?_
        refine AllReadyH.cons rfl (fun K hK => ?_) AllReadyH.nil
        go_simp
        refine hK.out _ _ ?_ (fun hHeld2 => ?_)
        · exact trivial
        clear hK K hHeld
        have hHeld := hHeld2
        clear hHeld2
        try simp only [Array.reduceGetElem, Act.put, List.setIfInBounds_toArray, List.set_cons_zero, List.set_cons_succ]
        refine wpAnyH_take (i := 6) (v := ?v5x) rfl (by kernel_rfl) (by kernel_rfl) (by kernel_rfl) (fun _ _ _ h => h) (Or.inl ⟨by rfl, ?hy5x⟩) hHeld ?rest5x
        case hy5x => (intro w hSw; (try dsimp only at hSw); go_simp <;> with_reducible rfl)
        try simp only [Array.reduceGetElem, Act.put, List.setIfInBounds_toArray, List.set_cons_zero, List.set_cons_succ]
        refine wpAnyH_ready (rs := [7]) (by kernel_rfl) (by simp) ?_
        refine AllReadyH.cons rfl (fun K hK => ?_) AllReadyH.nil
        go_simp
        refine hK.out _ _ ?_ (fun hHeld2 => ?_)
        · exact trivial
        clear hK K hHeld
        have hHeld := hHeld2
        clear hHeld2
        have hcc := c4a
        try simp only [Array.reduceGetElem, Act.put, List.setIfInBounds_toArray, List.set_cons_zero, List.set_cons_succ]
        refine wpAnyH_ready (rs := [8]) (by kernel_rfl) (by simp) ?_
        refine AllReadyH.cons rfl (fun K hK => ?_) AllReadyH.nil
        rw [if_pos (by rfl)]
        refine wp_append_own (W1.alloc (.cells #[.string nm, .int .i64 ty] 45)).drew _ _ 24 (by rfl) W0.heap.size 45 i0 _ 2 24 Tryz.underlying24 hi hz0 hz1 hz2 rfl (by decide) v (xs.map cc).length (xs.map cc).flatten (by rfl) OWA.out ⟨W1.heap.size, 0, none⟩ 1 1 [.string nm, .int .i64 ty] (by rfl) (by simp) HNEW.out (by intro u hu; simp at hu; rcases hu with rfl | rfl <;> rfl) (by have := HXL.out; unfold maxLen; rw [List.length_map]; omega) (by have := HXL.out; rw [List.length_map]; omega) HBS.out ?_
        intro v8 w8 hown8 hgrow8 _
        refine hK.out _ _ ?_ (fun hHeld2 => ?_)
        · exact trivial
        clear hK K hHeld
        have hHeld := hHeld2
        clear hHeld2
        obtain ⟨ea, en, ec, rfl⟩ := (OwnC.sh (own_cols (c := ⟨nm, ty⟩) hown8))
        have B8 := Lib.hid ((BOA.out).kept hgrow8 (Boxed.not_row BOA.out (by decide) OWA.out))
        have c8 := B8.out.cell
        have f8 := B8.out.frozen
        try simp only [Array.reduceGetElem, Act.put, List.setIfInBounds_toArray, List.set_cons_zero, List.set_cons_succ]
        refine wpAnyH_ready (rs := [9]) (by kernel_rfl) (by simp) ?_
        refine AllReadyH.cons rfl (fun K hK => ?_) AllReadyH.nil
        go_simp
        refine hK.out _ _ ?_ (fun hHeld2 => ?_)
        · exact trivial
        clear hK K hHeld
        have hHeld := hHeld2
        clear hHeld2
        try simp only [Array.reduceGetElem, Act.put, List.setIfInBounds_toArray, List.set_cons_zero, List.set_cons_succ]
        refine wpAnyH_done (by kernel_rfl) ?_ _
        have NK : ∀ r, SplitKp (w.heap.size + 1) r → r ≠ w.heap.size ∧ r < W0.heap.size := fun r hk => by have := HS0.out; rcases hk with h | h | h | h <;> omega
        have k1 : Keeps W0.heap.size (SplitKp (w.heap.size + 1)) (W1.alloc (.cells #[.string nm, .int .i64 ty] 45)).drew w8 := Keeps.grown hgrow8 (fun k hk => Nat.lt_of_lt_of_le (NK k hk).2 HBS.out) (fun r e hk => by have h7 := (OWA.out.lt r e).1; have h8 := (NK r hk).2; omega) (fun r o e ho => own_isCells OWA.out e ho)
        have k2 : Keeps W0.heap.size (SplitKp (w.heap.size + 1)) w8 (w8.setCell ⟨w.heap.size, 0, none⟩ (.slice ea en ec)) := Keeps.put w8 (fun hk => (NK _ hk).1 rfl) (fun o ho => by have h7 := B8.out; rw [show w8.heap[w.heap.size]? = _ from h7] at ho; cases ho; rfl)
        exact ⟨(KP.out.trans k1).trans k2, .slice ea en ec, B8.out.set _, (by rw [HXS.out]; exact own_put1 (own_cols (c := ⟨nm, ty⟩) hown8) _ (by have := HS0.out; omega) 0 _), (BWA.out.grown hgrow8 BWA.out.size (fun j e => by have h7 := (OWA.out.lt j e).1; have := HS0.out; omega)).setCell (p := ⟨w.heap.size, 0, none⟩) (Nat.le_refl _) _⟩
      · go_simp
        refine hK.out _ _ ?_ (fun hHeld2 => ?_)
        · exact trivial
        clear hK K hHeld
        have hHeld := hHeld2
        clear hHeld2
        try simp only [Array.reduceGetElem, Act.put, List.setIfInBounds_toArray, List.set_cons_zero, List.set_cons_succ]
        refine wpAnyH_take (i := 6) (v := ?v6x) rfl (by kernel_rfl) (by kernel_rfl) (by kernel_rfl) (fun _ _ _ h => h) (Or.inl ⟨by rfl, ?hy6x⟩) hHeld ?rest6x
        case hy6x => (intro w hSw; (try dsimp only at hSw); go_simp <;> with_reducible rfl)
        try simp only [Array.reduceGetElem, Act.put, List.setIfInBounds_toArray, List.set_cons_zero, List.set_cons_succ]
        refine wpAnyH_ready (rs := [0, 7]) (by kernel_rfl) (by simp) ?_
        refine AllReadyH.cons rfl (fun K hK => ?_) (AllReadyH.cons rfl (fun K hK => ?_) AllReadyH.nil)
        · go_simp
          refine hK.out _ _ ?_ (fun hHeld2 => ?_)
          · exact trivial
          clear hK K hHeld
          have hHeld := hHeld2
          clear hHeld2
          try simp only [Array.reduceGetElem, Act.put, List.setIfInBounds_toArray, List.set_cons_zero, List.set_cons_succ]
          refine wpAnyH_ready (rs := [7]) (by kernel_rfl) (by simp) ?_
          refine AllReadyH.cons rfl (fun K hK => ?_) AllReadyH.nil
          go_simp
          refine hK.out _ _ ?_ (fun hHeld2 => ?_)
          · exact trivial
          clear hK K hHeld
          have hHeld := hHeld2
          clear hHeld2
          have hcc := c4a
          try simp only [Array.reduceGetElem, Act.put, List.setIfInBounds_toArray, List.set_cons_zero, List.set_cons_succ]
          refine wpAnyH_ready (rs := [8]) (by kernel_rfl) (by simp) ?_
          refine AllReadyH.cons rfl (fun K hK => ?_) AllReadyH.nil
          rw [if_pos (by rfl)]
          refine wp_append_own (W1.alloc (.cells #[.string nm, .int .i64 ty] 45)).drew _ _ 24 (by rfl) W0.heap.size 45 i0 _ 2 24 Tryz.underlying24 hi hz0 hz1 hz2 rfl (by decide) v (xs.map cc).length (xs.map cc).flatten (by rfl) OWA.out ⟨W1.heap.size, 0, none⟩ 1 1 [.string nm, .int .i64 ty] (by rfl) (by simp) HNEW.out (by intro u hu; simp at hu; rcases hu with rfl | rfl <;> rfl) (by have := HXL.out; unfold maxLen; rw [List.length_map]; omega) (by have := HXL.out; rw [List.length_map]; omega) HBS.out ?_
          intro v8 w8 hown8 hgrow8 _
          refine hK.out _ _ ?_ (fun hHeld2 => ?_)
          · exact trivial
          clear hK K hHeld
          have hHeld := hHeld2
          clear hHeld2
          obtain ⟨ea, en, ec, rfl⟩ := (OwnC.sh (own_cols (c := ⟨nm, ty⟩) hown8))
          have B8 := Lib.hid ((BOA.out).kept hgrow8 (Boxed.not_row BOA.out (by decide) OWA.out))
          have c8 := B8.out.cell
          have f8 := B8.out.frozen
          try simp only [Array.reduceGetElem, Act.put, List.setIfInBounds_toArray, List.set_cons_zero, List.set_cons_succ]
          refine wpAnyH_ready (rs := [9]) (by kernel_rfl) (by simp) ?_
          refine AllReadyH.cons rfl (fun K hK => ?_) AllReadyH.nil
          go_simp
          refine hK.out _ _ ?_ (fun hHeld2 => ?_)
          · exact trivial
          clear hK K hHeld
          have hHeld := hHeld2
          clear hHeld2
          try simp only [Array.reduceGetElem, Act.put, List.setIfInBounds_toArray, List.set_cons_zero, List.set_cons_succ]
          refine wpAnyH_done (by kernel_rfl) ?_ _
          have NK : ∀ r, SplitKp (w.heap.size + 1) r → r ≠ w.heap.size ∧ r < W0.heap.size := fun r hk => by have := HS0.out; rcases hk with h | h | h | h <;> omega
          have k1 : Keeps W0.heap.size (SplitKp (w.heap.size + 1)) (W1.alloc (.cells #[.string nm, .int .i64 ty] 45)).drew w8 := Keeps.grown hgrow8 (fun k hk => Nat.lt_of_lt_of_le (NK k hk).2 HBS.out) (fun r e hk => by have h7 := (OWA.out.lt r e).1; have h8 := (NK r hk).2; omega) (fun r o e ho => own_isCells OWA.out e ho)
          have k2 : Keeps W0.heap.size (SplitKp (w.heap.size + 1)) w8 (w8.setCell ⟨w.heap.size, 0, none⟩ (.slice ea en ec)) := Keeps.put w8 (fun hk => (NK _ hk).1 rfl) (fun o ho => by have h7 := B8.out; rw [show w8.heap[w.heap.size]? = _ from h7] at ho; cases ho; rfl)
          exact ⟨(KP.out.trans k1).trans k2, .slice ea en ec, B8.out.set _, (by rw [HXS.out]; exact own_put1 (own_cols (c := ⟨nm, ty⟩) hown8) _ (by have := HS0.out; omega) 0 _), (BWA.out.grown hgrow8 BWA.out.size (fun j e => by have h7 := (OWA.out.lt j e).1; have := HS0.out; omega)).setCell (p := ⟨w.heap.size, 0, none⟩) (Nat.le_refl _) _⟩
        · go_simp
          refine hK.out _ _ ?_ (fun hHeld2 => ?_)
          · exact trivial
          clear hK K hHeld
          have hHeld := hHeld2
          clear hHeld2
          have hcc := c4a
          try simp only [Array.reduceGetElem, Act.put, List.setIfInBounds_toArray, List.set_cons_zero, List.set_cons_succ]
          refine wpAnyH_ready (rs := [0]) (by kernel_rfl) (by simp) ?_
          refine AllReadyH.cons rfl (fun K hK => ?_) AllReadyH.nil
          go_simp
          refine hK.out _ _ ?_ (fun hHeld2 => ?_)
          · exact trivial
          clear hK K hHeld
          have hHeld := hHeld2
          clear hHeld2
          try simp only [Array.reduceGetElem, Act.put, List.setIfInBounds_toArray, List.set_cons_zero, List.set_cons_succ]
          refine wpAnyH_ready (rs := [8]) (by kernel_rfl) (by simp) ?_
          refine AllReadyH.cons rfl (fun K hK => ?_) AllReadyH.nil
          rw [if_pos (by rfl)]
          refine wp_append_own (W1.alloc (.cells #[.string nm, .int .i64 ty] 45)).drew _ _ 24 (by rfl) W0.heap.size 45 i0 _ 2 24 Tryz.underlying24 hi hz0 hz1 hz2 rfl (by decide) v (xs.map cc).length (xs.map cc).flatten (by rfl) OWA.out ⟨W1.heap.size, 0, none⟩ 1 1 [.string nm, .int .i64 ty] (by rfl) (by simp) HNEW.out (by intro u hu; simp at hu; rcases hu with rfl | rfl <;> rfl) (by have := HXL.out; unfold maxLen; rw [List.length_map]; omega) (by have := HXL.out; rw [List.length_map]; omega) HBS.out ?_
          intro v8 w8 hown8 hgrow8 _
          refine hK.out _ _ ?_ (fun hHeld2 => ?_)
          · exact trivial
          clear hK K hHeld
          have hHeld := hHeld2
          clear hHeld2
          obtain ⟨ea, en, ec, rfl⟩ := (OwnC.sh (own_cols (c := ⟨nm, ty⟩) hown8))
          have B8 := Lib.hid ((BOA.out).kept hgrow8 (Boxed.not_row BOA.out (by decide) OWA.out))
          have c8 := B8.out.cell
          have f8 := B8.out.frozen
          try simp only [Array.reduceGetElem, Act.put, List.setIfInBounds_toArray, List.set_cons_zero, List.set_cons_succ]
          refine wpAnyH_ready (rs := [9]) (by kernel_rfl) (by simp) ?_
          refine AllReadyH.cons rfl (fun K hK => ?_) AllReadyH.nil
          go_simp
          refine hK.out _ _ ?_ (fun hHeld2 => ?_)
          · exact trivial
          clear hK K hHeld
          have hHeld := hHeld2
          clear hHeld2
          try simp only [Array.reduceGetElem, Act.put, List.setIfInBounds_toArray, List.set_cons_zero, List.set_cons_succ]
          refine wpAnyH_done (by kernel_rfl) ?_ _
          have NK : ∀ r, SplitKp (w.heap.size + 1) r → r ≠ w.heap.size ∧ r < W0.heap.size := fun r hk => by have := HS0.out; rcases hk with h | h | h | h <;> omega
          have k1 : Keeps W0.heap.size (SplitKp (w.heap.size + 1)) (W1.alloc (.cells #[.string nm, .int .i64 ty] 45)).drew w8 := Keeps.grown hgrow8 (fun k hk => Nat.lt_of_lt_of_le (NK k hk).2 HBS.out) (fun r e hk => by have h7 := (OWA.out.lt r e).1; have h8 := (NK r hk).2; omega) (fun r o e ho => own_isCells OWA.out e ho)
          have k2 : Keeps W0.heap.size (SplitKp (w.heap.size + 1)) w8 (w8.setCell ⟨w.heap.size, 0, none⟩ (.slice ea en ec)) := Keeps.put w8 (fun hk => (NK _ hk).1 rfl) (fun o ho => by have h7 := B8.out; rw [show w8.heap[w.heap.size]? = _ from h7] at ho; cases ho; rfl)
          exact ⟨(KP.out.trans k1).trans k2, .slice ea en ec, B8.out.set _, (by rw [HXS.out]; exact own_put1 (own_cols (c := ⟨nm, ty⟩) hown8) _ (by have := HS0.out; omega) 0 _), (BWA.out.grown hgrow8 BWA.out.size (fun j e => by have h7 := (OWA.out.lt j e).1; have := HS0.out; omega)).setCell (p := ⟨w.heap.size, 0, none⟩) (Nat.le_refl _) _⟩
  case done =>
    rintro D ys W hD hys ⟨v, b1, o1, bw⟩ hK
    have hcs : (ys.map fun x => colOf x.1.data.toList) = headOf t.data.toList := by
      unfold headOf
      rw [← HX2.out, ← hys, List.map_map]; rfl
    rw [hcs] at o1
    obtain ⟨va, vn, vc, rfl⟩ := o1.sh
    have hbd := head_bd t.data.toList (by rw [← size_list]; exact ht)
    have hat := OwnC.at o1
    have c4 := b1.cell
    have HSW : Hid (∀ V, Below W.heap.size W V → Calls Tryz.prog 34 #[.slice va vn vc] V fun e w' => e = .returned (.string ⟨(showX (headOf t.data.toList)).toArray⟩) ∧ Below V.heap.size V w') := fun V hb => schShow_any _ _ V hbd.1 hbd.2 (hat.below hb) (HE.out.tab.below (two bw hb))
    have BWD := Lib.hid bw
    have HAT := Lib.hid hat
    have HKD := Lib.hid hK
    have B1 := Lib.hid b1
    have hDw : w.heap.size ≤ D := by have := HS0.out; omega
    clear hys hcs o1 hbd hat bw b1 hD
    by_cases h0 : t.size = 0
    · have em := em_size (s := t) (by omega)
      gi_wp2
      refine ⟨trivial, ?_⟩
      gi_wp2
      refine ⟨by simp, .inl ⟨_, _, rfl, run_takeDeferred HKD.out, ?_⟩⟩
      refine ⟨_, results_tmp2 rfl _ _ _, none, 0, 0, 20, rfl, BWD.out.grown (grownBy_putObj' W D _) BWD.out.size (fun k e => by cases e; exact hDw), .inr ⟨rfl, rfl, rfl, rfl, fun h => h.1 (List.length_eq_zero_iff.1 (by rw [← size_list]; exact h0))⟩⟩
    · have em := ne_size (s := t) (by omega)
      obtain ⟨X, hX⟩ : ∃ X : ByteArray, (⟨(showX (headOf t.data.toList)).toArray⟩ : ByteArray) = X := ⟨_, rfl⟩
      rw [hX] at HSW
      have HXX : Hid (showX (headOf t.data.toList) = X.data.toList) := by show _ = _; rw [← hX]
      clear hX
      by_cases hq : X = t
      · subst hq
        have HS2 : Hid (SchemaOf X.data.toList (headOf X.data.toList)) := by
          have h1 := HXX.out
          have hne : X.data.toList ≠ [] := fun e => h0 (by rw [size_list, e]; rfl)
          unfold showX at h1
          split at h1
          · rename_i hc; exact ⟨hne, hc, h1⟩
          · exact absurd h1.symm hne
        gi_wp2_with (refine ⟨trivial, ?_⟩; gi_at_call 34; refine (callsIn_wide.2 (HSW.out _ (Below.refl _ _))).mono ?_; rintro e W3 ⟨rfl, hb3⟩; have c5 := (hb3.cell (by exact lt_of_cell c4)).trans c4)
        have hK3 := (hb3.block D (Array.getElem?_eq_some_iff.1 HKD.out).1).trans HKD.out
        have bw3 := two BWD.out hb3
        refine ⟨by simp, .inl ⟨_, _, rfl, run_takeDeferred hK3, ?_⟩⟩
        refine ⟨_, results_tmp2 rfl _ _ _, va, vn, vc, 0, rfl, bw3.grown (grownBy_putObj' W3 D _) bw3.size (fun k e => by cases e; exact hDw), .inl ⟨rfl, HS2.out, cols_put (HAT.out.below hb3) hK3⟩⟩
      · have hne : (X.toList == t.toList) = false := by
          rw [Lib.toList_data, Lib.toList_data]
          simpa using fun e => hq (Go.WideShapes.bytes_inj e)
        have HQ := Lib.hid hq
        clear hq
        gi_wp2_with (refine ⟨trivial, ?_⟩; gi_at_call 34; refine (callsIn_wide.2 (HSW.out _ (Below.refl _ _))).mono ?_; rintro e W3 ⟨rfl, hb3⟩)
        have hK3 := (hb3.block D (Array.getElem?_eq_some_iff.1 HKD.out).1).trans HKD.out
        have bw3 := two BWD.out hb3
        refine ⟨by simp, .inl ⟨_, _, rfl, run_takeDeferred hK3, ?_⟩⟩
        refine ⟨_, results_tmp2 rfl _ _ _, none, 0, 0, 20, rfl, bw3.grown (grownBy_putObj' W3 D _) bw3.size (fun k e => by cases e; exact hDw), .inr ⟨rfl, rfl, rfl, rfl, fun h => ?_⟩⟩
        refine HQ.out (Go.WideShapes.bytes_inj ?_)
        rw [← HXX.out]
        unfold showX
        rw [if_pos h.2.1]
        exact h.2.2
end Go.Proofs.YtfmjeggomphliaaGreatDoor.Rf
