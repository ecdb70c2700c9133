/- Walks: a text read as a table. -/
import Derived.Test.YtfmjeggomphliaaGreatDoorSchParse
import Derived.Test.YtfmjeggomphliaaGreatDoorCellWalk
import Derived.Test.YtfmjeggomphliaaGreatDoorTextWalk3
import Derived.Test.YtfmjeggomphliaaGreatDoorMakeOwn
import Derived.Test.YtfmjeggomphliaaGreatDoorRowsBd
set_option linter.unusedVariables false
set_option linter.unusedSimpArgs false
namespace Go.Proofs.YtfmjeggomphliaaGreatDoor.Rf
open Go.RowKit Go Go.Sort Ba Tb Va Go.Shelf
attribute [local go_sem] Oper.semAt_some

/-- What the reader's loop keeps. -/
def Inv (w : World) (B : Nat) (rs : List (List Val)) (W : World) : Prop :=
  ∃ bR v hs, bR < B ∧ w.heap.size + 2 ≤ bR ∧ Boxed W bR 25 v ∧ OwnRs W B v hs rs ∧ Box W w.heap.size [.slice none 0 0, .slice none 0 0] ∧ Box W (w.heap.size + 1) [.int .i64 0] ∧ Below w.heap.size w W
def rowF (x : List UInt8) : Option (List Val) := rowOf (Lib.trimSuffix x [10])
def TabParsed (s : List UInt8) (w : World) (e : Ending) (w' : World) : Prop :=
  Below w.heap.size w w' ∧ ((e = .returned (.tuple #[.agg #[.slice none 0 0, .slice none 0 0], .int .i64 20]) ∧ ∀ cs rs, ¬ TableOf s cs rs) ∨
   ∃ cs rs a1 n1 c1 a2 n2 c2, e = .returned (.tuple #[.agg #[.slice a1 n1 c1, .slice a2 n2 c2], .int .i64 0]) ∧ TableOf s cs rs ∧ ColsAt w' (.slice a1 n1 c1) cs ∧ RowsAt w' (.slice a2 n2 c2) rs ∧ BdC cs ∧ BdRs rs)
set_option maxHeartbeats 6400000 in
set_option maxRecDepth 100000 in
/-- The head is none. -/
theorem tabParse_no (s : ByteArray) (w : World) (hs : s.size ≤ 1000000) (hh : (Lib.cut s.data.toList [10]).1.length ≤ 4000) (hE : EnvZ w) (hno : ¬ SchemaOf (Lib.cut s.data.toList [10]).1 (headOf (Lib.cut s.data.toList [10]).1)) :
    Calls Tryz.prog 6 #[.string s] w (TabParsed s.data.toList w) := by
  obtain ⟨hd, tl, fo, hcut⟩ : ∃ (a b : ByteArray) (c : Bool), Lib.cut s.data.toList [10] = (a.data.toList, b.data.toList, c) := ⟨⟨(Lib.cut s.data.toList [10]).1.toArray⟩, ⟨(Lib.cut s.data.toList [10]).2.1.toArray⟩, (Lib.cut s.data.toList [10]).2.2, by simp⟩
  rw [hcut] at hh hno
  simp only at hh hno
  have HE := Lib.hid hE
  have HNT : Hid (∀ cs rs, ¬ TableOf s.data.toList cs rs) := fun cs rs h => by
    obtain ⟨h1, h2, h3, qs, h4, h5, h6, h7⟩ := h
    rw [hcut] at h1 h3
    simp only at h1 h3
    subst h1
    refine hno ⟨fun e => ?_, h2, h3⟩
    rw [e] at h3
    cases h3
  have HCUT : Hid (∀ V, Below w.heap.size w V → Calls Tryz.prog 21 #[.string s, .string ⟨#[10]⟩] V fun e w' => e = .returned (.tuple #[.string hd, .string tl, .bool fo]) ∧ Below V.heap.size V w') := fun V hb => cutz_is s ⟨#[10]⟩ hd tl fo V (by omega) (HE.out.below hb) hcut
  have HSP : Hid (∀ V, Below w.heap.size w V → Calls Tryz.prog 22 #[.string hd] V fun e w' => e = .returned (.tuple #[.slice none 0 0, .int .i64 20]) ∧ Below V.heap.size V w') := fun V hb => by
    refine (schParse_is hd V (by rw [size_list]; exact hh) (HE.out.below hb)).mono ?_
    rintro e w' ⟨ao, n, c, er, he, hb', ⟨_, h, _⟩ | ⟨rfl, rfl, rfl, rfl, _⟩⟩
    · exact absurd h hno
    · exact ⟨he, hb'⟩
  have B1 : Hid (Box ((w.alloc (.cells #[.slice none 0 0, .slice none 0 0] 27)).alloc (.cells #[.int .i64 0] 28)) w.heap.size [.slice none 0 0, .slice none 0 0]) := (Box.new w _ _).alloc _
  have B2 : Hid (Box ((w.alloc (.cells #[.slice none 0 0, .slice none 0 0] 27)).alloc (.cells #[.int .i64 0] 28)) (w.heap.size + 1) [.int .i64 0]) := by
    have := Box.new (w.alloc (.cells #[.slice none 0 0, .slice none 0 0] 27)) [.int .i64 0] 28
    simp only [World.size_alloc] at this
    exact this
  have bw : Hid (Below w.heap.size w ((w.alloc (.cells #[.slice none 0 0, .slice none 0 0] 27)).alloc (.cells #[.int .i64 0] 28))) := ((Below.refl _ w).alloc (Nat.le_refl _) _).alloc (by simp) _
  clear hcut hno hh hE
  go_enter Tryz.func6, Tryz.ntmps6
  go_wp2_with fail
  generalize (w.alloc (.cells #[.slice none 0 0, .slice none 0 0] 27)).alloc (.cells #[.int .i64 0] 28) = W0 at *
  go_wp2_with (first | (go_at_call 21; refine (HCUT.out _ bw.out).mono ?_; rintro e w1 ⟨rfl, hb1⟩) | (go_at_call 22; refine (HSP.out _ (two bw.out hb1)).mono ?_; rintro e w2 ⟨rfl, hb2⟩; obtain ⟨y0, y1, f0, f1⟩ := ((B1.out.next hb1).next hb2).two; have z0 := ((B2.out.next hb1).next hb2).cl 0 _ rfl; have g0 := ((B2.out.next hb1).next hb2).fr 0 (by simp); have y1' := (World.cell?_setCell_other w2 ⟨w.heap.size, 0, none⟩ ⟨w.heap.size, 1, none⟩ (.slice none 0 0) (by intro e; simp only [Addr.mk.injEq] at e; omega)).trans y1; have R1 := (((B1.out.next hb1).next hb2).put 0 (.slice none 0 0)).put 1 (.slice none 0 0); have R2 := ((((B2.out.next hb1).next hb2).other (C := w.heap.size) (by omega) 0 (.slice none 0 0)).other (C := w.heap.size) (by omega) 1 (.slice none 0 0)); have z2 := R2.cl 0 _ rfl; have g2 := R2.fr 0 (by simp)))
  obtain ⟨q0, q1, _, _⟩ := (R1.other (C := w.heap.size + 1) (by omega) 0 (.int .i64 20)).two
  have q2 := (R2.put 0 (.int .i64 20)).cl 0 _ rfl
  refine bodyPost_ret (by simp [results, Tryz.results6, go_sem, q0, q1, q2]; try rfl) rfl ?_
  exact ⟨(((two (two bw.out hb1) hb2).setCell (p := ⟨w.heap.size, 0, none⟩) (Nat.le_refl _) _).setCell (p := ⟨w.heap.size, 1, none⟩) (Nat.le_refl _) _).setCell (p := ⟨w.heap.size + 1, 0, none⟩) (by simp) _, .inl ⟨rfl, HNT.out⟩⟩
theorem newc (V : World) (o : Obj) (cs : Array Value) {t : TypeId} : ∀ (j : Nat) (u : Value), cs.toList[j]? = some u → ((V.alloc o).alloc (.cells cs t)).cell? ((⟨V.heap.size + 1, 0, none⟩ : Addr).add j) = some u := fun j u hj => by
  rw [Addr.add_lit, Nat.zero_add, World.cell?_alloc_at _ _ _ _ (by simp)]
  simpa using hj
theorem newc0 (V : World) (cs : Array Value) {t : TypeId} : ∀ (j : Nat) (u : Value), cs.toList[j]? = some u → (V.alloc (.cells cs t)).cell? ((⟨V.heap.size, 0, none⟩ : Addr).add j) = some u := fun j u hj => by
  rw [Addr.add_lit, Nat.zero_add, World.cell?_alloc_at _ _ _ _ rfl]
  simpa using hj
theorem box_isCells {V : World} {B : Nat} {vs : List Value} {o : Obj} (h : Box V B vs) (hl : 0 < vs.length) (ho : V.heap[B]? = some o) : o.isCells = true := by
  have h1 := h.cl 0 (vs[0]) (List.getElem?_eq_getElem hl)
  unfold World.cell? at h1
  simp only [ho] at h1
  cases o <;> first | rfl | (simp at h1)
theorem own_vals {W : World} {base : Nat} {v : Value} {r : List Val} {x : Val} (h : W.ownsRow base 47 3 v (r.length + 1) ((r.map vc).flatten ++ [.int .i64 x.k, .int .i64 x.n, .string x.t])) : OwnR W base v (r ++ [x]) := by
  unfold OwnR
  rw [List.map_append, List.flatten_append, List.length_append]
  simpa [vc] using h
theorem drop_at {α : Type} {l : List α} {k : Nat} {x : α} (h : l[k]? = some x) : l.drop k = x :: l.drop (k + 1) := by
  obtain ⟨hk, e⟩ := List.getElem?_eq_some_iff.1 h
  rw [List.drop_eq_getElem_cons hk, e]
theorem all_pre {α β : Type} {f : α → Option β} : ∀ {xs ys : List α}, allOf f xs = none → allOf f (xs ++ ys) = none
  | [], _, h => by cases h
  | x :: xs, ys, h => by
    unfold allOf at h
    rw [List.cons_append]
    unfold allOf
    cases hx : f x with
    | none => rfl
    | some y =>
      rw [hx] at h
      simp only at h ⊢
      cases hxs : allOf f xs with
      | none => rw [all_pre hxs]
      | some zs => rw [hxs] at h; cases h
theorem all_len {α β : Type} {f : α → Option β} : ∀ {xs : List α} {ys : List β}, allOf f xs = some ys → ys.length = xs.length
  | [], ys, h => by simp only [allOf, Option.some.injEq] at h; rw [← h]; rfl
  | x :: xs, ys, h => by
    unfold allOf at h
    cases hx : f x with
    | none => rw [hx] at h; cases h
    | some y =>
      rw [hx] at h
      simp only at h
      cases hxs : allOf f xs with
      | none => rw [hxs] at h; cases h
      | some zs =>
        rw [hxs] at h
        simp only [Option.some.injEq] at h
        rw [← h, List.length_cons, List.length_cons, all_len hxs]
theorem cells_len (l : List UInt8) : (cellsL l).length ≤ l.length + 1 := by
  unfold cellsL
  have := cgo_len l l.length
  rw [List.length_append]
  simp only [List.length_cons, List.length_nil]
  omega
theorem cgo_le (l : List UInt8) : ∀ k, ∀ x ∈ (cgo l k).out, x.length ≤ l.length
  | 0, x, h => by cases h
  | k + 1, x, h => by
    have ih := cgo_le l k
    cases hc : l[k]? with
    | none =>
      have e : cgo l (k + 1) = cgo l k := by
        show (match l[k]? with | some c => cstep l (cgo l k) k c | none => cgo l k) = _
        rw [hc]
      rw [e] at h; exact ih x h
    | some c =>
      rw [cgo_at hc] at h
      unfold cstep at h
      split at h
      · exact ih x h
      · split at h
        · exact ih x h
        · split at h
          · exact ih x h
          · split at h
            · rcases List.mem_append.1 h with h | h
              · exact ih x h
              · have e := List.mem_singleton.1 h
                rw [e, List.length_drop, List.length_take]; omega
            · exact ih x h
theorem cells_le {l x : List UInt8} (h : x ∈ cellsL l) : x.length ≤ l.length := by
  unfold cellsL at h
  rcases List.mem_append.1 h with h | h
  · exact cgo_le l _ x h
  · have e := List.mem_singleton.1 h
    rw [e, List.length_drop]; omega
theorem ownRs_kept {W W' : World} {base r : Nat} {v : Value} {hs : List Value} {rs : List (List Val)} (h : OwnRs W base v hs rs) (hg : W.grownBy W' (some r)) (hr : r < base ∨ ∃ o, W.heap[r]? = some o ∧ o.isCells = false) : OwnRs W' base v hs rs :=
  ⟨h.len, own_kept h.row hg hr, fun i x y a b => own_kept (h.at' i x y a b) hg hr⟩
theorem Box.keptR {W W' : World} {B r : Nat} {vs : List Value} (h : Box W B vs) (hg : W.grownBy W' (some r)) (hne : r ≠ B) : Box W' B vs :=
  ⟨Nat.lt_of_lt_of_le h.lt hg.size, fun i v hi => (cell_same (hg.block B h.lt (fun e => hne (Option.some.inj e).symm))).trans (h.cl i v hi), fun i hi => by
    have e : W'.frozen? ⟨B, i, none⟩ = W.frozen? ⟨B, i, none⟩ := by unfold World.frozen?; simp only [hg.block B h.lt (fun e => hne (Option.some.inj e).symm)]
    exact e.trans (h.fr i hi)⟩
set_option maxHeartbeats 6400000 in
set_option maxRecDepth 100000 in
theorem tabParse_yes (s : ByteArray) (w : World) (hs : s.size ≤ 1000000) (hh : (Lib.cut s.data.toList [10]).1.length ≤ 4000) (hln : ∀ x ∈ linesL (Lib.cut s.data.toList [10]).2.1, x.length ≤ 4000) (hnn : (linesL (Lib.cut s.data.toList [10]).2.1).length ≤ 10000) (hE : EnvZ w) (hyes : SchemaOf (Lib.cut s.data.toList [10]).1 (headOf (Lib.cut s.data.toList [10]).1)) :
    Calls Tryz.prog 6 #[.string s] w (TabParsed s.data.toList w) := by
  obtain ⟨hd, tl, fo, hcut⟩ : ∃ (a b : ByteArray) (c : Bool), Lib.cut s.data.toList [10] = (a.data.toList, b.data.toList, c) := ⟨⟨(Lib.cut s.data.toList [10]).1.toArray⟩, ⟨(Lib.cut s.data.toList [10]).2.1.toArray⟩, (Lib.cut s.data.toList [10]).2.2, by simp⟩
  have htl : tl.size ≤ 1000000 := by
    have h1 : (Lib.cut s.data.toList [10]).2.1.length ≤ s.data.toList.length := by
      unfold Lib.cut
      split
      · simp only [List.length_drop]; omega
      · exact Nat.zero_le _
    rw [hcut] at h1
    have h2 : tl.data.toList.length ≤ s.data.toList.length := h1
    rw [← size_list, ← size_list] at h2
    omega
  have HC := Lib.hid hcut
  rw [hcut] at hh hyes hln hnn
  simp only at hh hyes hln hnn
  have HE := Lib.hid hE
  have HY := Lib.hid hyes
  have HLN := Lib.hid hln
  have HNN := Lib.hid hnn
  have HCUT : Hid (∀ V, Below w.heap.size w V → Calls Tryz.prog 21 #[.string s, .string ⟨#[10]⟩] V fun e w' => e = .returned (.tuple #[.string hd, .string tl, .bool fo]) ∧ Below V.heap.size V w') := fun V hb => cutz_is s ⟨#[10]⟩ hd tl fo V (by omega) (HE.out.below hb) hcut
  have HSP : Hid (∀ V, Below w.heap.size w V → Calls Tryz.prog 22 #[.string hd] V fun e w' => ∃ ao n c, e = .returned (.tuple #[.slice ao n c, .int .i64 0]) ∧ ColsAt w' (.slice ao n c) (headOf hd.data.toList) ∧ Below V.heap.size V w') := fun V hb => by
    refine (schParse_is hd V (by rw [size_list]; exact hh) (HE.out.below hb)).mono ?_
    rintro e w' ⟨ao, n, c, er, he, hb', ⟨rfl, _, h⟩ | ⟨_, _, _, _, h⟩⟩
    · exact ⟨ao, n, c, he, h, hb'⟩
    · exact absurd hyes h
  have B1 : Hid (Box ((w.alloc (.cells #[.slice none 0 0, .slice none 0 0] 27)).alloc (.cells #[.int .i64 0] 28)) w.heap.size [.slice none 0 0, .slice none 0 0]) := (Box.new w _ _).alloc _
  have B2 : Hid (Box ((w.alloc (.cells #[.slice none 0 0, .slice none 0 0] 27)).alloc (.cells #[.int .i64 0] 28)) (w.heap.size + 1) [.int .i64 0]) := by
    have := Box.new (w.alloc (.cells #[.slice none 0 0, .slice none 0 0] 27)) [.int .i64 0] 28
    simp only [World.size_alloc] at this
    exact this
  have bw : Hid (Below w.heap.size w ((w.alloc (.cells #[.slice none 0 0, .slice none 0 0] 27)).alloc (.cells #[.int .i64 0] 28))) := ((Below.refl _ w).alloc (Nat.le_refl _) _).alloc (by simp) _
  clear hcut hyes hh hE hln hnn
  refine (callsIn_wide (n := 4)).1 ?_
  refine callsIn_of_wp_marks Tryz.func6 rfl trivial ?_ rfl
  simp only [Tryz.ntmps6, List.size_toArray, List.length_cons, List.length_nil, Nat.reduceAdd, Nat.reduceSub, Array.replicate_succ, Array.replicate_zero, List.push_toArray, List.append_toArray, List.nil_append, List.cons_append]
  gi_wp2_with fail
  generalize (w.alloc (.cells #[.slice none 0 0, .slice none 0 0] 27)).alloc (.cells #[.int .i64 0] 28) = Wa at *
  gi_wp2_with (first | (refine ⟨trivial, ?_⟩; gi_at_call 21; refine (callsIn_wide.2 (HCUT.out _ bw.out)).mono ?_; rintro e w1 ⟨rfl, hb1⟩) | (refine ⟨trivial, ?_⟩; gi_at_call 22; refine (callsIn_wide.2 (HSP.out _ (two bw.out hb1))).mono ?_; rintro e w2 ⟨ca, cn, cc', rfl, hcs, hb2⟩) | (refine ⟨trivial, ?_⟩; gi_at_call 23; refine (callsIn_wide.2 (lines_is _ _)).mono ?_; rintro e v1 ⟨rfl, rfl⟩))
  have B3 : Hid (Boxed ((w2.alloc (.cells #[.slice none 0 0] 25)).alloc (.cells #[.string tl] 9)) w2.heap.size 25 (.slice none 0 0)) := (Boxed.new w2 _ _).alloc _
  have B4 : Hid (StrAt (w2.heap.size + 1) tl ((w2.alloc (.cells #[.slice none 0 0] 25)).alloc (.cells #[.string tl] 9))) := by
    have := Boxed.new (w2.alloc (.cells #[.slice none 0 0] 25)) 9 (.string tl)
    simp only [World.size_alloc] at this
    exact this
  have b2a : Below w2.heap.size w2 ((w2.alloc (.cells #[.slice none 0 0] 25)).alloc (.cells #[.string tl] 9)) := ((Below.refl _ w2).alloc (Nat.le_refl _) _).alloc (by simp) _
  have hz : ((w2.alloc (.cells #[.slice none 0 0] 25)).alloc (.cells #[.string tl] 9)).heap.size = w2.heap.size + 2 := by simp
  generalize (w2.alloc (.cells #[.slice none 0 0] 25)).alloc (.cells #[.string tl] 9) = W0 at *
  have CS2 := Lib.hid hcs
  have B2A := Lib.hid b2a
  have R1 := Lib.hid (((B1.out.next hb1).next hb2).next b2a)
  have R2 := Lib.hid (((B2.out.next hb1).next hb2).next b2a)
  have BW0 := Lib.hid (two (two (two bw.out hb1) hb2) b2a)
  have hw2 : w.heap.size + 2 ≤ w2.heap.size := by have h1 := ((B2.out.next hb1).next hb2).lt; omega
  have HZ := Lib.hid hz
  obtain ⟨b9, hb9⟩ : ∃ b, w2.heap.size = b := ⟨_, rfl⟩
  have HB9 := Lib.hid hb9
  rw [hb9] at B3 B4 HZ hw2 ⊢
  clear hcs hb1 hb2 b2a hz B1 B2 bw HCUT HSP hb9
  refine wpIn_range (n := 4) (gf := 52) (lb := #[.pointer (some ⟨b9 + 1, 0, none⟩)]) (by rfl) (enters_of Tryz.func52 (by kernel_rfl) rfl)
    (lines_seq (b9 + 1) tl htl HLN.out HNN.out) (fun W hk => (hk _ rfl).trans B4.out) (by rw [HZ.out]; omega) (fun k hk => by have := HZ.out; have hk' : k = b9 + 1 := hk; omega) (fun _ => rfl)
    (fun pre W => ∃ v hs rs, Boxed W b9 25 v ∧ OwnRs W W0.heap.size v hs rs ∧ allOf rowF (pre.map fun x => x.1.data.toList) = some rs ∧ Box W w.heap.size [.slice none 0 0, .slice none 0 0] ∧ Box W (w.heap.size + 1) [.int .i64 0] ∧ Below w.heap.size w W ∧ Below w2.heap.size w2 W)
    (fun pre W => allOf rowF (pre.map fun x => x.1.data.toList) = none ∧ Box W w.heap.size [.slice none 0 0, .slice none 0 0] ∧ Box W (w.heap.size + 1) [.int .i64 20] ∧ Below w.heap.size w W) ?hI ?hIx ⟨_, [], [], B3.out, ⟨rfl, World.ownsRow_nil _ _ _ _, fun i h r hx => by simp at hx⟩, rfl, R1.out, R2.out, BW0.out, B2A.out⟩ ?a1 ?assign ?body ?done ?stop
  case assign =>
    intro l x W K hK
    gi_wp2
    exact hK
  case hI =>
    rintro pre W W' r ⟨v, hs, rs, h1, h2, h3, h4, h5, h6, h8⟩ hg hr
    have hs := HZ.out
    have hr' : r < W0.heap.size ∨ ∃ o, W.heap[r]? = some o ∧ o.isCells = false := by
      rcases hr with rfl | ⟨_, h⟩
      · exact .inl (by omega)
      · exact .inr h
    have hrb : b9 < r := by rcases hr with h | ⟨h, _⟩ <;> omega
    exact ⟨v, _, rs, h1.kept hg (by intro e; have := Option.some.inj e; omega), ownRs_kept h2 hg hr', h3, Box.keptR h4 hg (by omega), Box.keptR h5 hg (by omega), h6.grown hg h6.size (fun k e => by have := Option.some.inj e; omega), h8.grown hg h8.size (fun k e => by have := Option.some.inj e; have := HB9.out; omega)⟩
  case hIx =>
    rintro pre W W' r ⟨h3, h4, h5, h6⟩ hg hr
    have hs := HZ.out
    have hrb : b9 < r := by rcases hr with h | ⟨h, _⟩ <;> omega
    exact ⟨h3, Box.keptR h4 hg (by omega), Box.keptR h5 hg (by omega), h6.grown hg h6.size (fun k e => by have := Option.some.inj e; omega)⟩
  case body =>
    rintro l pre x W ⟨v, hs, rs, h1, h2, h3, h4, h5, h6, h8⟩ hsz hN
    obtain ⟨tr, htr⟩ : ∃ tr : ByteArray, tr.data.toList = Lib.trimSuffix x.1.data.toList [10] := ⟨⟨(Lib.trimSuffix x.1.data.toList [10]).toArray⟩, by simp⟩
    have htz : tr.size ≤ 4000 := by
      rw [size_list, htr]
      have h7 := Lib.trimSuffix_le x.1.data.toList [10]
      have h8 := x.2
      rw [size_list] at h8
      omega
    have HTR := Lib.hid htr
    have HTS : Hid (∀ V, Calls Tryz.prog 25 #[.string x.1, .string ⟨#[10]⟩] V fun e w' => e = .returned (.string tr) ∧ V = w') := fun V => (Tryz.strings_TrimSuffix x.1 ⟨#[10]⟩ V (by have := x.2; omega)).mono fun e w' ⟨he, hw⟩ => ⟨by rw [he]; show Ending.returned (.string ⟨(Lib.trimSuffix x.1.data.toList [10]).toArray⟩) = _; rw [← htr, list_eta], hw.symm⟩
    have INV : Hid (∀ V, Below W.heap.size W V → Boxed V b9 25 v ∧ OwnRs V W0.heap.size v hs rs ∧ Box V w.heap.size [.slice none 0 0, .slice none 0 0] ∧ Box V (w.heap.size + 1) [.int .i64 0] ∧ Below w.heap.size w V ∧ Below w2.heap.size w2 V) := fun V hb => ⟨h1.kept (grown_of hb none) (by simp), h2.below hb, h4.next hb, h5.next hb, two h6 hb, two h8 hb⟩
    have ALL := Lib.hid h3
    have HSZ := Lib.hid hsz
    have HXN := Lib.hid hN
    have hlr : rs.length ≤ 10000 := by have := all_len h3; rw [this, List.length_map]; omega
    clear htr h1 h2 h3 h4 h5 h6 h8 hsz hN
    gi_wp2_with (first | (refine ⟨trivial, ?_⟩; gi_at_call 25; refine (CallsIn.inRound l (callsIn_wide.2 (HTS.out _))).mono ?_; rintro e V1 ⟨rfl, rfl⟩) | (refine ⟨trivial, ?_⟩; gi_at_call 24; refine (CallsIn.inRound l (callsIn_wide.2 (cells_is tr _ (by omega)))).mono ?_; rintro e W1 ⟨xa, _, xc, xs, rfl, hown, hxs, rfl, hb1⟩))
    have OWN := Lib.hid hown
    have HXS := Lib.hid hxs
    have hxb : xs.length ≤ 4001 := by have h7 := congrArg List.length hxs; rw [List.length_map] at h7; rw [h7]; have h8 := cells_len tr.data.toList; rw [← size_list] at h8; omega
    clear hown hxs
    obtain ⟨i0, hi, hz0, hz1, hz2⟩ := info_parts infoVal
    gi_loopw [11, 38] (fun rw' i wr => ∃ (k : Nat) (r : List Val), k ≤ xs.length ∧ i = .int .i64 k ∧ Hid (r.length = k) ∧ Hid (OwnR wr W1.heap.size rw' r) ∧ Hid (allOf Tb.valOf ((xs.map fun x => x.data.toList).take k) = some r) ∧ Hid (Below W.heap.size W wr) ∧ Hid (Below W1.heap.size W1 wr)) (fun rw' i _ => xs.length - (intOf i).toNat)
    case atStart => exact ⟨0, [], Nat.zero_le _, rfl, rfl, World.ownsRow_nil _ _ _ _, rfl, hb1, Below.refl _ _⟩
    case round =>
      obtain ⟨k, r, hk, rfl, HRL, HOR, HAL, BWr, BW1⟩ := hrel
      by_cases hlt : k < xs.length
      · obtain ⟨y, hy⟩ : ∃ y, xs[k]? = some y := ⟨_, List.getElem?_eq_getElem hlt⟩
        have hym : y.data.toList ∈ cellsL tr.data.toList := by rw [← HXS.out]; exact List.mem_map.2 ⟨y, List.mem_of_getElem? hy, rfl⟩
        have hyz : y.size ≤ 4000 := by rw [size_list]; have h7 := cells_le hym; rw [← size_list tr] at h7; omega
        obtain ⟨g, gc, eg, _, _, hgl, hcells⟩ := own_shape OWN.out (by omega)
        injection eg with eg1 eg2 eg3
        subst eg1
        have hc := (BW1.out.cell (p := ⟨g, k, none⟩) hgl).trans (hcells k (.string y) (by rw [List.getElem?_map, hy]; rfl))
        have hyx : (xs.map fun x => x.data.toList)[k]? = some y.data.toList := by rw [List.getElem?_map, hy]; rfl
        have HYX := Lib.hid hyx
        clear hcells eg2 eg3 hyx hy hym
        cases hvo : Tb.valOf y.data.toList with
        | none =>
          have HVO := Lib.hid hvo
          have HVP : Hid (Calls Tryz.prog 26 #[.string y] wr fun e w' => e = .returned (.tuple #[.agg #[.int .i64 0, .int .i64 0, .string ⟨#[]⟩], .int .i64 20]) ∧ Below wr.heap.size wr w') := parse_is y 0 0 ⟨#[]⟩ 20 wr (val_none hvo) (by omega) (HE.out.below (INV.out wr BWr.out).2.2.2.2.1).tab.val (HE.out.below (INV.out wr BWr.out).2.2.2.2.1).errs
          clear hvo
          gi_wp2_with (refine ⟨trivial, ?_⟩; gi_at_call 26; refine (CallsIn.inRound l (callsIn_wide.2 HVP.out)).mono ?_; rintro e V2 ⟨rfl, hb2⟩; obtain ⟨_, _, i3, i4, i5, _⟩ := INV.out (V2.alloc (.cells #[.int .i64 0, .int .i64 0, .string ⟨#[]⟩] 47)) (two (two BWr.out hb2) (bal _ _)); obtain ⟨y0, y1, f0, f1⟩ := i3.two; have y1' := (World.cell?_setCell_other (V2.alloc (.cells #[.int .i64 0, .int .i64 0, .string ⟨#[]⟩] 47)) ⟨w.heap.size, 0, none⟩ ⟨w.heap.size, 1, none⟩ (.slice none 0 0) (by intro e; simp only [Addr.mk.injEq] at e; omega)).trans y1; have R2 := ((i4.other (C := w.heap.size) (by omega) 0 (.slice none 0 0)).other (C := w.heap.size) (by omega) 1 (.slice none 0 0)); have z2 := R2.cl 0 _ rfl; have g2 := R2.fr 0 (by simp))
          obtain ⟨q0, q1, _, _⟩ := ((i3.put 0 (.slice none 0 0)).put 1 (.slice none 0 0)).two
          have hsx := HSZ.out
          have hz9 := HZ.out
          have bv := two (two BWr.out hb2) (bal V2 (.cells #[.int .i64 0, .int .i64 0, .string ⟨#[]⟩] 47))
          have hlow : ∀ C, C < b9 → ¬ (fun k => k = b9 + 1) C := fun C hC e => by have e' : C = b9 + 1 := e; omega
          have bxc : ∀ {V : World} {B : Nat} {vs : List Value}, Box V B vs → 0 < vs.length → ∀ o, V.heap[B]? = some o → o.isCells = true := fun h hl o ho => box_isCells h hl ho
          have kk := (((Keeps.below (B := W0.heap.size) (Kp := fun k => k = b9 + 1) bv (fun k hk => by have e' : k = b9 + 1 := hk; omega)).trans (Keeps.put _ (C := w.heap.size) (i := 0) (v := .slice none 0 0) (hlow _ (by omega)) (bxc i3 (by decide)))).trans (Keeps.put _ (C := w.heap.size) (i := 1) (v := .slice none 0 0) (hlow _ (by omega)) (bxc (i3.put 0 (.slice none 0 0)) (by decide)))).trans (Keeps.put _ (C := w.heap.size + 1) (i := 0) (v := .int .i64 20) (hlow _ (by omega)) (bxc R2 (by decide)))
          refine ⟨kk, ?_, ((i3.put 0 (.slice none 0 0)).put 1 (.slice none 0 0)).other (C := w.heap.size + 1) (by omega) 0 (.int .i64 20), R2.put 0 (.int .i64 20), ((i5.setCell (p := ⟨w.heap.size, 0, none⟩) (Nat.le_refl _) _).setCell (p := ⟨w.heap.size, 1, none⟩) (Nat.le_refl _) _).setCell (p := ⟨w.heap.size + 1, 0, none⟩) (by simp) _⟩
          rw [List.map_append, List.map_cons, List.map_nil]
          refine all_none ?_
          unfold rowF rowOf
          rw [← HTR.out, ← HXS.out]
          have e9 : (xs.map fun x => x.data.toList) = (xs.map fun x => x.data.toList).take k ++ y.data.toList :: (xs.map fun x => x.data.toList).drop (k + 1) := by
            rw [← drop_at HYX.out, List.take_append_drop]
          rw [e9]
          exact all_none HVO.out
        | some v' =>
          have HVO := Lib.hid hvo
          obtain ⟨vk, vn, vt⟩ := v'
          have HVP : Hid (Calls Tryz.prog 26 #[.string y] wr fun e w' => e = .returned (.tuple #[.agg #[.int .i64 vk, .int .i64 vn, .string vt], .int .i64 0]) ∧ Below wr.heap.size wr w') := parse_is y vk vn vt 0 wr (val_some hvo) (by omega) (HE.out.below (INV.out wr BWr.out).2.2.2.2.1).tab.val (HE.out.below (INV.out wr BWr.out).2.2.2.2.1).errs
          clear hvo
          gi_wp2_with (first | (refine ⟨trivial, ?_⟩; gi_at_call 26; refine (CallsIn.inRound l (callsIn_wide.2 HVP.out)).mono ?_; rintro e V2 ⟨rfl, hb2⟩; have hrow2 := (((HOR.out.below hb2).below (bal V2 (.cells #[.int .i64 vk, .int .i64 vn, .string vt] 47))).below (bal (V2.alloc (.cells #[.int .i64 vk, .int .i64 vn, .string vt] 47)) (.cells #[.int .i64 vk, .int .i64 vn, .string vt] 47))); have hsz2 := hb2.size; have hsz3 := BW1.out.size) | (gi_at_builtin; refine wpListIn_append_own ((V2.alloc (.cells #[.int .i64 vk, .int .i64 vn, .string vt] 47)).alloc (.cells #[.int .i64 vk, .int .i64 vn, .string vt] 47)) rfl _ _ 49 rfl W1.heap.size 47 i0 _ 3 32 Tryz.underlying49 hi hz0 hz1 hz2 rfl (by decide) u11 r.length (r.map vc).flatten rfl hrow2 ⟨V2.heap.size + 1, 0, none⟩ 1 1 [.int .i64 vk, .int .i64 vn, .string vt] rfl rfl (newc V2 _ _) (by intro u hu; simp at hu; rcases hu with rfl | rfl | rfl <;> rfl) (by have := HRL.out; unfold maxLen; omega) (by have := HRL.out; omega) (by simp; omega) ?_; intro v9 W9 hown9 hgrow9 _))
          have bv := two (two hb2 (bal V2 (.cells #[.int .i64 vk, .int .i64 vn, .string vt] 47))) (bal (V2.alloc (.cells #[.int .i64 vk, .int .i64 vn, .string vt] 47)) (.cells #[.int .i64 vk, .int .i64 vn, .string vt] 47))
          have hs1 := hb1.size
          have b1n := (two BW1.out bv).grown hgrow9 (two BW1.out bv).size (fun j e => (HOR.out.lt j e).1)
          have bwn := (two BWr.out bv).grown hgrow9 (two BWr.out bv).size (fun j e => Nat.le_trans hs1 (HOR.out.lt j e).1)
          have on : Hid (OwnR W9 W1.heap.size v9 (r ++ [⟨vk, vn, vt⟩])) := own_vals hown9
          have hal : Hid (allOf Tb.valOf ((xs.map fun x => x.data.toList).take (k + 1)) = some (r ++ [⟨vk, vn, vt⟩])) := by show _ = _; rw [take_one _ k _ HYX.out]; exact all_snoc HAL.out HVO.out
          go_roundw
          case rel => exact ⟨k + 1, _, by omega, by go_num, (by show _ = _; rw [List.length_append, HRL.out]; rfl), on.out, hal.out, bwn, b1n⟩
          case measure => simp [intOf]; omega
      · have hkx : k = xs.length := by omega
        subst hkx
        obtain ⟨i1, i2, i3, i4, i5, i6⟩ := INV.out wr BWr.out
        obtain ⟨ra, rn, rc, rfl⟩ := OwnR.sh HOR.out
        obtain ⟨j0, hj, jz0, jz1, jz2⟩ := info_parts infoRow
        have hsx := HSZ.out
        have hz9 := HZ.out
        have hs1 := hb1.size
        have hsr := BWr.out.size
        have i1a := i1.alloc (.cells #[.slice ra rn rc] 49)
        have i2a := i2.below (bal wr (.cells #[.slice ra rn rc] 49))
        have hlh := i2.len
        have c9 := i1.cell
        gi_wp2_with (gi_at_builtin; refine wpListIn_append_own (wr.alloc (.cells #[.slice ra rn rc] 49)) rfl _ _ 25 rfl W0.heap.size 49 j0 _ 1 24 Tryz.underlying25 hj jz0 jz1 jz2 rfl (by decide) v hs.length hs rfl i2a.row ⟨wr.heap.size, 0, none⟩ 1 1 [.slice ra rn rc] rfl rfl (newc0 wr _) (by intro u hu; simp at hu; subst hu; rfl) (by unfold maxLen; omega) (by omega) (by simp; omega) ?_; intro v9 W9 hown9 hgrow9 _; obtain ⟨ea, ec, rfl⟩ := own_open hown9; have i1b := i1a.kept hgrow9 (Boxed.not_row i1a (by decide) i2a.row); have c9b := i1b.cell; have f9b := i1b.frozen)
        have hh : OwnR (wr.alloc (.cells #[.slice ra rn rc] 49)) W0.heap.size (.slice ra rn rc) r := (HOR.out.base (by omega)).below (bal _ _)
        have orr := i2a.snoc hh hgrow9 (by have h7 := hown9; simpa using h7)
        have ow9 : ∀ j, v.ownBlock = some j → W0.heap.size ≤ j := fun j e => (i2a.row.lt j e).1
        have bt9 := Tb.Box.kept (i3.alloc (.cells #[.slice ra rn rc] 49)) hgrow9 (fun e => by have := ow9 _ e.symm; omega)
        have be9 := Tb.Box.kept (i4.alloc (.cells #[.slice ra rn rc] 49)) hgrow9 (fun e => by have := ow9 _ e.symm; omega)
        have bw9 := (two i5 (bal wr (.cells #[.slice ra rn rc] 49))).grown hgrow9 (two i5 (bal wr (.cells #[.slice ra rn rc] 49))).size (fun j e => by have := ow9 j e; omega)
        have bz9 := (two i6 (bal wr (.cells #[.slice ra rn rc] 49))).grown hgrow9 (two i6 (bal wr (.cells #[.slice ra rn rc] 49))).size (fun j e => by have := ow9 j e; have := HB9.out; omega)
        have kk := ((Keeps.below (B := W0.heap.size) (Kp := fun k => k = b9 + 1) (two BWr.out (bal wr (.cells #[.slice ra rn rc] 49))) (fun k hk => by have e' : k = b9 + 1 := hk; omega)).trans (Keeps.grown hgrow9 (fun k hk => by have e' : k = b9 + 1 := hk; simp; omega) (fun q e hk => by have e' : q = b9 + 1 := hk; have := ow9 q e; omega) (fun q o e ho => own_isCells i2a.row e ho))).trans (Keeps.put W9 (C := b9) (i := 0) (v := .slice ea (hs.length + 1) ec) (fun hk => by have e' : b9 = b9 + 1 := hk; omega) (fun o ho => by have h7 := i1b; rw [show W9.heap[b9]? = _ from h7] at ho; cases ho; rfl))
        rw [hlh] at kk orr
        refine ⟨kk, _, _, rs ++ [r], i1b.set _, ownRs_kept orr (put_grown W9 b9 _) (.inl (by omega)), ?_, Box.keptR bt9 (put_grown W9 b9 _) (by omega), Box.keptR be9 (put_grown W9 b9 _) (by omega), bw9.setCell (p := ⟨b9, 0, none⟩) (by show w.heap.size ≤ b9; omega) _, bz9.setCell (p := ⟨b9, 0, none⟩) (Nat.le_of_eq HB9.out) _⟩
        rw [List.map_append, List.map_cons, List.map_nil]
        refine all_snoc ALL.out ?_
        unfold rowF rowOf
        rw [← HTR.out, ← HXS.out]
        have h7 := HAL.out
        rw [List.take_of_length_le (by rw [List.length_map]; exact Nat.le_refl _)] at h7
        exact h7
  case done =>
    rintro D xs W hD hxs ⟨v, hs, rs, h1, h2, h3, h4, h5, h6, h8⟩ hK
    rw [hxs] at h3
    have HRS : Hid (rowsOf tl.data.toList = some rs) := h3
    have hsz9 := HZ.out
    have h9 := h1.cell
    have hck : chk (headOf hd.data.toList) = 0 := HY.out.2.1
    have HBC := Lib.hid (bdC_of hck)
    have HBR := Lib.hid (rows_bd HRS.out (fun t x h => cells_le h) cells_len all_len all_len HNN.out HLN.out)
    have CSW : Hid (ColsAt W (.slice ca cn cc') (headOf hd.data.toList)) := CS2.out.below h8
    have OR := Lib.hid h2
    have E1 := Lib.hid h4
    have E2 := Lib.hid h5
    have BW := Lib.hid h6
    clear h2 h3 h4 h5 h6 h8 hxs hck
    have D1 : D < W.heap.size := by rcases Nat.lt_or_ge D W.heap.size with h | h; exact h; rw [getElem?_neg (h := by omega)] at hK; cases hK
    by_cases he0 : err (headOf hd.data.toList) rs = 0
    · have HMK := Lib.hid (make_own _ _ _ _ W HBC.out HBR.out CSW.out OR.out.at he0)
      have bsr : BdRs (sortR rs) := brSort HBR.out
      have HBS := Lib.hid bsr
      have HET := Lib.hid (errT_sort he0)
      obtain ⟨X, hX⟩ : ∃ X : ByteArray, X = ⟨(showT (headOf hd.data.toList) (sortR rs)).toArray⟩ := ⟨_, rfl⟩
      have HXX := Lib.hid hX
      have HSH : Hid (∀ V a1 n1 c1 a2 n2 c2, Below w.heap.size w V → ColsAt V (.slice a1 n1 c1) (headOf hd.data.toList) → RowsAt V (.slice a2 n2 c2) (sortR rs) → Calls Tryz.prog 13 #[.agg #[.slice a1 n1 c1, .slice a2 n2 c2]] V fun e w' => e = .returned (.string X) ∧ Below V.heap.size V w') := fun V a1 n1 c1 a2 n2 c2 hb hc hr => by rw [HXX.out]; exact tshow_is _ _ _ _ V HBC.out HBS.out hc hr (HE.out.tab.below hb) HET.out
      clear hX bsr
      by_cases hXs : X = s
      · have hne : (!X.toList == s.toList) = false := by subst hXs; simp
        gi_wp2_with (first | (refine ⟨trivial, ?_⟩; gi_at_call 17; refine (callsIn_wide.2 HMK.out).mono ?_; rintro e V1 ⟨bs9, a1, n1, c1, a2, n2, c2, hbs, rfl, ho1, ho2, hb1⟩; have hb1' := two hb1 (bal V1 (.cells #[.slice a1 n1 c1, .slice a2 n2 c2] 27)); have ho1' := ho1.below (bal V1 (.cells #[.slice a1 n1 c1, .slice a2 n2 c2] 27)); have ho2' := ho2.below (bal V1 (.cells #[.slice a1 n1 c1, .slice a2 n2 c2] 27))) | (refine ⟨trivial, ?_⟩; gi_at_call 13; refine (callsIn_wide.2 (HSH.out _ _ _ _ _ _ _ (two BW.out hb1') ho1'.at ho2'.at)).mono ?_; rintro e V2 ⟨rfl, hb2⟩; have hbb := two hb1' hb2; have b16 := ((Box.new V1 [.slice a1 n1 c1, .slice a2 n2 c2] 27).next hb2).two; obtain ⟨x0, x1, _, _⟩ := b16; have i3 := E1.out.next hbb; have i4 := E2.out.next hbb; have i5 := two BW.out hbb; have hK1 := (hbb.block D D1).trans hK; obtain ⟨y0, y1, f0, f1⟩ := i3.two; have y1' := (World.cell?_setCell_other V2 ⟨w.heap.size, 0, none⟩ ⟨w.heap.size, 1, none⟩ (.slice a1 n1 c1) (by intro e; simp only [Addr.mk.injEq] at e; omega)).trans y1; have R2 := ((i4.other (C := w.heap.size) (by omega) 0 (.slice a1 n1 c1)).other (C := w.heap.size) (by omega) 1 (.slice a2 n2 c2)); have z2 := R2.cl 0 _ rfl; have g2 := R2.fr 0 (by simp)))
        obtain ⟨q0, q1, _, _⟩ := ((i3.put 0 (.slice a1 n1 c1)).put 1 (.slice a2 n2 c2)).other (C := w.heap.size + 1) (by omega) 0 (.int .i64 0) |>.two
        have q2 := (R2.put 0 (.int .i64 0)).cl 0 _ rfl
        have hwb : w.heap.size + 1 < bs9 := by omega
        have p1 := own_put1 (own_put1 (own_put1 (ho1'.below hb2) w.heap.size (by omega) 0 (.slice a1 n1 c1)) w.heap.size (by omega) 1 (.slice a2 n2 c2)) (w.heap.size + 1) hwb 0 (.int .i64 0)
        have p2 := Rows'.put1 (Rows'.put1 (Rows'.put1 (ho2'.below hb2) w.heap.size (by omega) 0 (.slice a1 n1 c1)) w.heap.size (by omega) 1 (.slice a2 n2 c2)) (w.heap.size + 1) hwb 0 (.int .i64 0)
        have i6 := ((i5.setCell (p := ⟨w.heap.size, 0, none⟩) (Nat.le_refl _) (.slice a1 n1 c1)).setCell (p := ⟨w.heap.size, 1, none⟩) (Nat.le_refl _) (.slice a2 n2 c2)).setCell (p := ⟨w.heap.size + 1, 0, none⟩) (by simp) (.int .i64 0)
        have hK2 : (((V2.setCell ⟨w.heap.size, 0, none⟩ (.slice a1 n1 c1)).setCell ⟨w.heap.size, 1, none⟩ (.slice a2 n2 c2)).setCell ⟨w.heap.size + 1, 0, none⟩ (.int .i64 0)).heap[D]? = some (.deferred (some [])) := by
          rw [Below.heap_setCell _ _ _ _ (by show D ≠ w.heap.size + 1; omega), Below.heap_setCell _ _ _ _ (by show D ≠ w.heap.size; omega), Below.heap_setCell _ _ _ _ (by show D ≠ w.heap.size; omega)]
          exact hK1
        generalize ((V2.setCell ⟨w.heap.size, 0, none⟩ (.slice a1 n1 c1)).setCell ⟨w.heap.size, 1, none⟩ (.slice a2 n2 c2)).setCell ⟨w.heap.size + 1, 0, none⟩ (.int .i64 0) = V3 at *
        have q0' := (cell_same (o := 0) (World.putObj_heap_other (w := V3) (r := D) (o := .deferred none) (k := w.heap.size) (by omega))).trans q0
        have q1' := (cell_same (o := 1) (World.putObj_heap_other (w := V3) (r := D) (o := .deferred none) (k := w.heap.size) (by omega))).trans q1
        have q2' := (cell_same (o := 0) (World.putObj_heap_other (w := V3) (r := D) (o := .deferred none) (k := w.heap.size + 1) (by omega))).trans q2
        refine ⟨by simp, .inl ⟨_, _, rfl, run_takeDeferred hK2, ?_⟩⟩
        refine ⟨_, by simp [results, Tryz.results6, go_sem, q0', q1', q2'], i6.grown (grownBy_putObj' V3 D _) i6.size (fun k e => by have := Option.some.inj e; omega), .inr ⟨headOf hd.data.toList, sortR rs, a1, n1, c1, a2, n2, c2, rfl, ?_, OwnC.at (own_putObj p1 hK2), Tb.Rows'.at (Rows'.keptD p2 hK2), HBC.out, HBS.out⟩⟩
        refine ⟨by rw [HC.out], HY.out.2.1, by rw [HC.out]; exact HY.out.2.2, rs, by rw [HC.out]; exact HRS.out, he0, rfl, ?_⟩
        rw [← hXs, HXX.out]
      · have hne : (!X.toList == s.toList) = true := by
          have : (X.toList == s.toList) = false := by
            rw [Lib.toList_data, Lib.toList_data]
            simpa using fun e => hXs (Go.WideShapes.bytes_inj e)
          rw [this]; rfl
        have hno : ∀ cs rs, ¬ TableOf s.data.toList cs rs := fun cs rs' h => by
          obtain ⟨h3, _, _, qs, h5, h6, h7, h8⟩ := h
          rw [HC.out] at h5 h3
          simp only at h5 h3
          rw [HRS.out] at h5
          cases h5
          rw [h3, h7] at h8
          exact hXs (by rw [HXX.out, h8])
        have HNO := Lib.hid hno
        clear hno
        gi_wp2_with (first | (refine ⟨trivial, ?_⟩; gi_at_call 17; refine (callsIn_wide.2 HMK.out).mono ?_; rintro e V1 ⟨bs9, a1, n1, c1, a2, n2, c2, hbs, rfl, ho1, ho2, hb1⟩; have hb1' := two hb1 (bal V1 (.cells #[.slice a1 n1 c1, .slice a2 n2 c2] 27)); have ho1' := ho1.below (bal V1 (.cells #[.slice a1 n1 c1, .slice a2 n2 c2] 27)); have ho2' := ho2.below (bal V1 (.cells #[.slice a1 n1 c1, .slice a2 n2 c2] 27))) | (refine ⟨trivial, ?_⟩; gi_at_call 13; refine (callsIn_wide.2 (HSH.out _ _ _ _ _ _ _ (two BW.out hb1') ho1'.at ho2'.at)).mono ?_; rintro e V2 ⟨rfl, hb2⟩; have hbb := two hb1' hb2; have b16 := ((Box.new V1 [.slice a1 n1 c1, .slice a2 n2 c2] 27).next hb2).two; obtain ⟨x0, x1, _, _⟩ := b16; have i3 := E1.out.next hbb; have i4 := E2.out.next hbb; have i5 := two BW.out hbb; have hK1 := (hbb.block D D1).trans hK; obtain ⟨y0, y1, f0, f1⟩ := i3.two; have y1' := (World.cell?_setCell_other V2 ⟨w.heap.size, 0, none⟩ ⟨w.heap.size, 1, none⟩ (.slice none 0 0) (by intro e; simp only [Addr.mk.injEq] at e; omega)).trans y1; have R2 := ((i4.other (C := w.heap.size) (by omega) 0 (.slice none 0 0)).other (C := w.heap.size) (by omega) 1 (.slice none 0 0)); have z2 := R2.cl 0 _ rfl; have g2 := R2.fr 0 (by simp)))
        obtain ⟨q0, q1, _, _⟩ := ((i3.put 0 (.slice none 0 0)).put 1 (.slice none 0 0)).other (C := w.heap.size + 1) (by omega) 0 (.int .i64 20) |>.two
        have q2 := (R2.put 0 (.int .i64 20)).cl 0 _ rfl
        have i6 := ((i5.setCell (p := ⟨w.heap.size, 0, none⟩) (Nat.le_refl _) (.slice none 0 0)).setCell (p := ⟨w.heap.size, 1, none⟩) (Nat.le_refl _) (.slice none 0 0)).setCell (p := ⟨w.heap.size + 1, 0, none⟩) (by simp) (.int .i64 20)
        have hK2 : (((V2.setCell ⟨w.heap.size, 0, none⟩ (.slice none 0 0)).setCell ⟨w.heap.size, 1, none⟩ (.slice none 0 0)).setCell ⟨w.heap.size + 1, 0, none⟩ (.int .i64 20)).heap[D]? = some (.deferred (some [])) := by
          rw [Below.heap_setCell _ _ _ _ (by show D ≠ w.heap.size + 1; omega), Below.heap_setCell _ _ _ _ (by show D ≠ w.heap.size; omega), Below.heap_setCell _ _ _ _ (by show D ≠ w.heap.size; omega)]
          exact hK1
        generalize ((V2.setCell ⟨w.heap.size, 0, none⟩ (.slice none 0 0)).setCell ⟨w.heap.size, 1, none⟩ (.slice none 0 0)).setCell ⟨w.heap.size + 1, 0, none⟩ (.int .i64 20) = V3 at *
        have q0' := (cell_same (o := 0) (World.putObj_heap_other (w := V3) (r := D) (o := .deferred none) (k := w.heap.size) (by omega))).trans q0
        have q1' := (cell_same (o := 1) (World.putObj_heap_other (w := V3) (r := D) (o := .deferred none) (k := w.heap.size) (by omega))).trans q1
        have q2' := (cell_same (o := 0) (World.putObj_heap_other (w := V3) (r := D) (o := .deferred none) (k := w.heap.size + 1) (by omega))).trans q2
        refine ⟨by simp, .inl ⟨_, _, rfl, run_takeDeferred hK2, ?_⟩⟩
        exact ⟨_, by simp [results, Tryz.results6, go_sem, q0', q1', q2'], i6.grown (grownBy_putObj' V3 D _) i6.size (fun k e => by have := Option.some.inj e; omega), .inl ⟨rfl, HNO.out⟩⟩
    · have HMK := Lib.hid (make_no _ _ _ _ W _ HBC.out HBR.out CSW.out OR.out.at rfl he0)
      have hno : ∀ cs rs, ¬ TableOf s.data.toList cs rs := fun cs rs h => by
        obtain ⟨h3, _, _, qs, h5, h6, _⟩ := h
        rw [HC.out] at h5 h3
        simp only at h5 h3
        rw [HRS.out] at h5
        cases h5
        rw [h3] at h6
        exact he0 h6
      have HNO := Lib.hid hno
      clear hno
      gi_wp2_with (refine ⟨trivial, ?_⟩; gi_at_call 17; refine (callsIn_wide.2 HMK.out).mono ?_; rintro e V1 ⟨rfl, hb1⟩; obtain ⟨y0, y1, f0, f1⟩ := (E1.out.next hb1).two)
      have hbb := two hb1 (bal V1 (.cells #[.slice none 0 0, .slice none 0 0] 27))
      have i3 := E1.out.next hbb
      have i4 := E2.out.next hbb
      have i5 := two BW.out hbb
      have hK1 := (hbb.block D D1).trans hK
      refine ⟨trivial, ?_⟩
      clear hbb
      generalize V1.alloc (.cells #[.slice none 0 0, .slice none 0 0] 27) = V2 at *
      clear y0 y1 f0 f1
      obtain ⟨y0, y1, f0, f1⟩ := i3.two
      have y1' := (World.cell?_setCell_other V2 ⟨w.heap.size, 0, none⟩ ⟨w.heap.size, 1, none⟩ (.slice none 0 0) (by intro e; simp only [Addr.mk.injEq] at e; omega)).trans y1
      have R2 := ((i4.other (C := w.heap.size) (by omega) 0 (.slice none 0 0)).other (C := w.heap.size) (by omega) 1 (.slice none 0 0))
      have z2 := R2.cl 0 _ rfl
      have g2 := R2.fr 0 (by simp)
      gi_wp2
      obtain ⟨q0, q1, _, _⟩ := ((i3.put 0 (.slice none 0 0)).put 1 (.slice none 0 0)).other (C := w.heap.size + 1) (by omega) 0 (.int .i64 20) |>.two
      have q2 := (R2.put 0 (.int .i64 20)).cl 0 _ rfl
      have i6 := ((i5.setCell (p := ⟨w.heap.size, 0, none⟩) (Nat.le_refl _) (.slice none 0 0)).setCell (p := ⟨w.heap.size, 1, none⟩) (Nat.le_refl _) (.slice none 0 0)).setCell (p := ⟨w.heap.size + 1, 0, none⟩) (by simp) (.int .i64 20)
      have hK2 : (((V2.setCell ⟨w.heap.size, 0, none⟩ (.slice none 0 0)).setCell ⟨w.heap.size, 1, none⟩ (.slice none 0 0)).setCell ⟨w.heap.size + 1, 0, none⟩ (.int .i64 20)).heap[D]? = some (.deferred (some [])) := by
        rw [Below.heap_setCell _ _ _ _ (by show D ≠ w.heap.size + 1; omega), Below.heap_setCell _ _ _ _ (by show D ≠ w.heap.size; omega), Below.heap_setCell _ _ _ _ (by show D ≠ w.heap.size; omega)]
        exact hK1
      generalize ((V2.setCell ⟨w.heap.size, 0, none⟩ (.slice none 0 0)).setCell ⟨w.heap.size, 1, none⟩ (.slice none 0 0)).setCell ⟨w.heap.size + 1, 0, none⟩ (.int .i64 20) = V3 at *
      have q0' := (cell_same (o := 0) (World.putObj_heap_other (w := V3) (r := D) (o := .deferred none) (k := w.heap.size) (by omega))).trans q0
      have q1' := (cell_same (o := 1) (World.putObj_heap_other (w := V3) (r := D) (o := .deferred none) (k := w.heap.size) (by omega))).trans q1
      have q2' := (cell_same (o := 0) (World.putObj_heap_other (w := V3) (r := D) (o := .deferred none) (k := w.heap.size + 1) (by omega))).trans q2
      refine ⟨by simp, .inl ⟨_, _, rfl, run_takeDeferred hK2, ?_⟩⟩
      exact ⟨_, by simp [results, Tryz.results6, go_sem, q0', q1', q2'], i6.grown (grownBy_putObj' V3 D _) i6.size (fun k e => by have := Option.some.inj e; omega), .inl ⟨rfl, HNO.out⟩⟩
  case stop =>
    rintro D pre W hD ⟨rest, hrest⟩ ⟨h1, h2, h3, h4⟩ hK
    have hz9 := HZ.out
    have hno : ∀ cs rs, ¬ TableOf s.data.toList cs rs := fun cs rs h => by
      obtain ⟨_, _, _, qs, h5, _⟩ := h
      rw [HC.out] at h5
      simp only at h5
      have h5' : allOf rowF (linesL tl.data.toList) = some qs := h5
      rw [← hrest] at h5'
      rw [all_pre h1] at h5'
      cases h5'
    have q0 := (cell_same (o := 0) (World.putObj_heap_other (w := W) (r := D) (o := .deferred none) (k := w.heap.size) (by omega))).trans h2.two.1
    have q1 := (cell_same (o := 1) (World.putObj_heap_other (w := W) (r := D) (o := .deferred none) (k := w.heap.size) (by omega))).trans h2.two.2.1
    have q2 := (cell_same (o := 0) (World.putObj_heap_other (w := W) (r := D) (o := .deferred none) (k := w.heap.size + 1) (by omega))).trans (h3.cl 0 _ rfl)
    have HNO := Lib.hid hno
    clear hno hrest h1
    gi_wp2
    refine ⟨by simp, .inl ⟨_, _, rfl, run_takeDeferred hK, ?_⟩⟩
    refine ⟨_, by simp [results, Tryz.results6, go_sem, q0, q1, q2], h4.grown (grownBy_putObj' W D _) (by have := h4.size; simp; omega) (fun k e => by have := Option.some.inj e; omega), .inl ⟨rfl, HNO.out⟩⟩
end Go.Proofs.YtfmjeggomphliaaGreatDoor.Rf
