/- Walks: the fixed answer; the partitions of a scheme. -/
import Derived.Test.YtkapkfddbdgmoaaDoorSchWalk4
set_option linter.unusedVariables false
set_option linter.unusedSimpArgs false
namespace Go.Proofs.YtkapkfddbdgmoaaDoor.Sc
open Go.RowKit Go Go.Sort Ba
open Cal hiding ret_int ret_bool lt_of_cell

theorem weekly_show : showB 3 0 3 = ⟨#[119, 101, 101, 107, 108, 121, 32, 48, 46, 46, 51]⟩ := by decide +kernel
theorem parse_weekly (w : World) (hE : EnvS w) :
    Calls Tryd.prog 21 #[.string ⟨#[119, 101, 101, 107, 108, 121, 32, 48, 46, 46, 51]⟩] w fun e w' => e = .returned (.tuple #[.agg #[.int .i64 3, .int .i64 0, .int .i64 3], .int .i64 0]) ∧ Below w.heap.size w w' := by
  refine (parse_any _ w (by decide) hE).mono ?_
  rintro e w' ⟨k, f, l, er, hr, rfl, hb⟩
  have hr' : Reads (showB (3 : Int).toNat 0 3).data.toList k f l er := by rw [show (3 : Int).toNat = 3 from rfl, weekly_show]; exact hr
  obtain ⟨rfl, rfl, rfl, rfl⟩ := reads_show (k := 3) (f := 0) (l := 3) (by decide +kernel) hr'
  exact ⟨rfl, hb⟩
set_option maxHeartbeats 400000 in
theorem awake_any (w : World) (hE : EnvS w) :
    Calls Tryd.prog 17 #[] w fun e w' => e = .returned (.bool true) ∧ Below w.heap.size w w' := by
  have HE := Lib.hid hE
  clear hE
  go_enter Tryd.func17, Tryd.ntmps17
  go_wp2_with fail
  refine (parse_weekly _ HE.out).mono ?_
  rintro e w1 ⟨rfl, b1⟩
  have V := Box.new w1 [.int .i64 3, .int .i64 0, .int .i64 3] 23
  have b2 := b1.alloc b1.size (.cells #[.int .i64 3, .int .i64 0, .int .i64 3] 23)
  go_wp2_with fail
  refine (window_is 3 0 3 0 2880 12960 0 _ (HE.out.below b2).len (by decide) (by decide) (.inr (.inr ⟨by decide, by decide, by decide, by decide, rfl⟩))).mono ?_
  rintro e w3 ⟨rfl, hb⟩
  have V := V.next hb
  have b3 := two b2 hb
  clear hb
  obtain ⟨x0, x1, x2, p0, p1, p2⟩ := V.three
  go_wp2_with fail
  refine (count_is 3 0 3 4 _ (by decide) (by decide) (by decide) (by decide)).mono ?_
  rintro e w4 ⟨rfl, hb⟩
  have b4 := two b3 hb
  clear hb x0 x1 x2 p0 p1 p2
  go_wp2_with fail
  go_ret
  exact ⟨rfl, b4⟩

/-- The partitions from one to another. -/
def partsL (f : Int) (n : Nat) : List Int := (List.range n).map fun (j : Nat) => f + (j : Int)
theorem parts_len (f : Int) (n : Nat) : (partsL f n).length = n := by simp [partsL]
theorem parts_snoc (f : Int) (n : Nat) : partsL f (n + 1) = partsL f n ++ [f + n] := by simp [partsL, List.range_succ]
theorem parts_at (f : Int) (n j : Nat) (h : j < n) : (partsL f n)[j]? = some (f + j) := by
  simp [partsL, h]
/-- A slice of ints that the call has made. -/
def Ints (L : List Int) (w : World) (e : Ending) (w' : World) : Prop := ∃ v, e = .returned v ∧ w'.ownsRow w.heap.size 3 1 v L.length (L.map (Value.int .i64)) ∧ Below w.heap.size w w'
theorem info_int : (Tryd.prog.info? 3).map (fun i => (i.zero, i.size, i.bytes)) = some (some (.int .i64 0), 1, 8) := by kernel_rfl
/-- 'append(out, x)', out a row of ints of the call's own. -/
theorem app_int {P : Program} {ops : Array Oper} {rest : List Oper} {o : Oper} {a : Act} {Q : Exit → Act → World → Prop} {w : World} (hgd : o.guard = none) (s x : Operand) (t e : TypeId)
    (ho : o.op = .call { callee := .builtin .append, args := #[s, x], argTypes := #[t, t] }) {i : TypeInfo} (ht : P.underlying t = some (.slice e)) (hi : P.info? e = some i) (hz : i.zero = some (.int .i64 0)) (hsize : i.size = 1) (hby : i.bytes = 8)
    (base : Nat) (v : Value) (L : List Int) (n : Nat) (c : Int) (hn : n = L.length) (hs : a.eval s = v) (hown : w.ownsRow base e 1 v n (L.map (Value.int .i64))) (hx : a.eval x = .slice (some ⟨w.heap.size, 0, none⟩) 1 1)
    (hlen : n + 1 ≤ 1000000) (hbase : base ≤ w.heap.size)
    (h : ∀ v' w', w'.ownsRow base e 1 v' (n + 1) ((L ++ [c]).map (Value.int .i64)) → w.grownBy w' v.ownBlock → wpList P ops Q rest (a.put o.dst v') w') :
    wpList P ops Q (o :: rest) a (w.alloc (.cells #[.int .i64 c] e)) := by
  refine wpList_append_own (w.alloc (.cells #[.int .i64 c] e)) hgd s x t ho base e i (.int .i64 0) 1 8 ht hi hz hsize hby rfl (by decide) v n (L.map (Value.int .i64)) hs (hown.alloc _) ⟨w.heap.size, 0, none⟩ 1 1 [.int .i64 c] hx rfl ?_ ?_ ?_ ?_ ?_ ?_
  · intro j u hj
    match j, hj with
    | 0, hj => simp at hj; subst hj; simp [Addr.add]
  · intro u hu; simp at hu; subst hu; rfl
  · unfold maxLen; omega
  · omega
  · simp only [World.size_alloc]; omega
  · intro v' w' h1 h2 _
    refine h v' w' ?_ ⟨h2.os, h2.tape, h2.output, ?_, fun k hk hne => ?_⟩
    · rw [List.map_append]; exact h1
    · have := h2.size; simp only [World.size_alloc] at this; omega
    · rw [h2.block k (by simp only [World.size_alloc]; omega) hne, Below.heap_alloc w _ k hk]
theorem ownsRow_lower {w : World} {b b' : Nat} {e : TypeId} {size : Nat} {v : Value} {n : Nat} {xs : List Value} (h : w.ownsRow b e size v n xs) (hb : b' ≤ b) : w.ownsRow b' e size v n xs := by
  obtain ⟨h1, h2⟩ := h
  refine ⟨h1, ?_⟩
  rcases h2 with h2 | ⟨g, cap, cur, rfl, hg, r⟩
  · exact .inl h2
  · exact .inr ⟨g, cap, cur, rfl, Nat.le_trans hb hg, r⟩
set_option maxHeartbeats 800000 in
theorem parts_is (k f l : Int) (w : World) (h0 : 0 ≤ f) (h1 : f ≤ l) (h2 : l - f < 512) (h3 : l ≤ 2147483648) :
    Calls Tryd.prog 24 #[.agg #[.int .i64 k, .int .i64 f, .int .i64 l]] w (Ints (partsL f (l - f + 1).toNat) w) := by
  obtain ⟨i0, hi, hz0, hz1, hz2⟩ := info_parts info_int
  have V := Box.new w [.int .i64 k, .int .i64 f, .int .i64 l] 23
  have b0 : Below w.heap.size w (w.alloc (.cells #[.int .i64 k, .int .i64 f, .int .i64 l] 23)) := by go_grown
  go_enter Tryd.func24, Tryd.ntmps24
  go_wp2_with fail
  go_loopw [3, 4] (fun v i wr => ∃ n : Nat, (n : Int) ≤ l - f + 1 ∧ i = .int .i64 (f + n) ∧ wr.ownsRow (w.heap.size + 1) 3 1 v n ((partsL f n).map (Value.int .i64)) ∧ Box wr w.heap.size [.int .i64 k, .int .i64 f, .int .i64 l] ∧ Below w.heap.size w wr)
    (fun _ i _ => (l + 1 - intOf i).toNat)
  case atStart => exact ⟨0, by omega, by simp, World.ownsRow_nil _ _ _ _, V, b0⟩
  case round =>
    clear V b0
    obtain ⟨n, hn, rfl, hown, V, hbel⟩ := hrel
    obtain ⟨x0, x1, x2, p0, p1, p2⟩ := V.three
    have hlt0 := V.lt
    have HB := Lib.hid hbel
    clear hbel
    by_cases hlt : f + n ≤ l
    · have HOWN := Lib.hid hown
      clear hown
      have hs1 : w.heap.size + 1 ≤ wr.heap.size := hlt0
      go_wp2_with (at_builtin; refine app_int rfl (.tmp 13) (.tmp 15) 40 3 rfl Tryd.underlying40 hi hz0 hz1 hz2 (w.heap.size + 1) u3 (partsL f n) n (f + n) ?_ ?_ HOWN.out ?_ ?_ ?_ ?_; exact (parts_len f n).symm; rfl; rfl; omega; omega; intro v1 w1 hown1 hg1)
      have c1 := grown_below (Below.refl (w.heap.size + 1) wr) HOWN.out hg1 (Nat.le_refl _) hs1
      have c2 := grown_below HB.out HOWN.out hg1 (Nat.le_succ _) (by omega)
      have V1 := V.below c1 (Nat.lt_succ_self _)
      go_roundw
      case rel => exact ⟨n + 1, by omega, by go_num, by rw [parts_snoc]; exact hown1, V1, c2⟩
      case measure => simp [intOf]; omega
    · have hn2 : n = (l - f + 1).toNat := by omega
      have HOWN := Lib.hid hown
      clear hown
      have HN := Lib.hid hn2
      clear hn2
      go_wp2_with fail
      go_ret
      refine ⟨_, rfl, ?_, HB.out⟩
      rw [parts_len, ← HN.out]
      exact ownsRow_lower HOWN.out (Nat.le_succ _)
end Go.Proofs.YtkapkfddbdgmoaaDoor.Sc
