/- Walks: the library's DeleteFunc on the partitions of a scheme; Scheme.Within. -/
import Derived.Test.YtkapkfddbdgmoaaDoorSchWithin
set_option linter.unusedVariables false
set_option linter.unusedSimpArgs false
namespace Go.Proofs.YtkapkfddbdgmoaaDoor.Wi
open Go.RowKit Go Go.Sort Ba Sc
open Cal hiding ret_int ret_bool lt_of_cell

/-- The row while elements go: those that stay ahead of K, those that are not looked at behind s. -/
structure Row (q : Int → Bool) (f : Int) (n s : Nat) (vs : List Value) : Prop where
  len : vs.length = n
  done : ∀ (u : Nat) (x : Int), ((partsL f s).filter q)[u]? = some x → vs[u]? = some (Value.int .i64 x)
  rest : ∀ (u : Nat), s ≤ u → u < n → vs[u]? = some (Value.int .i64 (f + u))
theorem Row.skip {q : Int → Bool} {f : Int} {n s : Nat} {vs : List Value} (h : Row q f n s vs) (hq : q (f + s) = false) : Row q f n (s + 1) vs :=
  ⟨h.len, fun u x hx => by
    rw [parts_snoc, List.filter_append, List.filter_cons_of_neg (by rw [hq]; simp), List.filter_nil, List.append_nil] at hx
    exact h.done u x hx, fun u h1 h2 => h.rest u (by omega) h2⟩
theorem Row.keep {q : Int → Bool} {f : Int} {n s : Nat} {vs : List Value} (h : Row q f n s vs) (hs : s < n) (hq : q (f + s) = true) : Row q f n (s + 1) (vs.set ((partsL f s).filter q).length (Value.int .i64 (f + s))) := by
  have hle : ((partsL f s).filter q).length ≤ s := filt_le
  refine ⟨by rw [List.length_set]; exact h.len, fun u x hx => ?_, fun u h1 h2 => ?_⟩
  · rw [parts_snoc, List.filter_append, List.filter_cons_of_pos hq, List.filter_nil] at hx
    by_cases hu : u < ((partsL f s).filter q).length
    · rw [List.getElem?_append_left hu] at hx
      rw [List.getElem?_set_ne (by omega)]
      exact h.done u x hx
    · rw [List.getElem?_append_right (by omega)] at hx
      by_cases he : u = ((partsL f s).filter q).length
      · subst he
        rw [Nat.sub_self] at hx
        have hx' : f + (s : Int) = x := by simpa using hx
        subst hx'
        rw [List.getElem?_set_self (by rw [h.len]; omega)]
      · rw [show u - ((partsL f s).filter q).length = (u - ((partsL f s).filter q).length - 1) + 1 by omega] at hx
        simp at hx
  · rw [List.getElem?_set_ne (by omega)]
    exact h.rest u (by omega) h2
theorem Row.start (q : Int → Bool) (f : Int) (n r : Nat) (hr : r < n) (h0 : ∀ t, t < r → q (f + t) = true) (h1 : q (f + r) = false) : Row q f n (r + 1) ((partsL f n).map (Value.int .i64)) ∧ ((partsL f (r + 1)).filter q).length = r := by
  have hall : (partsL f r).filter q = partsL f r := List.filter_eq_self.2 fun x hx => by
    simp only [partsL, List.mem_map, List.mem_range] at hx
    obtain ⟨t, ht, rfl⟩ := hx
    exact h0 t ht
  have hone : (partsL f (r + 1)).filter q = partsL f r := by
    rw [parts_snoc, List.filter_append, hall, List.filter_cons_of_neg (by rw [h1]; simp), List.filter_nil, List.append_nil]
  refine ⟨⟨by simp [parts_len], fun u x hx => ?_, fun u _ h2 => by rw [List.getElem?_map, parts_at f n u h2]; rfl⟩, by rw [hone, parts_len]⟩
  rw [hone] at hx
  have hu : u < r := by rw [← parts_len f r]; exact (List.getElem?_eq_some_iff.1 hx).1
  rw [parts_at f r u hu] at hx
  cases hx
  rw [List.getElem?_map, parts_at f n u (by omega)]; rfl
theorem zero_int (w : World) : (zeroValue 3).run Tryd.prog w = .ok (.int .i64 0) w := by
  kernel_rfl
set_option maxRecDepth 20000 in
set_option maxHeartbeats 3200000 in
theorem delete_is (k f l a b : Int) (n cap : Nat) (q : Int → Bool) (g sB aB bB : Nat) (w0 w : World) (T : Three w sB aB bB k f l a b) (G : Box w g ((partsL f n).map (Value.int .i64))) (f0 : 0 ≤ f) (h1 : f + n ≤ 2147483648) (hcap : n ≤ cap) (hcap2 : cap ≤ maxLen)
    (hL0 : Len w0) (hb0 : Below w0.heap.size w0 w) (hg : w0.heap.size ≤ g) (hs : sB ≠ g) (ha : aB ≠ g) (hbB : bB ≠ g)
    (hp : ∀ t : Nat, t < n → decide (startV k (f + t) < a ∨ b < startV k (f + t + 1)) = !q (f + t)) :
    Calls Tryd.prog 49 #[.slice (some ⟨g, 0, none⟩) n cap, .func (.func 50) #[] #[.pointer (some ⟨sB, 0, none⟩), .pointer (some ⟨aB, 0, none⟩), .pointer (some ⟨bB, 0, none⟩)]] w (Told ((partsL f n).filter q) w0) := by
  have HT := Lib.hid T
  have HG := Lib.hid G
  have HP := Lib.hid hp
  have HL0 := Lib.hid hL0
  have HB0 := Lib.hid hb0
  have HGE := Lib.hid hg
  have HNE := Lib.hid (And.intro hs (And.intro ha hbB))
  have HCAP := Lib.hid hcap2
  clear T G hp hL0 hb0 hg hs ha hbB hcap2
  go_enter Tryd.func49, Tryd.ntmps49
  go_wp2_with fail
  refine (first_is k f l a b n cap (fun t => !q (f + t)) g sB aB bB _ HT.out HG.out f0 h1 (fun t ht => HP.out t ht)).mono ?_
  rintro e w1 ⟨r, hr, rfl, hb⟩
  have HT := Lib.hid (HT.out.next hb)
  have HG := Lib.hid (HG.out.next hb)
  have HB0 : Hid (Below w0.heap.size w0 w1) := two HB0.out hb
  clear hb
  rcases hr with ⟨rfl, hall⟩ | ⟨s0, rfl, hs0, hps, hpre⟩
  · have HLL : Hid ((partsL f n).filter q = partsL f n) := List.filter_eq_self.2 fun x hx => by
      simp only [partsL, List.mem_map, List.mem_range] at hx
      obtain ⟨t, ht, rfl⟩ := hx
      have := hall t ht
      simpa using this
    clear hall
    go_wp2_with fail
    go_ret
    rw [HLL.out]
    refine ⟨some ⟨g, 0, none⟩, cap, (by rw [parts_len] <;> rfl), fun j x hx => ⟨g, rfl, HG.out.lt, HG.out.cl j _ (by rw [List.getElem?_map, hx]; rfl)⟩, HB0.out⟩
  · have hst := Row.start q f n s0 hs0 (fun t ht => by have := hpre t ht; simpa using this) (by simpa using hps)
    have HST := Lib.hid hst
    have e1 : ((s0 : Int) == -1) = false := by simp
    clear hst hps hpre
    go_wp2_with fail
    go_loopw [5, 6] (fun c t wr => ∃ s : Nat, s0 < s ∧ s ≤ n ∧ t = .int .i64 s ∧ c = .int .i64 ((((partsL f s).filter q).length : Nat) : Int) ∧ ((partsL f s).filter q).length < s ∧
      Hid (∃ vs, Row q f n s vs ∧ Box wr g vs) ∧ Hid (Three wr sB aB bB k f l a b) ∧ Hid (Below w0.heap.size w0 wr)) (fun _ t _ => n - (intOf t).toNat)
    case atStart => exact ⟨s0 + 1, by omega, by omega, by go_num, by rw [HST.out.2], by rw [HST.out.2]; omega, ⟨_, HST.out.1, HG.out⟩, HT, HB0⟩
    case round =>
      obtain ⟨s, hs1, hs2, rfl, rfl, hK, HR, HT, HB⟩ := hrel
      obtain ⟨K, hKK⟩ : ∃ K, ((partsL f s).filter q).length = K := ⟨_, rfl⟩
      rw [hKK] at hK ⊢
      have HK := Lib.hid hKK
      clear hKK
      obtain ⟨vs, R, B⟩ := HR.out
      have HRR := Lib.hid R
      have HBX := Lib.hid B
      have k0 : ∃ u, wr.cell? ⟨g, K, none⟩ = some u := by
        have hlt : K < vs.length := by rw [R.len]; omega
        exact ⟨_, B.cl K _ (List.getElem?_eq_getElem hlt)⟩
      have kf : wr.frozen? ⟨g, K, none⟩ = false := B.fr K (by rw [R.len]; omega)
      by_cases hlt : s < n
      · have x0 := B.cl s _ (R.rest s (Nat.le_refl _) hlt)
        have hc := test_is HT.out (!q (f + s)) (h := f + s) (by omega) (by omega) (HP.out s hlt)
        have HC := Lib.hid hc
        clear hc R B HR
        cases hq : q (f + s) <;> rw [hq] at HC
        · have HQ := Lib.hid hq
          clear hq k0 kf
          go_wp2_with (go_at_call 50; refine HC.out.mono ?_; rintro e w' ⟨rfl, hb⟩)
          have T2 : Hid (Three w' sB aB bB k f l a b) := HT.out.next hb
          have R2 : Hid (∃ vs, Row q f n (s + 1) vs ∧ Box w' g vs) := ⟨vs, HRR.out.skip HQ.out, HBX.out.next hb⟩
          have B2 : Hid (Below w0.heap.size w0 w') := two HB.out hb
          clear hb x0
          go_roundw
          case rel => exact ⟨s + 1, by omega, by omega, by go_num, by rw [filt_len_f HQ.out, HK.out], by rw [filt_len_f HQ.out, HK.out]; omega, R2, T2, B2⟩
          case measure => simp [intOf]; omega
        · have HQ := Lib.hid hq
          clear hq
          obtain ⟨u0, k0⟩ := k0
          go_wp2_with (go_at_call 50; refine HC.out.mono ?_; rintro e w' ⟨rfl, hb⟩; have k0 := (hb.cell (by exact HBX.out.lt)).trans k0; have kf := (hb.frozen (by exact HBX.out.lt)).trans kf)
          have B2 : Hid (Below w0.heap.size w0 (w'.setCell ⟨g, K, none⟩ (.int .i64 (f + s)))) := Go.below_setCells HGE.out [.int .i64 (f + s)] K _ (two HB.out hb)
          have T2 : Hid (Three (w'.setCell ⟨g, K, none⟩ (.int .i64 (f + s))) sB aB bB k f l a b) :=
            have T1 := HT.out.next hb
            ⟨T1.s.other (Ne.symm HNE.out.1) _ _, T1.a.other (Ne.symm HNE.out.2.1) _ _, T1.b.other (Ne.symm HNE.out.2.2) _ _, Len.below HL0.out B2.out⟩
          have R2 : Hid (∃ vs, Row q f n (s + 1) vs ∧ Box (w'.setCell ⟨g, K, none⟩ (.int .i64 (f + s))) g vs) := ⟨_, by have := HRR.out.keep hlt HQ.out; rwa [HK.out] at this, (HBX.out.next hb).put K _⟩
          clear hb x0 k0 kf
          go_roundw
          case rel => exact ⟨s + 1, by omega, by omega, by go_num, by rw [filt_len_t HQ.out, HK.out]; go_num, by rw [filt_len_t HQ.out, HK.out]; omega, R2, T2, B2⟩
          case measure => simp [intOf]; omega
      · have hsn : s = n := by omega
        subst hsn
        have hcl : ∀ ty, (Builtin.clear_ #[40] ty #[.slice (some ⟨g, K, none⟩) (s - K) (cap - K)]).run Tryd.prog wr = .ok (.tuple #[]) (wr.setCells g K (List.replicate (s - K) (.int .i64 0))) := fun ty =>
          Lib.run_clear_slice wr 40 3 ty (.int .i64 0) Tryd.underlying40 zero_int rfl rfl g K (s - K) (cap - K) (by omega) (fun j hj => by
            rw [HBX.out.cl (K + j) _ (List.getElem?_eq_getElem (by rw [HRR.out.len]; omega))]; rfl) (fun j hj => HBX.out.fr (K + j) (by rw [HRR.out.len]; omega))
        clear R B HR k0 kf
        go_wp2_with fail
        go_ret
        refine ⟨some ⟨g, 0, none⟩, cap, (by rw [HK.out] <;> rfl), fun j x hx => ⟨g, rfl, Nat.lt_of_lt_of_le HBX.out.lt (Go.below_setCells (B := 0) (Nat.zero_le _) _ _ _ (Below.refl 0 _)).size, ?_⟩, Go.below_setCells HGE.out _ _ _ HB.out⟩
        have hj : j < K := by rw [← HK.out]; exact (List.getElem?_eq_some_iff.1 hx).1
        rw [World.cell?_setCells_out _ _ _ _ _ (fun _ _ => .inl hj)]
        exact HBX.out.cl j _ (HRR.out.done j x hx)
end Go.Proofs.YtkapkfddbdgmoaaDoor.Wi
