/- Walks: the law of whatever expression's text. -/
import Derived.Test.YtonkjhmkppeagaaGreatDoorShWalk2
import Derived.Test.YtonkjhmkppeagaaGreatDoorRawWalk1
import Derived.Test.YtonkjhmkppeagaaGreatDoorOpen
set_option linter.unusedVariables false
set_option linter.unusedSimpArgs false
namespace Go.Proofs.YtonkjhmkppeagaaGreatDoor.Pz
open Go.RowKit Go Go.Sort Ba Lx

theorem zPn_ : (Tryz.prog.info? 43).bind (·.zero) = some (.agg #[.int .i64 0, .string ⟨#[]⟩, .int .i64 0, .int .i64 0, .string ⟨#[]⟩, .string ⟨#[]⟩, .int .i64 0]) := by kernel_rfl
theorem sPn_ : (Tryz.prog.info? 43).map (·.size) = some 7 := by kernel_rfl
theorem uPn_ : (Tryz.prog.underlying 43).map (·.isRow) = some true := by kernel_rfl
section
variable {P : Program} {ops : Array Oper} {rest : List Oper} {o : Oper} {a : Act} {Q : Exit → Act → World → Prop} {w : World}
theorem wpList_load_row (hgd : Region.wanted o (yielded ops a.tmps) = true) {ty : TypeId} {x : Operand} (ho : o.op = .load ty x) {b p : Nat} (hx : a.eval x = .pointer (some ⟨b, p, none⟩)) {cs : List Value} (hr : w.rangeAt b p cs)
    (hu : (P.underlying ty).map (·.isRow) = some true) (hs : (P.info? ty).map (·.size) = some cs.length) (h : wpList P ops Q rest (a.put o.dst (.agg cs.toArray)) w) : wpList P ops Q (o :: rest) a w := by
  cases hq : P.underlying ty with
  | none => rw [hq] at hu; cases hu
  | some d =>
    rw [hq] at hu
    exact wpList_want hgd fun _ hK => wp_load_mid ty x ho b p hx cs d hr hq (Option.some.inj hu) hs (hK _ _ h)
end
abbrev shPn : List Sh := [.i, .s, .i, .i, .s, .s, .i]
theorem pn_of {r : List Dat} (h : FitR shPn r) : ∃ p : Pn, r = pnD p ∧ (-9223372036854775808 ≤ p.v.n ∧ p.v.n ≤ 9223372036854775807) := by
  obtain ⟨d0, q0, rfl, h0, h⟩ := h.cons
  obtain ⟨d1, q1, rfl, h1, h⟩ := h.cons
  obtain ⟨d2, q2, rfl, h2, h⟩ := h.cons
  obtain ⟨d3, q3, rfl, h3, h⟩ := h.cons
  obtain ⟨d4, q4, rfl, h4, h⟩ := h.cons
  obtain ⟨d5, q5, rfl, h5, h⟩ := h.cons
  obtain ⟨d6, q6, rfl, h6, h⟩ := h.cons
  obtain rfl := h.done
  cases h0; cases h1; cases h2; cases h4; cases h5; cases h6
  cases h3 with
  | i n hn => exact ⟨⟨_, _, ⟨_, n, _⟩, _, _⟩, rfl, hn⟩
theorem rows_of {α : Type} {rD : α → List Dat} {Q : α → Prop} : ∀ rows : List (List Dat), (∀ r ∈ rows, ∃ a, r = rD a ∧ Q a) → ∃ l : List α, rows = l.map rD ∧ ∀ a ∈ l, Q a
  | [], _ => ⟨[], rfl, fun a h => by cases h⟩
  | r :: rs, h => by
    obtain ⟨a, rfl, ha⟩ := h r (by simp)
    obtain ⟨l, rfl, hl⟩ := rows_of rs (fun r hr => h r (by simp [hr]))
    exact ⟨a :: l, rfl, fun b hb => by
      rcases List.mem_cons.1 hb with rfl | hb
      · exact ha
      · exact hl b hb⟩
theorem pns_of {d : Dat} (h : Fit (.sl shPn) d) : ∃ l : List Pn, d = .sl 7 (l.map pnD) ∧ ∀ p ∈ l, -9223372036854775808 ≤ p.v.n ∧ p.v.n ≤ 9223372036854775807 := by
  cases h with
  | sl _ rows h0 h =>
    obtain ⟨l, rfl, hl⟩ := rows_of rows (fun r hr => pn_of ⟨h0 r hr, h r hr⟩)
    exact ⟨l, rfl, hl⟩
theorem pn_cells {W : World} {ok : Nat → Prop} {p : Pn} {cs : List Value} (hrow : Row W ok (pnD p) cs) : cs = [.int .i64 p.k, .string ⟨p.nm.toArray⟩, .int .i64 p.v.k, .int .i64 p.v.n, .string ⟨p.v.t.toArray⟩, .string ⟨p.op.toArray⟩, .int .i64 p.n] := by
  obtain ⟨c0, r0, rfl, h0, h⟩ := Row.uncons hrow
  obtain ⟨c1, r1, rfl, h1, h⟩ := h.uncons
  obtain ⟨c2, r2, rfl, h2, h⟩ := h.uncons
  obtain ⟨c3, r3, rfl, h3, h⟩ := h.uncons
  obtain ⟨c4, r4, rfl, h4, h⟩ := h.uncons
  obtain ⟨c5, r5, rfl, h5, h⟩ := h.uncons
  obtain ⟨c6, r6, rfl, h6, h⟩ := h.uncons
  obtain rfl := h.unnil
  rw [h0.val, h1.val, h2.val, h3.val, h4.val, h5.val, h6.val]
set_option maxRecDepth 100000 in
set_option maxHeartbeats 3200000 in
theorem showRaw_law (v : Value) (d : Dat) (w : World) (hE : EnvX w) (hF : Fit (.sl shPn) d) (hR : Rep w (fun _ => True) d v) : Calls Tryz.prog 4 #[v] w fun e w' => e = .returned (.bool true) ∧ Below w.heap.size w w' := by
  obtain ⟨l, rfl, hln⟩ := pns_of hF
  obtain ⟨sa, ca, rfl, hca, hcm⟩ := hR.len
  rw [List.length_map] at hR hca ⊢
  have HE := Lib.hid (fun W (hb : Below w.heap.size w W) => hE.below hb)
  have H := Lib.hid (St.start (S := fun _ => False) w)
  clear hF
  obtain ⟨len, hlen⟩ : ∃ len, l.length = len := ⟨_, rfl⟩
  rw [hlen] at hR hca ⊢
  by_cases h0 : len = 0
  · subst h0
    clear hE hR
    go_enter Tryz.func4, Tryz.ntmps4
    go_wp2_with (first | (go_at_call 14; (with_reducible (refine (awake_any _ (HE.out _ (st_old H.out))).mono ?_)); rintro e w9 ⟨rfl, hb9⟩; have H2 := H.out.below hb9; clear H; have H := Lib.hid H2; clear H2))
    go_ret
    exact ⟨rfl, st_old H.out⟩
  by_cases h1 : 100 < len
  · have h2 : ¬ ((len : Int) = 0) := by omega
    have h3 : (100 : Int) < (len : Int) := by omega
    clear hE hR
    go_enter Tryz.func4, Tryz.ntmps4
    go_wp2_with (first | (go_at_call 14; (with_reducible (refine (awake_any _ (HE.out _ (st_old H.out))).mono ?_)); rintro e w9 ⟨rfl, hb9⟩; have H2 := H.out.below hb9; clear H; have H := Lib.hid H2; clear H2))
    go_ret
    exact ⟨rfl, st_old H.out⟩
  have h2 : ¬ ((len : Int) = 0) := by omega
  have h3 : ¬ ((100 : Int) < (len : Int)) := by omega
  have HLEN := Lib.hid hlen
  have HLN := Lib.hid hln
  have HR := Lib.hid hR
  have HAT : Hid (∀ (i : Nat) (p : Pn), l[i]? = some p → ∃ b o, sa = some ⟨b, o, none⟩ ∧ ∀ W, Below w.heap.size w W → W.rangeAt b (o + i * 7) [.int .i64 p.k, .string ⟨p.nm.toArray⟩, .int .i64 p.v.k, .int .i64 p.v.n, .string ⟨p.v.t.toArray⟩, .string ⟨p.op.toArray⟩, .int .i64 p.n]) := fun i p hp => by
    obtain ⟨b, o, cs, e1, e2, _, e4, e5, e6⟩ := HR.out.at (i := i) (r := pnD p) (by rw [List.getElem?_map, hp]; rfl)
    have e7 := pn_cells e6
    subst e7
    refine ⟨b, o, e1, fun W hb j x hx => ?_⟩
    have hj : j < 7 := (List.getElem?_eq_some_iff.1 hx).1
    rw [show o + i * 7 + j = o + (i * 7 + j) from by omega]
    exact ((kcell (Kept.of_below (S := fun _ => False) hb) e2 (fun x => x)).trans (e4 j hj)).trans hx
  clear hR hln hlen hE
  go_enter Tryz.func4, Tryz.ntmps4
  go_wp2_with fail
  go_loopw [23] (fun i wr => ∃ k : Nat, k ≤ len ∧ i = .int .i64 k ∧ Hid (St (fun _ => False) w wr [] [] []) ∧ Hid (∀ (j : Nat) (p : Pn), j < k → l[j]? = some p → NdOk p)) (fun i _ => len - (intOf i).toNat)
  case atStart => exact ⟨0, Nat.zero_le _, rfl, H, fun j p hj => absurd hj (Nat.not_lt_zero _)⟩
  case round =>
    clear H
    obtain ⟨k, hk, rfl, H, HND⟩ := hrel
    by_cases hkl : k < len
    · have hkl2 : (k : Int) < (len : Int) := by omega
      have hkl3 : k < l.length := by rw [HLEN.out]; exact hkl
      obtain ⟨p, hp⟩ : ∃ p, l[k]? = some p := ⟨_, List.getElem?_eq_getElem hkl3⟩
      obtain ⟨b, o, rfl, hrng⟩ := HAT.out k p hp
      have HRG := Lib.hid hrng
      have HPN : Hid (-9223372036854775808 ≤ p.v.n ∧ p.v.n ≤ 9223372036854775807) := HLN.out p (List.mem_of_getElem? hp)
      have HPP := Lib.hid hp
      obtain ⟨N1, hN1⟩ : ∃ N : ByteArray, (⟨p.nm.toArray⟩ : ByteArray) = N := ⟨_, rfl⟩
      obtain ⟨N2, hN2⟩ : ∃ N : ByteArray, (⟨p.op.toArray⟩ : ByteArray) = N := ⟨_, rfl⟩
      obtain ⟨N3, hN3⟩ : ∃ N : ByteArray, (⟨p.v.t.toArray⟩ : ByteArray) = N := ⟨_, rfl⟩
      have HS1 : Hid (N1.size = p.nm.length ∧ N2.size = p.op.length ∧ N3.size = p.v.t.length) := ⟨by rw [← hN1]; exact sz_mk _, by rw [← hN2]; exact sz_mk _, by rw [← hN3]; exact sz_mk _⟩
      rw [hN1, hN2, hN3] at HRG
      clear hrng hp hN1 hN2 hN3
      by_cases c1 : (50 : Int) < (N1.size : Int)
      · go_wp2_with (first | (refine wpList_load_row (by rfl) (ty := 43) rfl rfl (HRG.out _ (st_old H.out)) uPn_ sPn_ ?_) | (refine St.w_alloc (ty := 43) H.out (by rfl) rfl zPn_ rfl ?_; intro wn Cp _ _ H2; clear H; have H := Lib.hid H2; clear H2) | (refine St.w_store (ty := 43) H.out (by rfl) rfl rfl rfl 0 rfl rfl rfl sPn_ (all_one rfl) ?_; intro wn _ _ H2; clear H; have H := Lib.hid H2; clear H2) | (first | (refine St.w_load1 (ty := 9) H.out (by rfl) rfl rfl 0 rfl rfl uStr_ ?_)) | (go_at_call 14; (with_reducible (refine (awake_any _ (HE.out _ (st_old H.out))).mono ?_)); rintro e w9 ⟨rfl, hb9⟩; have H2 := H.out.below hb9; clear H; have H := Lib.hid H2; clear H2))
        go_ret
        exact ⟨rfl, st_old H.out⟩
      by_cases c2 : (50 : Int) < (N2.size : Int)
      · go_wp2_with (first | (refine wpList_load_row (by rfl) (ty := 43) rfl rfl (HRG.out _ (st_old H.out)) uPn_ sPn_ ?_) | (refine St.w_alloc (ty := 43) H.out (by rfl) rfl zPn_ rfl ?_; intro wn Cp _ _ H2; clear H; have H := Lib.hid H2; clear H2) | (refine St.w_store (ty := 43) H.out (by rfl) rfl rfl rfl 0 rfl rfl rfl sPn_ (all_one rfl) ?_; intro wn _ _ H2; clear H; have H := Lib.hid H2; clear H2) | (first | (refine St.w_load1 (ty := 9) H.out (by rfl) rfl rfl 0 rfl rfl uStr_ ?_)) | (go_at_call 14; (with_reducible (refine (awake_any _ (HE.out _ (st_old H.out))).mono ?_)); rintro e w9 ⟨rfl, hb9⟩; have H2 := H.out.below hb9; clear H; have H := Lib.hid H2; clear H2))
        go_ret
        exact ⟨rfl, st_old H.out⟩
      by_cases c3 : (100 : Int) < (N3.size : Int)
      · go_wp2_with (first | (refine wpList_load_row (by rfl) (ty := 43) rfl rfl (HRG.out _ (st_old H.out)) uPn_ sPn_ ?_) | (refine St.w_alloc (ty := 43) H.out (by rfl) rfl zPn_ rfl ?_; intro wn Cp _ _ H2; clear H; have H := Lib.hid H2; clear H2) | (refine St.w_store (ty := 43) H.out (by rfl) rfl rfl rfl 0 rfl rfl rfl sPn_ (all_one rfl) ?_; intro wn _ _ H2; clear H; have H := Lib.hid H2; clear H2) | (first | (refine St.w_load1 (ty := 9) H.out (by rfl) rfl rfl 0 rfl rfl uStr_ ?_)) | (go_at_call 14; (with_reducible (refine (awake_any _ (HE.out _ (st_old H.out))).mono ?_)); rintro e w9 ⟨rfl, hb9⟩; have H2 := H.out.below hb9; clear H; have H := Lib.hid H2; clear H2))
        go_ret
        exact ⟨rfl, st_old H.out⟩
      go_wp2_with (first | (refine wpList_load_row (by rfl) (ty := 43) rfl rfl (HRG.out _ (st_old H.out)) uPn_ sPn_ ?_) | (refine St.w_alloc (ty := 43) H.out (by rfl) rfl zPn_ rfl ?_; intro wn Cp _ _ H2; clear H; have H := Lib.hid H2; clear H2) | (refine St.w_store (ty := 43) H.out (by rfl) rfl rfl rfl 0 rfl rfl rfl sPn_ (all_one rfl) ?_; intro wn _ _ H2; clear H; have H := Lib.hid H2; clear H2) | (first | (refine St.w_load1 (ty := 9) H.out (by rfl) rfl rfl 0 rfl rfl uStr_ ?_)))
      have HND2 : Hid (∀ (j : Nat) (p : Pn), j < k + 1 → l[j]? = some p → NdOk p) := fun j q hj hq => by
        by_cases e : j = k
        · subst e
          have e2 := HPP.out
          rw [hq] at e2
          obtain rfl := Option.some.inj e2
          obtain ⟨z1, z2, z3⟩ := HS1.out
          exact ⟨by omega, by omega, by omega, HPN.out⟩
        · exact HND.out j q (by omega) hq
      go_round
      case measure => simp [intOf]; omega
      case rel => exact ⟨k + 1, by omega, by rw [Int.natCast_add]; rfl, H.out.drop (List.nil_sublist _), HND2⟩
    · have hkl2 : ¬ ((k : Int) < (len : Int)) := by omega
      have hke : k = len := by omega
      have hall : ∀ p ∈ l, NdOk p := fun p hp => by
        obtain ⟨j, hj⟩ := List.getElem?_of_mem hp
        have := (List.getElem?_eq_some_iff.1 hj).1
        rw [HLEN.out] at this
        exact HND.out j p (by omega) hj
      have hbo := buildM_ok 60 l (by rw [HLEN.out]; omega) hall
      obtain ⟨X, hX⟩ : ∃ X, buildM 60 l = X := ⟨_, rfl⟩
      have HBU : Hid (∀ W, Below w.heap.size w W → Calls Tryz.prog 20 #[.slice sa len ca, .int .i64 0] W (BuildTo W X)) := fun W hb => by
        have h1 := build_any 60 0 rfl l sa ca W (fun _ => True) (by rw [HLEN.out]; omega) (by rw [HLEN.out]; omega) (by rw [HLEN.out]; exact HR.out.kept (S := fun _ => False) (Kept.of_below hb) (fun _ _ _ x => x))
        rw [HLEN.out, hX] at h1
        exact h1
      rw [hX] at hbo
      obtain ⟨x, m⟩ := X
      have hx1 : (textE x).length ≤ 1000000 := by have h5 := hbo.len; have h6 := hbo.le; rw [HLEN.out] at h6; simp only at h5 h6; omega
      have hx2 : BdE x := hbo.bd
      clear hbo hX hall HND HAT HLN HR HLEN hke
      by_cases hs : (exprOf (textE x)).2.2 = 0 ∧ (exprOf (textE x)).1 = x
      · obtain ⟨k1, k2, k3, k4⟩ := exprOf_ok hs.1
        obtain ⟨r, hr⟩ : ∃ r, exprOf (textE x) = r := ⟨_, rfl⟩
        rw [hr] at hs k1 k2 k3 k4
        obtain ⟨x', at0, e0⟩ := r
        obtain ⟨rfl, rfl⟩ : e0 = 0 ∧ x' = x := ⟨hs.1, hs.2⟩
        obtain rfl : at0 = (textE x').length := k4
        have hse : showE x' = (textE x', 0) := showE_ok hr
        obtain ⟨T, hT⟩ : ∃ T : ByteArray, (⟨(textE x').toArray⟩ : ByteArray) = T := ⟨_, rfl⟩
        have hTs : (textE x').length = T.size := by rw [← hT]; exact (sz_mk _).symm
        have HS : Hid (∀ sa ca W (ok : Nat → Prop), XArgs W ok (.slice sa x'.xs.length ca) x'.xs → Below w.heap.size w W → Calls Tryz.prog 16 #[exV x' (.slice sa x'.xs.length ca)] W fun e w' => e = .returned (.tuple #[.string T, .int .i64 0]) ∧ Below W.heap.size W w') := fun sa ca W ok hA hb => by
          have := showX_any x' sa ca W ok hA (HE.out W hb) hx2 hx1
          unfold ShowTo at this
          rw [hse, hT] at this
          exact this
        have HP2 : Hid (∀ W, Below w.heap.size w W → Calls Tryz.prog 15 #[.string T] W (ExprTo (x', T.size, 0) W)) := fun W hb => by
          have := expr_any T W (HE.out W hb).l
          rw [show T.data.toList = textE x' from by rw [← hT], hr, hTs] at this
          exact this
        have HRF := Lib.hid (fun sa ca W ok (hA : XArgs W ok (.slice sa x'.xs.length ca) x'.xs) => ref_any x' sa ca W ok hA (sm_of x' k1 hx1))
        have HRS : Hid (∀ sa ca W ok, RArgs W ok (.slice sa x'.xs.length ca) x'.xs → Calls Tryz.prog 17 #[rfV x' (.slice sa x'.xs.length ca)] W fun e w' => e = .returned (.string T) ∧ Below W.heap.size W w') := fun sa ca W ok hA => by
          have := rshow_any x' k1 sa ca W ok hA (by omega)
          unfold StrTo at this
          rw [hT] at this
          exact this
        have HQ : Hid (∀ sa sb ca cb W o1 o2, XArgs W o1 (.slice sa x'.xs.length ca) x'.xs → XArgs W o2 (.slice sb x'.xs.length cb) x'.xs → Calls Tryz.prog 19 #[exV x' (.slice sa x'.xs.length ca), exV x' (.slice sb x'.xs.length cb)] W fun e w' => e = .returned (.bool true) ∧ Below W.heap.size W w') := fun sa sb ca cb W o1 o2 h1 h2 => by
          have := equal_any x' x' sa sb ca cb W _ h1.all h2.all
          rw [(eqE_iff x' x').2 rfl] at this
          exact this
        clear hs k2 k3 hr hse hT hTs hx1 hx2 k1
        go_wp2_with (first | (refine St.w_alloc (ty := 27) H.out (by rfl) rfl zEx_ rfl ?_; intro wn Cn _ _ H2; clear H; have H := Lib.hid H2; clear H2) | (first | (refine St.w_store (ty := 27) H.out (by rfl) rfl rfl rfl 0 rfl rfl rfl sEx_ (all_one rfl) ?_; intro wn _ _ H2; clear H; have H := Lib.hid H2; clear H2) | (refine St.w_store (ty := 27) H.out (by rfl) rfl rfl rfl 1 rfl rfl rfl sEx_ (all_one rfl) ?_; intro wn _ _ H2; clear H; have H := Lib.hid H2; clear H2)) | (first | (refine St.w_load (ty := 27) H.out (by rfl) rfl rfl 0 rfl uEx_ sEx_ ?_) | (refine St.w_load (ty := 27) H.out (by rfl) rfl rfl 1 rfl uEx_ sEx_ ?_)) | (go_at_call 20; (with_reducible (refine (HBU.out _ (st_old H.out)).mono ?_)); rintro e wc ⟨xa, xc, rfl, hX, hb9⟩; have H2 := H.out.more (H.out.below hb9) (row_ex hX); clear hX hb9; clear H; have H := Lib.hid H2; clear H2) | (go_at_call 16; (with_reducible (refine (HS.out _ _ _ _ (row_args (H.out.rowAt (j := 0) rfl)) (st_old H.out)).mono ?_)); rintro e w2 ⟨rfl, hb2⟩; have H2 := H.out.below hb2; clear hb2; clear H; have H := Lib.hid H2; clear H2) | (go_at_call 15; (with_reducible (refine (HP2.out _ (st_old H.out)).mono ?_)); rintro e w3 ⟨ya, yc, rfl, hY, hb3⟩; have H2 := H.out.more (H.out.below hb3) (row_ex hY); clear hY hb3; clear H; have H := Lib.hid H2; clear H2) | (go_at_call 19; (with_reducible (refine (HQ.out ya xa yc xc _ _ _ (row_args (H.out.rowAt (j := 0) rfl)) (row_args (H.out.rowAt (j := 1) rfl))).mono ?_)); rintro e w7 ⟨rfl, hb7⟩; have H2 := H.out.below hb7; clear hb7; clear H; have H := Lib.hid H2; clear H2) | (go_at_call 18; (with_reducible (refine (HRF.out xa xc _ _ (row_args (H.out.rowAt (j := 1) rfl))).mono ?_)); rintro e w5 ⟨ra, rc, rfl, hR, hb5⟩; have H2 := H.out.below hb5; clear hb5; clear H; have H := Lib.hid H2; clear H2) | (go_at_call 17; (with_reducible (refine (HRS.out ra rc _ _ hR).mono ?_)); rintro e w6 ⟨rfl, hb6⟩; have H2 := H.out.below hb6; clear hb6; clear H; have H := Lib.hid H2; clear H2) | (go_at_call 14; (with_reducible (refine (awake_any _ (HE.out _ (st_old H.out))).mono ?_)); rintro e w9 ⟨rfl, hb9⟩; have H2 := H.out.below hb9; clear H; have H := Lib.hid H2; clear H2))
        go_ret
        exact ⟨rfl, st_old H.out⟩
      · have hse : showE x = ([], 20) := by unfold showE; rw [if_neg hs]
        have HS : Hid (∀ sa ca W (ok : Nat → Prop), XArgs W ok (.slice sa x.xs.length ca) x.xs → Below w.heap.size w W → Calls Tryz.prog 16 #[exV x (.slice sa x.xs.length ca)] W fun e w' => e = .returned (.tuple #[.string ⟨#[]⟩, .int .i64 20]) ∧ Below W.heap.size W w') := fun sa ca W ok hA hb => by
          have := showX_any x sa ca W ok hA (HE.out W hb) hx2 hx1
          unfold ShowTo at this
          rw [hse] at this
          exact this
        clear hs hse hx1 hx2
        go_wp2_with (first | (refine St.w_alloc (ty := 27) H.out (by rfl) rfl zEx_ rfl ?_; intro wn Cn _ _ H2; clear H; have H := Lib.hid H2; clear H2) | (first | (refine St.w_store (ty := 27) H.out (by rfl) rfl rfl rfl 0 rfl rfl rfl sEx_ (all_one rfl) ?_; intro wn _ _ H2; clear H; have H := Lib.hid H2; clear H2) | (refine St.w_store (ty := 27) H.out (by rfl) rfl rfl rfl 1 rfl rfl rfl sEx_ (all_one rfl) ?_; intro wn _ _ H2; clear H; have H := Lib.hid H2; clear H2)) | (first | (refine St.w_load (ty := 27) H.out (by rfl) rfl rfl 0 rfl uEx_ sEx_ ?_) | (refine St.w_load (ty := 27) H.out (by rfl) rfl rfl 1 rfl uEx_ sEx_ ?_)) | (go_at_call 20; (with_reducible (refine (HBU.out _ (st_old H.out)).mono ?_)); rintro e wc ⟨xa, xc, rfl, hX, hb9⟩; have H2 := H.out.more (H.out.below hb9) (row_ex hX); clear hX hb9; clear H; have H := Lib.hid H2; clear H2) | (go_at_call 16; (with_reducible (refine (HS.out _ _ _ _ (row_args (H.out.rowAt (j := 0) rfl)) (st_old H.out)).mono ?_)); rintro e w2 ⟨rfl, hb2⟩; have H2 := H.out.below hb2; clear hb2; clear H; have H := Lib.hid H2; clear H2) | (go_at_call 14; (with_reducible (refine (awake_any _ (HE.out _ (st_old H.out))).mono ?_)); rintro e w9 ⟨rfl, hb9⟩; have H2 := H.out.below hb9; clear H; have H := Lib.hid H2; clear H2))
        go_ret
        exact ⟨rfl, st_old H.out⟩
end Go.Proofs.YtonkjhmkppeagaaGreatDoor.Pz
