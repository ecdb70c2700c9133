/- Walks: the law of an expression's text. -/
import Derived.Test.YtonkjhmkppeagaaGreatDoorShWalk1
import Derived.Test.YtonkjhmkppeagaaGreatDoorMSt
set_option linter.unusedVariables false
set_option linter.unusedSimpArgs false
namespace Go.Proofs.YtonkjhmkppeagaaGreatDoor.Pz
open Go.RowKit Go Go.Sort Ba Lx

theorem st_old {w0 w : World} {L : List Bx} {D : List (List Dat × List Value)} {O : List Ow} (h : St (fun _ => False) w0 w L D O) : Below w0.heap.size w0 w := h.kept.below (Nat.le_refl _) fun _ x => x.elim
theorem row_args {W : World} {ok : Nat → Prop} {x : Ex} {sl : Value} (h : Row W ok (exD x) (exC x sl)) : XArgs W ok sl x.xs := by
  rw [exD_eq] at h
  exact h.2 6 _ _ rfl rfl
set_option maxRecDepth 100000 in
set_option maxHeartbeats 1600000 in
theorem showExprs_law (s : ByteArray) (w : World) (hE : EnvX w) : Calls Tryz.prog 3 #[.string s] w fun e w' => e = .returned (.bool true) ∧ Below w.heap.size w w' := by
  have HE := Lib.hid (fun W (hb : Below w.heap.size w W) => hE.below hb)
  have H := Lib.hid (St.start (S := fun _ => False) w)
  by_cases hsz : (600 : Int) < (s.size : Int)
  · clear hE
    go_enter Tryz.func3, Tryz.ntmps3
    go_wp2_with (first | (go_at_call 14; (with_reducible (refine (awake_any _ (HE.out _ (st_old H.out))).mono ?_)); rintro e w9 ⟨rfl, hb9⟩; have H2 := H.out.below hb9; clear H; have H := Lib.hid H2; clear H2))
    go_ret
    exact ⟨rfl, st_old H.out⟩
  have hP := expr_any s w hE.l
  by_cases he : (exprOf s.data.toList).2.2 = 0
  · obtain ⟨x, at0, e1, hx, hlen, hs, hag⟩ := parsed (s := s) (by have : s.data.toList.length = s.size := rfl; omega) he
    rw [e1] at hP
    obtain ⟨T, hT⟩ : ∃ T : ByteArray, (⟨(textE x).toArray⟩ : ByteArray) = T := ⟨_, rfl⟩
    have HP := Lib.hid hP
    have HS := Lib.hid (fun sa ca W (ok : Nat → Prop) (hA : XArgs W ok (.slice sa x.xs.length ca) x.xs) (hb : Below w.heap.size w W) => show_ok x T hT hx hs hlen sa ca W ok hA (hE.below hb))
    have HP2 : Hid (∀ W, Below w.heap.size w W → Calls Tryz.prog 15 #[.string T] W (ExprTo (x, (textE x).length, 0) W)) := fun W hb => by
      have := expr_any T W (hE.below hb).l
      rw [show T.data.toList = textE x from by rw [← hT], hag] at this
      exact this
    have HRF := Lib.hid (fun sa ca W ok (hA : XArgs W ok (.slice sa x.xs.length ca) x.xs) => ref_any x sa ca W ok hA (sm_of x hx (by omega)))
    have HRS : Hid (∀ sa ca W ok, RArgs W ok (.slice sa x.xs.length ca) x.xs → Calls Tryz.prog 17 #[rfV x (.slice sa x.xs.length ca)] W fun e w' => e = .returned (.string T) ∧ Below W.heap.size W w') := fun sa ca W ok hA => by
      have := rshow_any x hx sa ca W ok hA (by omega)
      unfold StrTo at this
      rw [hT] at this
      exact this
    have HQ : Hid (∀ sa sb ca cb W o1 o2, XArgs W o1 (.slice sa x.xs.length ca) x.xs → XArgs W o2 (.slice sb x.xs.length cb) x.xs → Calls Tryz.prog 19 #[exV x (.slice sa x.xs.length ca), exV x (.slice sb x.xs.length cb)] W fun e w' => e = .returned (.bool true) ∧ Below W.heap.size W w') := fun sa sb ca cb W o1 o2 h1 h2 => by
      have := equal_any x x sa sb ca cb W _ h1.all h2.all
      rw [(eqE_iff x x).2 rfl] at this
      exact this
    obtain ⟨k0, hk0⟩ : ∃ k0, x.k = k0 := ⟨_, rfl⟩
    obtain ⟨len, hlen'⟩ : ∃ n : Nat, (textE x).length = n := ⟨_, rfl⟩
    rw [hlen'] at HP2
    clear hP he hs hag e1 hE hT hx hlen hlen' hk0
    go_enter Tryz.func3, Tryz.ntmps3
    go_wp2_with (first
      | (refine St.w_alloc H.out (by rfl) rfl zEx_ rfl ?_; intro wn Cn _ _ H2; clear H; have H := Lib.hid H2; clear H2) | (first | (refine St.w_store H.out (by rfl) rfl rfl rfl 0 rfl rfl rfl sEx_ (by intro v hv; simp only [List.mem_cons, List.not_mem_nil, or_false] at hv; rcases hv with rfl | rfl | rfl | rfl | rfl | rfl | rfl <;> rfl) ?_; intro wn _ _ H2; clear H; have H := Lib.hid H2; clear H2) | (refine St.w_store H.out (by rfl) rfl rfl rfl 1 rfl rfl rfl sEx_ (by intro v hv; simp only [List.mem_cons, List.not_mem_nil, or_false] at hv; rcases hv with rfl | rfl | rfl | rfl | rfl | rfl | rfl <;> rfl) ?_; intro wn _ _ H2; clear H; have H := Lib.hid H2; clear H2) | (refine St.w_store H.out (by rfl) rfl rfl rfl 2 rfl rfl rfl sEx_ (by intro v hv; simp only [List.mem_cons, List.not_mem_nil, or_false] at hv; rcases hv with rfl | rfl | rfl | rfl | rfl | rfl | rfl <;> rfl) ?_; intro wn _ _ H2; clear H; have H := Lib.hid H2; clear H2)) | (first | (refine St.w_load H.out (by rfl) rfl rfl 0 rfl uEx_ sEx_ ?_) | (refine St.w_load H.out (by rfl) rfl rfl 1 rfl uEx_ sEx_ ?_) | (refine St.w_load H.out (by rfl) rfl rfl 2 rfl uEx_ sEx_ ?_))
      | (go_at_call 15; (with_reducible (refine HP.out.mono ?_)); rintro e w1 ⟨xa, xc, rfl, hX, hb1⟩; have H2 := H.out.more (H.out.below hb1) (row_ex hX); clear hX hb1; clear H; have H := Lib.hid H2; clear H2)
      | (go_at_call 16; (with_reducible (refine (HS.out xa xc _ _ (row_args (H.out.rowAt (j := 0) rfl)) (st_old H.out)).mono ?_)); rintro e w2 ⟨rfl, hb2⟩; have H2 := H.out.below hb2; clear hb2; clear H; have H := Lib.hid H2; clear H2)
      | (go_at_call 15; (with_reducible (refine (HP2.out _ (st_old H.out)).mono ?_)); rintro e w3 ⟨ya, yc, rfl, hY, hb3⟩; have H2 := H.out.more (H.out.below hb3) (row_ex hY); clear hY hb3; clear H; have H := Lib.hid H2; clear H2)
      | (go_at_call 16; (with_reducible (refine (HS.out ya yc _ _ (row_args (H.out.rowAt (j := 0) rfl)) (st_old H.out)).mono ?_)); rintro e w2 ⟨rfl, hb2⟩; have H2 := H.out.below hb2; clear hb2; clear H; have H := Lib.hid H2; clear H2)
      | (go_at_call 18; (with_reducible (refine (HRF.out xa xc _ _ (row_args (H.out.rowAt (j := 1) rfl))).mono ?_)); rintro e w5 ⟨ra, rc, rfl, hR, hb5⟩; have H2 := H.out.below hb5; clear hb5; clear H; have H := Lib.hid H2; clear H2)
      | (go_at_call 17; (with_reducible (refine (HRS.out ra rc _ _ hR).mono ?_)); rintro e w6 ⟨rfl, hb6⟩; have H2 := H.out.below hb6; clear hb6; clear H; have H := Lib.hid H2; clear H2)
      | (go_at_call 19; (with_reducible (refine (HQ.out ya xa yc xc _ _ _ (row_args (H.out.rowAt (j := 0) rfl)) (row_args (H.out.rowAt (j := 1) rfl))).mono ?_)); rintro e w7 ⟨rfl, hb7⟩; have H2 := H.out.below hb7; clear hb7; clear H; have H := Lib.hid H2; clear H2)
      | (go_at_call 14; (with_reducible (refine (awake_any _ (HE.out _ (st_old H.out))).mono ?_)); rintro e w9 ⟨rfl, hb9⟩; have H2 := H.out.below hb9; clear H; have H := Lib.hid H2; clear H2))
    go_ret
    exact ⟨rfl, st_old H.out⟩
  · obtain ⟨r, hr⟩ : ∃ r, exprOf s.data.toList = r := ⟨_, rfl⟩
    rw [hr] at hP he
    obtain ⟨y, at0, er⟩ := r
    have hne : (er != 0) = true := by simpa using he
    have heq : (er == 0) = false := by simpa using he
    have HP := Lib.hid hP
    clear hP he hr hE
    go_enter Tryz.func3, Tryz.ntmps3
    go_wp2_with (first | (refine St.w_alloc H.out (by rfl) rfl zEx_ rfl ?_; intro wn Cn _ _ H2; clear H; have H := Lib.hid H2; clear H2) | (first | (refine St.w_store H.out (by rfl) rfl rfl rfl 0 rfl rfl rfl sEx_ (by intro v hv; simp only [List.mem_cons, List.not_mem_nil, or_false] at hv; rcases hv with rfl | rfl | rfl | rfl | rfl | rfl | rfl <;> rfl) ?_; intro wn _ _ H2; clear H; have H := Lib.hid H2; clear H2) | (refine St.w_store H.out (by rfl) rfl rfl rfl 1 rfl rfl rfl sEx_ (by intro v hv; simp only [List.mem_cons, List.not_mem_nil, or_false] at hv; rcases hv with rfl | rfl | rfl | rfl | rfl | rfl | rfl <;> rfl) ?_; intro wn _ _ H2; clear H; have H := Lib.hid H2; clear H2) | (refine St.w_store H.out (by rfl) rfl rfl rfl 2 rfl rfl rfl sEx_ (by intro v hv; simp only [List.mem_cons, List.not_mem_nil, or_false] at hv; rcases hv with rfl | rfl | rfl | rfl | rfl | rfl | rfl <;> rfl) ?_; intro wn _ _ H2; clear H; have H := Lib.hid H2; clear H2)) | (go_at_call 15; (with_reducible (refine HP.out.mono ?_)); rintro e w1 ⟨xa, xc, rfl, hX, hb1⟩; have H2 := H.out.below hb1; clear hX hb1; clear H; have H := Lib.hid H2; clear H2) | (go_at_call 14; (with_reducible (refine (awake_any _ (HE.out _ (st_old H.out))).mono ?_)); rintro e w9 ⟨rfl, hb9⟩; have H2 := H.out.below hb9; clear H; have H := Lib.hid H2; clear H2))
    go_ret
    exact ⟨rfl, st_old H.out⟩
end Go.Proofs.YtonkjhmkppeagaaGreatDoor.Pz
