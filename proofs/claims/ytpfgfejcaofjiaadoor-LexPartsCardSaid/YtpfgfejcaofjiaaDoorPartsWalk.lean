/- Walks: the law on two texts put together. -/
import Derived.Test.YtpfgfejcaofjiaaDoorShowWalk
set_option linter.unusedVariables false
set_option linter.unusedSimpArgs false
namespace Go.Proofs.YtpfgfejcaofjiaaDoor.Lx
open Go.RowKit Go Ba Va

theorem lex_place : ∀ (k : Nat) (l : List UInt8) (p : Nat), l.length ≤ k → ∀ t ∈ (lexL l p).1, t.p ≤ p + l.length := by
  intro k
  induction k with
  | zero =>
    intro l p hl
    obtain rfl := List.eq_nil_of_length_eq_zero (Nat.le_zero.1 hl)
    rw [lex_nil]; simp
  | succ k ih =>
    intro l p hl
    match l, hl with
    | [], _ => rw [lex_nil]; simp
    | c :: r, hl =>
      simp only [List.length_cons] at hl
      rcases byte_cases c with hc | rfl | hc
      · rw [lex_ws hc]
        intro t ht
        have := ih r (p + 1) (by omega) t ht
        rw [List.length_cons]; omega
      · rw [lex_rem]
        intro t ht
        have hr := runN_le notNl r
        have := ih (r.drop (runN notNl r)) (p + 1 + runN notNl r) (by rw [List.length_drop]; omega) t ht
        rw [List.length_drop] at this
        rw [List.length_cons]; omega
      · cases h : tok1 (c :: r) with
        | err e => rw [lex_err hc h]; simp
        | ok kk t n m =>
          obtain ⟨m1, m2⟩ := tok1_facts.1 kk t n m h
          rw [lex_ok hc h m1]
          intro u hu
          unfold pre at hu
          split at hu
          · simp only [List.singleton_append, List.mem_cons] at hu
            rcases hu with rfl | hu
            · show p ≤ p + _; omega
            · have := ih ((c :: r).drop m) (p + m) (by rw [List.length_drop, List.length_cons]; omega) u hu
              rw [List.length_drop, List.length_cons] at this
              rw [List.length_cons]; omega
          · cases hu
theorem lex_end : ∀ (k : Nat) (l : List UInt8) (p : Nat), l.length ≤ k → (lexL l p).2.1 ≤ p + l.length := by
  intro k
  induction k with
  | zero =>
    intro l p hl
    obtain rfl := List.eq_nil_of_length_eq_zero (Nat.le_zero.1 hl)
    rw [lex_nil]; simp
  | succ k ih =>
    intro l p hl
    match l, hl with
    | [], _ => rw [lex_nil]; simp
    | c :: r, hl =>
      simp only [List.length_cons] at hl
      rcases byte_cases c with hc | rfl | hc
      · rw [lex_ws hc]
        have := ih r (p + 1) (by omega)
        rw [List.length_cons]; omega
      · rw [lex_rem]
        have hr := runN_le notNl r
        have := ih (r.drop (runN notNl r)) (p + 1 + runN notNl r) (by rw [List.length_drop]; omega)
        rw [List.length_drop] at this
        rw [List.length_cons]; omega
      · cases h : tok1 (c :: r) with
        | err e => rw [lex_err hc h]; show p ≤ _; omega
        | ok kk t n m =>
          obtain ⟨m1, m2⟩ := tok1_facts.1 kk t n m h
          rw [lex_ok hc h m1]
          have := ih ((c :: r).drop m) (p + m) (by rw [List.length_drop, List.length_cons]; omega)
          rw [List.length_drop, List.length_cons] at this
          rw [List.length_cons]
          unfold pre
          split <;> (show (lexL _ _).2.1 ≤ _; omega)
theorem app_at {a b : List Tok} {d i : Nat} {t : Tok} (h : (a ++ b.map (shT d))[i]? = some t) : (i < a.length ∧ a[i]? = some t) ∨ (∃ j u, i = a.length + j ∧ b[j]? = some u ∧ t = shT d u) := by
  by_cases hi : i < a.length
  · rw [List.getElem?_append_left hi] at h; exact .inl ⟨hi, h⟩
  · rw [List.getElem?_append_right (by omega), List.getElem?_map] at h
    cases hb : b[i - a.length]? with
    | none => rw [hb] at h; cases h
    | some u =>
      rw [hb] at h
      simp only [Option.map_some, Option.some.injEq] at h
      exact .inr ⟨i - a.length, u, by omega, hb, h.symm⟩
set_option maxRecDepth 100000 in
set_option maxHeartbeats 6400000 in
theorem parts_law (a b : ByteArray) (w : World) (hE : EnvL w) :
    Calls Tryd.prog 4 #[.string a, .string b] w fun e w' => e = .returned (.bool true) ∧ Below w.heap.size w w' := by
  have HE := Lib.hid hE
  clear hE
  by_cases ha : 2000 < a.size
  · have bw : Below w.heap.size w w := Below.refl _ _
    go_enter Tryd.func4, Tryd.ntmps4
    go_wp2_with fail
    refine (awake_any _ (HE.out.below bw)).mono ?_
    rintro e w9 ⟨rfl, hb⟩
    go_wp2_with fail
    go_ret
    exact ⟨rfl, two bw hb⟩
  by_cases hb : 2000 < b.size
  · have bw : Below w.heap.size w w := Below.refl _ _
    go_enter Tryd.func4, Tryd.ntmps4
    go_wp2_with fail
    refine (awake_any _ (HE.out.below bw)).mono ?_
    rintro e w9 ⟨rfl, hb⟩
    go_wp2_with fail
    go_ret
    exact ⟨rfl, two bw hb⟩
  have hs1 : (⟨#[10]⟩ : ByteArray).size = 1 := rfl
  have e1 : (a ++ ⟨#[10]⟩ : ByteArray).data.toList = a.data.toList ++ 10 :: [] := add_data _ _
  have e2 : ((a ++ ⟨#[10]⟩ : ByteArray) ++ b).data.toList = a.data.toList ++ 10 :: b.data.toList := by rw [add_data, e1]; simp
  have z1 : (a ++ ⟨#[10]⟩ : ByteArray).size = a.size + 1 := by rw [ByteArray.size_append]; rfl
  have z2 : ((a ++ ⟨#[10]⟩ : ByteArray) ++ b).size = a.size + 1 + b.size := by rw [ByteArray.size_append, z1]
  have l1 := lex_parts a.data.toList.length a.data.toList [] 0 (Nat.le_refl _)
  have l2 := lex_parts a.data.toList.length a.data.toList b.data.toList 0 (Nat.le_refl _)
  have l3 := lex_shift (a.data.toList.length + 1) b.data.toList.length b.data.toList 0 (Nat.le_refl _)
  rw [← e1, lex_nil] at l1
  rw [← e2] at l2
  have h1 := fun W hW => lex_any (a ++ ⟨#[10]⟩) W (by omega) hW
  have h2 := fun W hW => lex_any b W (by omega) hW
  have h3 := fun W hW => lex_any ((a ++ ⟨#[10]⟩) ++ b) W (by omega) hW
  have s1 : lexS (a ++ ⟨#[10]⟩ : ByteArray).data.toList = lexL (a ++ ⟨#[10]⟩ : ByteArray).data.toList 0 := by unfold lexS; rw [if_neg (by rw [← size_list]; omega)]
  have s2 : lexS b.data.toList = lexL b.data.toList 0 := by unfold lexS; rw [if_neg (by rw [← size_list]; omega)]
  have s3 : lexS ((a ++ ⟨#[10]⟩ : ByteArray) ++ b).data.toList = lexL ((a ++ ⟨#[10]⟩ : ByteArray) ++ b).data.toList 0 := by unfold lexS; rw [if_neg (by rw [← size_list]; omega)]
  rw [s1, l1] at h1
  rw [s2] at h2
  rw [s3, l2] at h3
  have hen := lex_err_nil a.data.toList.length a.data.toList 0 (Nat.le_refl _)
  have hen2 := lex_err_nil b.data.toList.length b.data.toList 0 (Nat.le_refl _)
  have hpl := lex_place b.data.toList.length b.data.toList 0 (Nat.le_refl _)
  have hpa := lex_place a.data.toList.length a.data.toList 0 (Nat.le_refl _)
  have hqb := lex_end b.data.toList.length b.data.toList 0 (Nat.le_refl _)
  have hna := (lex_toks a.data.toList.length a.data.toList 0 (Nat.le_refl _)).2.2
  have hnb := (lex_toks b.data.toList.length b.data.toList 0 (Nat.le_refl _)).2.2
  rw [← size_list] at hna hnb hpl hpa l3 hqb
  rw [← size_list, show 0 + a.size + 1 = 0 + (a.size + 1) by omega, l3] at h3
  rw [← size_list] at h1
  obtain ⟨xa, hxa⟩ : ∃ x, lexL a.data.toList 0 = x := ⟨_, rfl⟩
  obtain ⟨xb, hxb⟩ : ∃ x, lexL b.data.toList 0 = x := ⟨_, rfl⟩
  rw [hxa] at h1 h3 hen hna hpa
  rw [hxb] at h2 h3 hen2 hpl hnb hqb
  obtain ⟨ta, qa, ea⟩ := xa
  obtain ⟨tb, qb, eb⟩ := xb
  clear l1 l2 l3 e1 e2 s1 s2 s3 hxa hxb
  dsimp only at h1 h2 h3 hen hen2 hpl hna hnb hpa hqb
  rw [Nat.zero_add] at hqb
  have HQB : Hid (qb ≤ b.size) := hqb
  clear hqb
  have H2 := Lib.hid h2
  obtain ⟨Y, hY⟩ : ∃ Y : ByteArray, (a ++ ⟨#[10]⟩ : ByteArray) = Y := ⟨_, rfl⟩
  rw [hY] at h1 h3 z1 z2
  obtain ⟨Z, hZ⟩ : ∃ Z : ByteArray, Y ++ b = Z := ⟨_, rfl⟩
  rw [hZ] at h3 z2
  have hYs : Y.size ≤ 2001 := by omega
  by_cases hea : ea = 0
  · subst hea
    rw [if_pos rfl] at h1 h3
    have hp1 : pre ta ([], 0 + a.size + 1, 0) = (ta, a.size + 1, 0) := by
      unfold pre
      rw [if_pos rfl, List.append_nil]
      show (ta, 0 + a.size + 1, (0 : Int)) = _
      rw [Nat.zero_add]
    rw [hp1] at h1
    have H1 := Lib.hid h1
    by_cases heb : eb = 0
    · subst heb
      have hp3 : pre ta (tb.map (shT (a.size + 1)), qb + (a.size + 1), 0) = (ta ++ tb.map (shT (a.size + 1)), qb + (a.size + 1), 0) := by
        unfold pre; rw [if_pos rfl]
      rw [Nat.zero_add] at hpl
      rw [hp3] at h3
      have H3 := Lib.hid h3
      obtain ⟨na, hla⟩ : ∃ n, ta.length = n := ⟨_, rfl⟩
      obtain ⟨nb, hlb⟩ : ∃ n, tb.length = n := ⟨_, rfl⟩
      have HLA := Lib.hid hla
      have HLB := Lib.hid hlb
      have HLC : Hid ((ta ++ tb.map (shT (a.size + 1))).length = na + nb) := by
        show (ta ++ tb.map (shT (a.size + 1))).length = na + nb
        rw [List.length_append, List.length_map, hla, hlb]
      have HPL := Lib.hid hpl
      have HPA := Lib.hid hpa
      rw [hla] at hna
      rw [hlb] at hnb
      clear h1 h2 h3 hen hen2 hpl hpa hp1 hp3 hla hlb z1 z2 hs1
      go_enter Tryd.func4, Tryd.ntmps4
      go_wp2_with fail
      refine (H1.out _ HE.out).mono ?_
      rintro e w1 ⟨v1, rfl, ho1, bw⟩
      have T1 := TokAt.of ho1
      dsimp only at T1
      obtain ⟨ao, cap, rfl⟩ := T1.len
      rw [HLA.out] at T1 ⊢
      clear ho1
      go_wp2_with fail
      refine (H2.out _ (HE.out.below bw)).mono ?_
      rintro e w2 ⟨v2, rfl, ho2, hb2⟩
      have T2 := TokAt.of ho2
      dsimp only at T2
      obtain ⟨bo, cap2, rfl⟩ := T2.len
      rw [HLB.out] at T2 ⊢
      replace T1 := T1.below hb2
      replace bw := two bw hb2
      clear ho2 hb2
      go_wp2_with fail
      refine (H3.out _ (HE.out.below bw)).mono ?_
      rintro e w3 ⟨v3, rfl, ho3, hb3⟩
      have T3 := TokAt.of ho3
      dsimp only at T3
      obtain ⟨co, cap3, rfl⟩ := T3.len
      rw [HLC.out] at T3 ⊢
      replace T1 := T1.below hb3
      replace T2 := T2.below hb3
      replace bw := two bw hb3
      clear ho3 hb3
      go_wp2_with fail
      go_loopw [92] (fun i wr => ∃ k : Nat, k ≤ na + nb ∧ i = .int .i64 k ∧ Below w.heap.size w wr ∧ TokAt wr (.slice ao na cap) ta ∧ TokAt wr (.slice bo nb cap2) tb ∧ TokAt wr (.slice co (na + nb) cap3) (ta ++ tb.map (shT (a.size + 1)))) (fun i _ => na + nb - (intOf i).toNat)
      case atStart => exact ⟨0, Nat.zero_le _, rfl, bw, T1, T2, T3⟩
      case round =>
        clear bw T1 T2 T3
        obtain ⟨k, hk, rfl, bw, T1, T2, T3⟩ := hrel
        have HT1 := Lib.hid T1
        have HT2 := Lib.hid T2
        have HT3 := Lib.hid T3
        clear T1 T2 T3
        by_cases hlt : k < na + nb
        · obtain ⟨t, ht⟩ : ∃ t, (ta ++ tb.map (shT (a.size + 1)))[k]? = some t := ⟨_, List.getElem?_eq_getElem (by rw [HLC.out]; exact hlt)⟩
          obtain ⟨g, rfl, hg, x0, x1, x2, x3⟩ := HT3.out.cells ht
          rcases app_at ht with ⟨hka, hta⟩ | ⟨j, u, hkj, htb, rfl⟩
          · rw [HLA.out] at hka
            obtain ⟨u, rfl⟩ : ∃ u, u = t := ⟨_, rfl⟩
            obtain ⟨f, rfl, hgy, y0, y1, y2, y3⟩ := HT1.out.cells hta
            have hup := HPA.out u (List.mem_of_getElem? hta)
            clear ht hta
            obtain ⟨X, hX⟩ : ∃ X : ByteArray, (⟨u.t.toArray⟩ : ByteArray) = X := ⟨_, rfl⟩
            rw [hX] at x1 y1
            have hXX : (X.toList == X.toList) = true := by simp
            obtain ⟨tk, htk⟩ : ∃ q, u.k = q := ⟨_, rfl⟩
            obtain ⟨tn, htn⟩ : ∃ q, u.n = q := ⟨_, rfl⟩
            obtain ⟨tp, htp⟩ : ∃ q : Int, (u.p : Int) = q := ⟨_, rfl⟩
            have htp0 : 0 ≤ tp := by omega
            have htp1 : tp ≤ 5000 := by omega
            rw [htk] at x0 y0
            rw [htn] at x2 y2
            rw [htp] at x3 y3
            have z0 := (World.cell?_alloc_past (.cells #[.int .i64 tk, .string X, .int .i64 tn, .int .i64 tp] 33) _ _ hgy).trans y0
            have z1 := (World.cell?_alloc_past (.cells #[.int .i64 tk, .string X, .int .i64 tn, .int .i64 tp] 33) _ _ hgy).trans y1
            have z2 := (World.cell?_alloc_past (.cells #[.int .i64 tk, .string X, .int .i64 tn, .int .i64 tp] 33) _ _ hgy).trans y2
            have z3 := (World.cell?_alloc_past (.cells #[.int .i64 tk, .string X, .int .i64 tn, .int .i64 tp] 33) _ _ hgy).trans y3
            clear hX htk htn htp
            as_aux_lemma =>
              go_wp2_with fail
              go_roundw
              case rel => exact ⟨k + 1, by omega, by go_num, (bw.alloc bw.size _).alloc (by have := bw.size; simp only [World.size_alloc]; omega) _, HT1.out.below (by go_grown), HT2.out.below (by go_grown), HT3.out.below (by go_grown)⟩
              case measure => simp [intOf]; omega
          · rw [HLA.out] at hkj
            subst hkj
            obtain ⟨f, rfl, hgy, y0, y1, y2, y3⟩ := HT2.out.cells htb
            have hup := HPL.out u (List.mem_of_getElem? htb)
            replace x0 : wr.cell? ⟨g, (na + j) * 4, none⟩ = some (.int .i64 u.k) := x0
            replace x1 : wr.cell? ⟨g, (na + j) * 4 + 1, none⟩ = some (.string ⟨u.t.toArray⟩) := x1
            replace x2 : wr.cell? ⟨g, (na + j) * 4 + 2, none⟩ = some (.int .i64 u.n) := x2
            replace x3 : wr.cell? ⟨g, (na + j) * 4 + 3, none⟩ = some (.int .i64 ((u.p : Int) + ((a.size : Int) + 1))) := x3
            have hjb : j < nb := by omega
            clear ht htb
            obtain ⟨X, hX⟩ : ∃ X : ByteArray, (⟨u.t.toArray⟩ : ByteArray) = X := ⟨_, rfl⟩
            rw [hX] at x1 y1
            have hXX : (X.toList == X.toList) = true := by simp
            obtain ⟨tk, htk⟩ : ∃ q, u.k = q := ⟨_, rfl⟩
            obtain ⟨tn, htn⟩ : ∃ q, u.n = q := ⟨_, rfl⟩
            obtain ⟨tp, htp⟩ : ∃ q : Int, (u.p : Int) = q := ⟨_, rfl⟩
            have htp0 : 0 ≤ tp := by omega
            have htp1 : tp ≤ 5000 := by omega
            rw [htk] at x0 y0
            rw [htn] at x2 y2
            rw [htp] at x3 y3
            have z0 := (World.cell?_alloc_past (.cells #[.int .i64 tk, .string X, .int .i64 tn, .int .i64 (tp + ((a.size : Int) + 1))] 33) _ _ hgy).trans y0
            have z1 := (World.cell?_alloc_past (.cells #[.int .i64 tk, .string X, .int .i64 tn, .int .i64 (tp + ((a.size : Int) + 1))] 33) _ _ hgy).trans y1
            have z2 := (World.cell?_alloc_past (.cells #[.int .i64 tk, .string X, .int .i64 tn, .int .i64 (tp + ((a.size : Int) + 1))] 33) _ _ hgy).trans y2
            have z3 := (World.cell?_alloc_past (.cells #[.int .i64 tk, .string X, .int .i64 tn, .int .i64 (tp + ((a.size : Int) + 1))] 33) _ _ hgy).trans y3
            clear hX htk htn htp
            as_aux_lemma =>
              go_wp2_with fail
              go_roundw
              case rel => exact ⟨na + j + 1, by omega, by go_num, (bw.alloc bw.size _).alloc (by have := bw.size; simp only [World.size_alloc]; omega) _, HT1.out.below (by go_grown), HT2.out.below (by go_grown), HT3.out.below (by go_grown)⟩
              case measure => simp [intOf]; omega
        · skip
          go_wp2_with fail
          refine (awake_any _ (HE.out.below bw)).mono ?_
          rintro e w9 ⟨rfl, hb⟩
          go_wp2_with fail
          go_ret
          exact ⟨rfl, two bw hb⟩
    · have hnil := hen2 heb
      subst hnil
      have hp3 : pre ta (([] : List Tok).map (shT (a.size + 1)), qb + (a.size + 1), eb) = ([], qb + (a.size + 1), eb) := by
        unfold pre; rw [if_neg heb]
      rw [hp3] at h3
      have H3 := Lib.hid h3
      have hne : ((eb : Int) != 0) = true := by simpa using heb
      have hne2 : ((eb : Int) == 0) = false := by simpa using heb
      clear h1 h2 h3 hen hen2 hpl hp1 hp3 z1 z2 hs1 hpa
      as_aux_lemma =>
        go_enter Tryd.func4, Tryd.ntmps4
        go_wp2_with fail
        refine (H1.out _ HE.out).mono ?_
        rintro e w1 ⟨v1, rfl, ho1, bw⟩
        obtain ⟨ao, cap, rfl⟩ := (TokAt.of ho1).len
        clear ho1
        go_wp2_with fail
        refine (H2.out _ (HE.out.below bw)).mono ?_
        rintro e w2 ⟨v2, rfl, ho2, hb2⟩
        obtain ⟨bo, cap2, rfl⟩ := (TokAt.of ho2).len
        replace bw := two bw hb2
        clear ho2 hb2
        go_wp2_with fail
        refine (H3.out _ (HE.out.below bw)).mono ?_
        rintro e w3 ⟨v3, rfl, ho3, hb3⟩
        obtain ⟨co, cap3, rfl⟩ := (TokAt.of ho3).len
        replace bw := two bw hb3
        clear ho3 hb3
        dsimp only [List.length_nil]
        obtain ⟨P, hP⟩ : ∃ P : Int, ((qb + (a.size + 1) : Nat) : Int) = P := ⟨_, rfl⟩
        rw [hP]
        have hPP : (P == (a.size : Int) + 1 + (qb : Int)) = true := by rw [beq_iff_eq]; omega
        have hqb := HQB.out
        clear hP
        go_wp2_with fail
        refine (awake_any _ (HE.out.below bw)).mono ?_
        rintro e w9 ⟨rfl, hb⟩
        go_wp2_with fail
        go_ret
        exact ⟨rfl, two bw hb⟩
  · have hnil := hen hea
    subst hnil
    rw [if_neg hea] at h1 h3
    have H1 := Lib.hid h1
    have H3 := Lib.hid h3
    have hne : ((ea : Int) != 0) = true := by simpa using hea
    have hne2 : ((ea : Int) == 0) = false := by simpa using hea
    clear h1 h2 h3 hen hen2 hpl z1 z2 hs1 hpa
    as_aux_lemma =>
      go_enter Tryd.func4, Tryd.ntmps4
      go_wp2_with fail
      refine (H1.out _ HE.out).mono ?_
      rintro e w1 ⟨v1, rfl, ho1, bw⟩
      clear ho1
      go_wp2_with fail
      refine (H2.out _ (HE.out.below bw)).mono ?_
      rintro e w2 ⟨v2, rfl, ho2, hb2⟩
      replace bw := two bw hb2
      clear ho2 hb2
      go_wp2_with fail
      refine (H3.out _ (HE.out.below bw)).mono ?_
      rintro e w3 ⟨v3, rfl, ho3, hb3⟩
      replace bw := two bw hb3
      clear ho3 hb3
      go_wp2_with fail
      refine (awake_any _ (HE.out.below bw)).mono ?_
      rintro e w9 ⟨rfl, hb⟩
      go_wp2_with fail
      go_ret
      exact ⟨rfl, two bw hb⟩
end Go.Proofs.YtpfgfejcaofjiaaDoor.Lx
