/- Walks: the law on what stands between tokens. -/
import Derived.Test.YtpfgfejcaofjiaaDoorShowWalk
set_option linter.unusedVariables false
set_option linter.unusedSimpArgs false
namespace Go.Proofs.YtpfgfejcaofjiaaDoor.Lx
open Go.RowKit Go Ba Va

theorem lex_many (s : ByteArray) (w : World) (h16 : 16384 < s.size) : Calls Tryd.prog 9 #[.string s] w fun e w' => e = .returned (.tuple #[.slice none 0 0, .int .i64 0, .int .i64 31]) ∧ w = w' := by
  go_enter Tryd.func9, Tryd.ntmps9
  go_wp2_with fail
  refine bodyPost_ret (v := .tuple #[.slice none 0 0, .int .i64 0, .int .i64 31]) (by simp [results, Tryd.results9, go_sem]) rfl ?_
  exact ⟨rfl, rfl⟩
/-- The end of line that is put behind every other token, and behind each where there is no gap. -/
def zG (g : List UInt8) (i : Nat) : List UInt8 := if i % 2 = 0 ∨ g = [] then [10] else []
theorem zG_ws (g : List UInt8) (i : Nat) : (zG g i).all wsB = true := by unfold zG; split <;> rfl
theorem zG_len (g : List UInt8) (i : Nat) : (zG g i).length ≤ 1 := by unfold zG; split <;> simp
theorem all_snoc {l : List UInt8} {k : Nat} {b : UInt8} (h : l[k]? = some b) (hb : wsB b = true) (ha : (l.take k).all wsB = true) : (l.take (k + 1)).all wsB = true := by
  rw [take_one l k b h, List.all_append, ha]; simp [hb]
theorem ws_not {b : UInt8} (h : wsB b = false) : ((b.toNat : Int) == 32) = false ∧ ((b.toNat : Int) == 9) = false ∧ ((b.toNat : Int) == 10) = false := by
  unfold wsB at h
  simp only [decide_eq_false_iff_not, not_or] at h
  exact ⟨bne_byte (n := 32) (by decide) h.1, bne_byte (n := 9) (by decide) h.2.1, bne_byte (n := 10) (by decide) h.2.2⟩
theorem sum_mem {ts : List Tok} {t : Tok} (h : t ∈ ts) : (sh t).length ≤ (ts.map fun t => (sh t).length).sum := by
  induction ts with
  | nil => cases h
  | cons u ts ih =>
    rw [List.map_cons, List.sum_cons]
    rcases List.mem_cons.1 h with rfl | h
    · omega
    · have := ih h; omega
set_option maxRecDepth 100000 in
set_option maxHeartbeats 6400000 in
theorem gaps_law (s gap : ByteArray) (w : World) (hE : EnvL w) :
    Calls Tryd.prog 6 #[.string s, .string gap] w fun e w' => e = .returned (.bool true) ∧ Below w.heap.size w w' := by
  have HE := Lib.hid hE
  clear hE
  by_cases hs : 1000 < s.size
  · have bw : Below w.heap.size w w := Below.refl _ _
    go_enter Tryd.func6, Tryd.ntmps6
    go_wp2_with fail
    refine (awake_any _ (HE.out.below bw)).mono ?_
    rintro e w9 ⟨rfl, hb⟩
    go_wp2_with fail
    go_ret
    exact ⟨rfl, two bw hb⟩
  by_cases hg : 50 < gap.size
  · have bw : Below w.heap.size w w := Below.refl _ _
    go_enter Tryd.func6, Tryd.ntmps6
    go_wp2_with fail
    refine (awake_any _ (HE.out.below bw)).mono ?_
    rintro e w9 ⟨rfl, hb⟩
    go_wp2_with fail
    go_ret
    exact ⟨rfl, two bw hb⟩
  have H1 := Lib.hid (fun W hW => lex_any s W (by omega) hW)
  have HOK := Lib.hid (fun h => lexS_ok (l := s.data.toList) h)
  obtain ⟨x, hx⟩ : ∃ x, lexS s.data.toList = x := ⟨_, rfl⟩
  rw [hx] at H1 HOK
  obtain ⟨ts, q, er⟩ := x
  clear hx
  have hcv := fun w => Lib.run_convert_string_bytes (P := Tryd.prog) w 9 36 5 gap Tryd.underlying9 Tryd.underlying36 Tryd.underlying5
  obtain ⟨C, m, hrow, hC⟩ := bytes_row (w := w) 5 gap
  have bw := Lib.bytesWorld_below w 5 gap
  have HC := Lib.hid hC
  clear hC
  go_enter Tryd.func6, Tryd.ntmps6
  go_wp2_with fail
  clear hcv
  generalize Lib.bytesWorld w 5 gap = wB at *
  go_loop [29] (fun i => ∃ k : Nat, k ≤ gap.size ∧ i = .int .i64 k ∧ Hid ((gap.data.toList.take k).all wsB = true)) (fun i => gap.size - (intOf i).toNat)
  case atStart => exact ⟨0, Nat.zero_le _, rfl, rfl⟩
  case round =>
    obtain ⟨k, hk, rfl, HW⟩ := hrel
    by_cases hlt : k < gap.size
    · obtain ⟨b, hbk⟩ := bat gap k hlt
      have hc : wB.cell? ⟨w.heap.size, k, none⟩ = some (.int .u8 b.toNat) := by rw [cell_of_row _ _ _ _ _ _ hrow]; exact HC.out k b hbk
      have hb8 := byte_lt b
      cases hb : wsB b
      · obtain ⟨t1, t2, t3⟩ := ws_not hb
        have t4 : ((b.toNat : Int) != 32) = true := by simpa using t1
        have t5 : ((b.toNat : Int) != 9) = true := by simpa using t2
        have t6 : ((b.toNat : Int) != 10) = true := by simpa using t3
        clear hb hbk
        as_aux_lemma =>
          go_wp2_with fail
          refine (awake_any _ (HE.out.below bw)).mono ?_
          rintro e w9 ⟨rfl, hb⟩
          go_wp2_with fail
          go_ret
          exact ⟨rfl, two bw hb⟩
      · have HW2 := Lib.hid (all_snoc hbk hb HW.out)
        have hw' : b = 32 ∨ b = 9 ∨ b = 10 := by unfold wsB at hb; exact of_decide_eq_true hb
        clear hb hbk
        rcases hw' with rfl | rfl | rfl
        all_goals
          as_aux_lemma =>
            go_wp2_with fail
            go_round
            case rel => exact ⟨k + 1, by omega, by go_num, HW2⟩
            case measure => simp [intOf]; omega
    · have HGW : Hid (gap.data.toList.all wsB = true) := by
        show gap.data.toList.all wsB = true
        have := HW.out
        rw [List.take_of_length_le (by rw [← size_list]; omega)] at this
        exact this
      clear HW hrow
      by_cases her : er = 0
      · subst her
        as_aux_lemma =>
          obtain ⟨b0, _, b1, b2, b3⟩ := HOK.out rfl
          rw [← size_list] at b2 b3
          have HTO := Lib.hid b1
          have HB2 : Hid ((ts.map fun t => (sh t).length).sum ≤ s.size) := b2
          obtain ⟨ts2, q2, hl2, hsame⟩ := lex_textG HGW.out (zG_ws gap.data.toList) ts b1 0 (0 + gap.data.toList.length)
          have hlx : lexL (gap.data.toList ++ textG gap.data.toList (zG gap.data.toList) 0 ts) 0 = (ts2, q2, 0) := by rw [ws_skip _ HGW.out]; exact hl2
          have HLX := Lib.hid hlx
          have HSAME := Lib.hid hsame
          obtain ⟨n, hlen⟩ : ∃ n, ts.length = n := ⟨_, rfl⟩
          have HLEN := Lib.hid hlen
          have HLEN2 : Hid (ts2.length = n) := by show ts2.length = n; rw [hsame.len]; exact hlen
          have hn2 : n ≤ 1000 := by rw [← hlen]; have : ts.length ≤ s.size := b3; omega
          clear HOK b0 b1 b2 b3 hl2 hlx hsame hlen HC
          go_wp2_with fail
          refine (H1.out _ (HE.out.below bw)).mono ?_
          rintro e w1 ⟨v, rfl, ho1, hb⟩
          have T1 := TokAt.of ho1
          dsimp only at T1
          obtain ⟨ao, cap, rfl⟩ := T1.len
          rw [HLEN.out] at T1 ⊢
          replace bw := two bw hb
          clear ho1 hb
          go_wp2_with fail
          go_loopw [10, 57] (fun x i wr => ∃ (k : Nat) (X : ByteArray), k ≤ n ∧ i = .int .i64 k ∧ x = .string X ∧ Hid (X.data.toList = gap.data.toList ++ textG gap.data.toList (zG gap.data.toList) 0 (ts.take k)) ∧ X.size ≤ 50 + k * 2000 ∧ Below w.heap.size w wr ∧ TokAt wr (.slice ao n cap) ts) (fun _ i _ => n - (intOf i).toNat)
          case atStart => exact ⟨0, gap, Nat.zero_le _, rfl, rfl, by show gap.data.toList = _; rw [List.take_zero]; show gap.data.toList = gap.data.toList ++ []; simp, by omega, bw, T1⟩
          case round =>
            clear bw T1
            obtain ⟨k, X, hk, rfl, rfl, HX, hXs, bw, T1⟩ := hrel
            have HT1 := Lib.hid T1
            clear T1
            by_cases hlt : k < n
            · obtain ⟨t, ht⟩ : ∃ t, ts[k]? = some t := ⟨_, List.getElem?_eq_getElem (by rw [HLEN.out]; exact hlt)⟩
              obtain ⟨g, rfl, hg, x0, x1, x2, x3⟩ := HT1.out.cells ht
              have hto := HTO.out t (List.mem_of_getElem? ht)
              have hsm := sum_mem (List.mem_of_getElem? ht)
              have hsm2 : (sh t).length ≤ 1000 := by have := HB2.out; omega
              have HSH := Lib.hid (fun W hW => tokShow_is t hto W hW)
              have HSTEP : Hid (textG gap.data.toList (zG gap.data.toList) 0 (ts.take (k + 1)) = textG gap.data.toList (zG gap.data.toList) 0 (ts.take k) ++ (sh t ++ tailG gap.data.toList (zG gap.data.toList k))) := by
                show textG gap.data.toList (zG gap.data.toList) 0 (ts.take (k + 1)) = _
                rw [take_one ts k t ht, textG_snoc, List.length_take, HLEN.out, Nat.zero_add, Nat.min_eq_left (by omega)]
              obtain ⟨S, hS⟩ : ∃ S : ByteArray, (⟨(sh t).toArray⟩ : ByteArray) = S := ⟨_, rfl⟩
              have hSs : S.size ≤ 1000 := by rw [← hS, str_size]; exact hsm2
              have HSD : Hid (S.data.toList = sh t) := by show S.data.toList = sh t; rw [← hS]
              rw [hS] at HSH
              have hs1 : (⟨#[35]⟩ : ByteArray).size = 1 := rfl
              have hs2 : (⟨#[10]⟩ : ByteArray).size = 1 := rfl
              have hs3 : (⟨#[32, 10]⟩ : ByteArray).size = 2 := rfl
              have hXb : X.size ≤ 2000050 := by omega
              obtain ⟨Y, hY⟩ : ∃ Y : ByteArray, (⟨t.t.toArray⟩ : ByteArray) = Y := ⟨_, rfl⟩
              rw [hY] at x1 HSH
              obtain ⟨tk, htk⟩ : ∃ q, t.k = q := ⟨_, rfl⟩
              obtain ⟨tn, htn⟩ : ∃ q, t.n = q := ⟨_, rfl⟩
              obtain ⟨tp, htp⟩ : ∃ q : Int, (t.p : Int) = q := ⟨_, rfl⟩
              rw [htk] at x0 HSH
              rw [htn] at x2 HSH
              rw [htp] at x3 HSH
              have bw1 := bw.alloc bw.size (.cells #[.int .i64 tk, .string Y, .int .i64 tn, .int .i64 tp] 33)
              clear ht hto hsm hS hY htk htn htp
              by_cases he : k % 2 = 0
              · have HZ : Hid (zG gap.data.toList k = [10]) := by show zG gap.data.toList k = [10]; unfold zG; rw [if_pos (.inl he)]
                have hk2 : ((k : Int) % 2 == 0) = true := by rw [beq_iff_eq]; omega
                clear he
                as_aux_lemma =>
                  have HX2 : Hid ((((X ++ (((S ++ gap) ++ ⟨#[35]⟩) ++ gap)) ++ ⟨#[10]⟩) ++ ⟨#[32, 10]⟩).data.toList = gap.data.toList ++ textG gap.data.toList (zG gap.data.toList) 0 (ts.take (k + 1))) := by
                    show (((X ++ (((S ++ gap) ++ ⟨#[35]⟩) ++ gap)) ++ ⟨#[10]⟩) ++ ⟨#[32, 10]⟩).data.toList = _
                    have hzz : zG gap.data.toList k = [10] := HZ.out
                    rw [HSTEP.out, hzz, ← HSD.out]
                    simp only [add_data, HX.out, tailG]
                    simp
                  have hsz4 : (((X ++ (((S ++ gap) ++ ⟨#[35]⟩) ++ gap)) ++ ⟨#[10]⟩) ++ ⟨#[32, 10]⟩).size ≤ 50 + (k + 1) * 2000 := by
                    simp only [ByteArray.size_append, hs1, hs2, hs3]
                    omega
                  go_wp2_with fail
                  clear x0 x1 x2 x3
                  refine (HSH.out _ (HE.out.below bw1).pow).mono ?_
                  rintro e w2 ⟨rfl, hb⟩
                  replace bw := two bw1 hb
                  have T2 := HT1.out.below ((by go_grown : Below wr.heap.size wr (wr.alloc (.cells #[.int .i64 tk, .string Y, .int .i64 tn, .int .i64 tp] 33))).trans (hb.mono (by simp)))
                  clear hb bw1 HT1
                  go_wp2_with fail
                  go_roundw
                  case rel => exact ⟨k + 1, _, by omega, by go_num, rfl, HX2, hsz4, bw, T2⟩
                  case measure => simp [intOf]; omega
              have hk2 : ((k : Int) % 2 == 0) = false := by rw [beq_eq_false_iff_ne]; omega
              cases hge : gap.toList.isEmpty
              · have HZ : Hid (zG gap.data.toList k = []) := by
                  show zG gap.data.toList k = []
                  unfold zG
                  rw [if_neg]
                  rintro (h | h)
                  · exact he h
                  · rw [Lib.toList_data, h] at hge; cases hge
                have hge2 : (gap.toList == []) = false := by
                  rw [beq_eq_false_iff_ne]
                  intro h
                  rw [h] at hge; cases hge
                clear he
                as_aux_lemma =>
                  have HX2 : Hid (((X ++ (((S ++ gap) ++ ⟨#[35]⟩) ++ gap)) ++ ⟨#[32, 10]⟩).data.toList = gap.data.toList ++ textG gap.data.toList (zG gap.data.toList) 0 (ts.take (k + 1))) := by
                    show ((X ++ (((S ++ gap) ++ ⟨#[35]⟩) ++ gap)) ++ ⟨#[32, 10]⟩).data.toList = _
                    have hzz : zG gap.data.toList k = [] := HZ.out
                    rw [HSTEP.out, hzz, ← HSD.out]
                    simp only [add_data, HX.out, tailG]
                    simp
                  have hsz4 : ((X ++ (((S ++ gap) ++ ⟨#[35]⟩) ++ gap)) ++ ⟨#[32, 10]⟩).size ≤ 50 + (k + 1) * 2000 := by
                    simp only [ByteArray.size_append, hs1, hs2, hs3]
                    omega
                  go_wp2_with fail
                  clear x0 x1 x2 x3
                  refine (HSH.out _ (HE.out.below bw1).pow).mono ?_
                  rintro e w2 ⟨rfl, hb⟩
                  replace bw := two bw1 hb
                  have T2 := HT1.out.below ((by go_grown : Below wr.heap.size wr (wr.alloc (.cells #[.int .i64 tk, .string Y, .int .i64 tn, .int .i64 tp] 33))).trans (hb.mono (by simp)))
                  clear hb bw1 HT1
                  go_wp2_with fail
                  go_roundw
                  case rel => exact ⟨k + 1, _, by omega, by go_num, rfl, HX2, hsz4, bw, T2⟩
                  case measure => simp [intOf]; omega
              · have HZ : Hid (zG gap.data.toList k = [10]) := by
                  show zG gap.data.toList k = [10]
                  unfold zG
                  rw [Lib.toList_data] at hge
                  exact if_pos (.inr (List.isEmpty_iff.1 hge))
                have hge2 : (gap.toList == []) = true := by
                  rw [beq_iff_eq]
                  exact List.isEmpty_iff.1 hge
                clear he
                as_aux_lemma =>
                  have HX2 : Hid ((((X ++ (((S ++ gap) ++ ⟨#[35]⟩) ++ gap)) ++ ⟨#[10]⟩) ++ ⟨#[32, 10]⟩).data.toList = gap.data.toList ++ textG gap.data.toList (zG gap.data.toList) 0 (ts.take (k + 1))) := by
                    show (((X ++ (((S ++ gap) ++ ⟨#[35]⟩) ++ gap)) ++ ⟨#[10]⟩) ++ ⟨#[32, 10]⟩).data.toList = _
                    have hzz : zG gap.data.toList k = [10] := HZ.out
                    rw [HSTEP.out, hzz, ← HSD.out]
                    simp only [add_data, HX.out, tailG]
                    simp
                  have hsz4 : (((X ++ (((S ++ gap) ++ ⟨#[35]⟩) ++ gap)) ++ ⟨#[10]⟩) ++ ⟨#[32, 10]⟩).size ≤ 50 + (k + 1) * 2000 := by
                    simp only [ByteArray.size_append, hs1, hs2, hs3]
                    omega
                  go_wp2_with fail
                  clear x0 x1 x2 x3
                  refine (HSH.out _ (HE.out.below bw1).pow).mono ?_
                  rintro e w2 ⟨rfl, hb⟩
                  replace bw := two bw1 hb
                  have T2 := HT1.out.below ((by go_grown : Below wr.heap.size wr (wr.alloc (.cells #[.int .i64 tk, .string Y, .int .i64 tn, .int .i64 tp] 33))).trans (hb.mono (by simp)))
                  clear hb bw1 HT1
                  go_wp2_with fail
                  go_roundw
                  case rel => exact ⟨k + 1, _, by omega, by go_num, rfl, HX2, hsz4, bw, T2⟩
                  case measure => simp [intOf]; omega
            · have ek : k = n := by omega
              rw [ek] at HX hXs
              clear hk hlt
              have ekn : (k : Int) = n := by omega
              rw [ekn]
              clear ek ekn
              have hXL : X.data.toList = gap.data.toList ++ textG gap.data.toList (zG gap.data.toList) 0 ts := by rw [HX.out, List.take_of_length_le (by rw [HLEN.out]; exact Nat.le_refl _)]
              by_cases h16 : 16384 < X.size
              · have HM := Lib.hid (fun W => lex_many X W h16)
                clear hXL HX
                as_aux_lemma =>
                  go_wp2_with fail
                  refine (HM.out _).mono ?_
                  rintro e w3 ⟨rfl, rfl⟩
                  go_wp2_with fail
                  refine (awake_any _ (HE.out.below bw)).mono ?_
                  rintro e w9 ⟨rfl, hb⟩
                  go_wp2_with fail
                  go_ret
                  exact ⟨rfl, two bw hb⟩
              · have hls : lexS X.data.toList = (ts2, q2, 0) := by
                  unfold lexS
                  rw [if_neg (by rw [← size_list]; exact h16), hXL, HLX.out]
                have h2 := fun W hW => lex_any X W (by omega) hW
                rw [hls] at h2
                have H2 := Lib.hid h2
                clear h2 hXL HX hls
                go_wp2_with fail
                refine (H2.out _ (HE.out.below bw)).mono ?_
                rintro e w3 ⟨v2, rfl, ho2, hb⟩
                have T2 := TokAt.of ho2
                dsimp only at T2
                obtain ⟨bo, cap2, rfl⟩ := T2.len
                rw [HLEN2.out] at T2 ⊢
                have T1 := HT1.out.below hb
                replace bw := two bw hb
                clear ho2 hb HT1
                go_wp2_with fail
                go_loopw [110] (fun i wr => ∃ k : Nat, k ≤ n ∧ i = .int .i64 k ∧ Below w.heap.size w wr ∧ TokAt wr (.slice ao n cap) ts ∧ TokAt wr (.slice bo n cap2) ts2) (fun i _ => n - (intOf i).toNat)
                case atStart => exact ⟨0, Nat.zero_le _, rfl, bw, T1, T2⟩
                case round =>
                  clear bw T1 T2
                  obtain ⟨k, hk, rfl, bw, T1, T2⟩ := hrel
                  have HT1 := Lib.hid T1
                  have HT2 := Lib.hid T2
                  clear T1 T2
                  by_cases hlt : k < n
                  · obtain ⟨t, ht⟩ : ∃ t, ts[k]? = some t := ⟨_, List.getElem?_eq_getElem (by rw [HLEN.out]; exact hlt)⟩
                    obtain ⟨u, hu⟩ : ∃ u, ts2[k]? = some u := ⟨_, List.getElem?_eq_getElem (by rw [HSAME.out.len, HLEN.out]; exact hlt)⟩
                    obtain ⟨e1, e2, e3⟩ := HSAME.out.at hu ht
                    obtain ⟨g, rfl, hg, x0, x1, x2, x3⟩ := HT1.out.cells ht
                    obtain ⟨f, rfl, hf, y0, y1, y2, y3⟩ := HT2.out.cells hu
                    rw [e1] at y0
                    rw [e2] at y1
                    rw [e3] at y2
                    obtain ⟨X, hX⟩ : ∃ X : ByteArray, (⟨t.t.toArray⟩ : ByteArray) = X := ⟨_, rfl⟩
                    rw [hX] at x1 y1
                    have hXX : (X.toList == X.toList) = true := by simp
                    obtain ⟨tk, htk⟩ : ∃ q, t.k = q := ⟨_, rfl⟩
                    obtain ⟨tn, htn⟩ : ∃ q, t.n = q := ⟨_, rfl⟩
                    rw [htk] at x0 y0
                    rw [htn] at x2 y2
                    clear ht hu e1 e2 e3 hX htk htn x3 y3
                    go_wp2_with fail
                    go_quiet (fail)
                    go_wp2_with fail
                    go_roundw
                    case rel => exact ⟨k + 1, by omega, by go_num, Below.drewN bw _, HT1.out.below (Below.drewN (Below.refl _ _) _), HT2.out.below (Below.drewN (Below.refl _ _) _)⟩
                    case measure => simp [intOf]; omega
                  · skip
                    go_wp2_with fail
                    refine (awake_any _ (HE.out.below bw)).mono ?_
                    rintro e w9 ⟨rfl, hb⟩
                    go_wp2_with fail
                    go_ret
                    exact ⟨rfl, two bw hb⟩
      · have hne : ((er : Int) != 0) = true := by simpa using her
        have hne2 : ((er : Int) == 0) = false := by simpa using her
        as_aux_lemma =>
          go_wp2_with fail
          refine (H1.out _ (HE.out.below bw)).mono ?_
          rintro e w1 ⟨v, rfl, ho1, hb⟩
          obtain ⟨ao, cap, rfl⟩ := (TokAt.of ho1).len
          replace bw := two bw hb
          clear ho1
          go_wp2_with fail
          refine (awake_any _ (HE.out.below bw)).mono ?_
          rintro e w9 ⟨rfl, hb⟩
          go_wp2_with fail
          go_ret
          exact ⟨rfl, two bw hb⟩
end Go.Proofs.YtpfgfejcaofjiaaDoor.Lx
