/- Walks: the law on tokens written down. -/
import Derived.Test.YtpfgfejcaofjiaaDoorShowWalk
set_option linter.unusedVariables false
set_option linter.unusedSimpArgs false
namespace Go.Proofs.YtpfgfejcaofjiaaDoor.Lx
open Go.RowKit Go Ba Va

set_option maxRecDepth 100000 in
set_option maxHeartbeats 3200000 in
theorem shows_law (s : ByteArray) (w : World) (hE : EnvL w) :
    Calls Tryd.prog 5 #[.string s] w fun e w' => e = .returned (.bool true) ∧ Below w.heap.size w w' := by
  have HE := Lib.hid hE
  clear hE
  by_cases hs : 2000 < s.size
  · have bw : Below w.heap.size w w := Below.refl _ _
    go_enter Tryd.func5, Tryd.ntmps5
    go_wp2_with fail
    refine (awake_any _ (HE.out.below bw)).mono ?_
    rintro e w9 ⟨rfl, hb⟩
    go_wp2_with fail
    go_ret
    exact ⟨rfl, two bw hb⟩
  have H1 := Lib.hid (fun W hW => lex_any s W (by omega) hW)
  have HER := Lib.hid (fun h => lexS_err (l := s.data.toList) h)
  have HOK := Lib.hid (fun h => lexS_ok (l := s.data.toList) h)
  obtain ⟨x, hx⟩ : ∃ x, lexS s.data.toList = x := ⟨_, rfl⟩
  rw [hx] at H1 HER HOK
  obtain ⟨ts, q, er⟩ := x
  clear hx
  by_cases her : er = 0
  · subst her
    obtain ⟨b0, _, b1, b2, b3⟩ := HOK.out rfl
    rw [← size_list] at b2 b3
    have hN := textL_len ts
    have hN4 : (textL ts).length ≤ 4000 := by
      rw [hN]
      have e1 : (ts.map fun t => (sh t).length).sum ≤ s.size := b2
      have e2 : ts.length ≤ s.size := b3
      omega
    have HTO := Lib.hid b1
    have HTA := Lib.hid (textL_take ts)
    obtain ⟨ts2, q2, hl2, hsame⟩ := lex_text ts b1 0
    have hls : lexS (textL ts) = (ts2, q2, 0) := by
      unfold lexS
      rw [if_neg (by omega), hl2]
    have HLS := Lib.hid hls
    have HSAME := Lib.hid hsame
    obtain ⟨n, hlen⟩ : ∃ n, ts.length = n := ⟨_, rfl⟩
    have HLEN := Lib.hid hlen
    have HLEN2 : Hid (ts2.length = n) := by show ts2.length = n; rw [hsame.len]; exact hlen
    have hn2 : n ≤ 2000 := by rw [← hlen]; have : ts.length ≤ s.size := b3; omega
    clear HER HOK b0 b1 b2 b3 hN hl2 hls hsame hlen
    go_enter Tryd.func5, Tryd.ntmps5
    go_wp2_with fail
    refine (H1.out _ HE.out).mono ?_
    rintro e w1 ⟨v, rfl, ho1, bw⟩
    have T1 := TokAt.of ho1
    dsimp only at T1
    obtain ⟨ao, cap, rfl⟩ := T1.len
    rw [HLEN.out] at T1 ⊢
    clear ho1
    go_wp2_with fail
    go_loopw [6, 33] (fun x i wr => ∃ (k : Nat) (X : ByteArray), k ≤ n ∧ i = .int .i64 k ∧ x = .string X ∧ Hid (X.data.toList = textL (ts.take k)) ∧ Below w.heap.size w wr ∧ TokAt wr (.slice ao n cap) ts) (fun _ i _ => n - (intOf i).toNat)
    case atStart => exact ⟨0, ⟨#[]⟩, Nat.zero_le _, rfl, rfl, rfl, bw, T1⟩
    case round =>
      clear bw T1
      obtain ⟨k, X, hk, rfl, rfl, HX, bw, T1⟩ := hrel
      have HT1 := Lib.hid T1
      clear T1
      by_cases hlt : k < n
      · obtain ⟨t, ht⟩ : ∃ t, ts[k]? = some t := ⟨_, List.getElem?_eq_getElem (by rw [HLEN.out]; exact hlt)⟩
        obtain ⟨g, rfl, hg, x0, x1, x2, x3⟩ := HT1.out.cells ht
        have hto := HTO.out t (List.mem_of_getElem? ht)
        have HSH := Lib.hid (fun W hW => tokShow_is t hto W hW)
        have hst := textL_step ht
        have hta := HTA.out (k + 1)
        rw [hst, List.length_append, List.length_append, List.length_singleton, ← HX.out, ← size_list] at hta
        obtain ⟨S, hS⟩ : ∃ S : ByteArray, (⟨(sh t).toArray⟩ : ByteArray) = S := ⟨_, rfl⟩
        have hSs : S.size = (sh t).length := by rw [← hS, str_size]
        have hSd : S.data.toList = sh t := by rw [← hS]
        have hS2 : X.size + S.size + 1 ≤ 4000 := by omega
        rw [hS] at HSH
        have HX2 : Hid ((X ++ (S ++ ⟨#[32]⟩)).data.toList = textL (ts.take (k + 1))) := by
          show (X ++ (S ++ ⟨#[32]⟩)).data.toList = textL (ts.take (k + 1))
          rw [add_data, add_data, HX.out, hSd, hst]
        have hs1 : (⟨#[32]⟩ : ByteArray).size = 1 := rfl
        have hsa : (S ++ (⟨#[32]⟩ : ByteArray)).size = S.size + 1 := by rw [ByteArray.size_append]; rfl
        obtain ⟨Y, hY⟩ : ∃ Y : ByteArray, (⟨t.t.toArray⟩ : ByteArray) = Y := ⟨_, rfl⟩
        rw [hY] at x1 HSH
        obtain ⟨tk, htk⟩ : ∃ q, t.k = q := ⟨_, rfl⟩
        obtain ⟨tn, htn⟩ : ∃ q, t.n = q := ⟨_, rfl⟩
        obtain ⟨tp, htp⟩ : ∃ q : Int, (t.p : Int) = q := ⟨_, rfl⟩
        rw [htk] at x0 HSH
        rw [htn] at x2 HSH
        rw [htp] at x3 HSH
        have bw1 := bw.alloc bw.size (.cells #[.int .i64 tk, .string Y, .int .i64 tn, .int .i64 tp] 33)
        clear ht hto hst hta hS hSs hSd hY htk htn htp HX
        go_wp2_with fail
        clear x0 x1 x2 x3
        refine (HSH.out _ (HE.out.below bw1).pow).mono ?_
        rintro e w2 ⟨rfl, hb⟩
        replace bw := two bw1 hb
        have T2 := HT1.out.below ((by go_grown : Below wr.heap.size wr (wr.alloc (.cells #[.int .i64 tk, .string Y, .int .i64 tn, .int .i64 tp] 33))).trans (hb.mono (by simp)))
        clear hb bw1 HT1
        go_wp2_with fail
        go_roundw
        case rel => exact ⟨k + 1, _, by omega, by go_num, rfl, HX2, bw, T2⟩
        case measure => simp [intOf]; omega
      · have ek : k = n := by omega
        rw [ek] at HX
        clear hk hlt
        have ekn : (k : Int) = n := by omega
        rw [ekn]
        clear ek ekn
        have hX4 : X.size ≤ 4000 := by
          have := HTA.out n
          rw [← HX.out, ← size_list] at this
          omega
        have hXL : X.data.toList = textL ts := by rw [HX.out, List.take_of_length_le (by rw [HLEN.out]; exact Nat.le_refl _)]
        have h2 := fun W hW => lex_any X W (by omega) hW
        rw [hXL, HLS.out] at h2
        have H2 := Lib.hid h2
        clear h2 hXL HX
        go_wp2_with fail
        refine (H2.out _ (HE.out.below bw)).mono ?_
        rintro e w3 ⟨v2, rfl, ho2, hb⟩
        have T2 := TokAt.of ho2
        dsimp only at T2
        obtain ⟨bo, cap2, rfl⟩ := T2.len
        rw [HLEN2.out] at T2 ⊢
        have T1 := HT1.out.below hb
        replace bw := two bw hb
        clear ho2 hb HT1
        go_wp2_with fail
        go_loopw [60] (fun i wr => ∃ k : Nat, k ≤ n ∧ i = .int .i64 k ∧ Below w.heap.size w wr ∧ TokAt wr (.slice ao n cap) ts ∧ TokAt wr (.slice bo n cap2) ts2) (fun i _ => n - (intOf i).toNat)
        case atStart => exact ⟨0, Nat.zero_le _, rfl, bw, T1, T2⟩
        case round =>
          clear bw T1 T2
          obtain ⟨k, hk, rfl, bw, T1, T2⟩ := hrel
          have HT1 := Lib.hid T1
          have HT2 := Lib.hid T2
          clear T1 T2
          by_cases hlt : k < n
          · obtain ⟨t, ht⟩ : ∃ t, ts[k]? = some t := ⟨_, List.getElem?_eq_getElem (by rw [HLEN.out]; exact hlt)⟩
            obtain ⟨u, hu⟩ : ∃ u, ts2[k]? = some u := ⟨_, List.getElem?_eq_getElem (by rw [HSAME.out.len, HLEN.out]; exact hlt)⟩
            obtain ⟨e1, e2, e3⟩ := HSAME.out.at hu ht
            obtain ⟨g, rfl, hg, x0, x1, x2, x3⟩ := HT1.out.cells ht
            obtain ⟨f, rfl, hf, y0, y1, y2, y3⟩ := HT2.out.cells hu
            rw [e1] at y0
            rw [e2] at y1
            rw [e3] at y2
            obtain ⟨X, hX⟩ : ∃ X : ByteArray, (⟨t.t.toArray⟩ : ByteArray) = X := ⟨_, rfl⟩
            rw [hX] at x1 y1
            have hXX : (X.toList == X.toList) = true := by simp
            obtain ⟨tk, htk⟩ : ∃ q, t.k = q := ⟨_, rfl⟩
            obtain ⟨tn, htn⟩ : ∃ q, t.n = q := ⟨_, rfl⟩
            rw [htk] at x0 y0
            rw [htn] at x2 y2
            clear ht hu e1 e2 e3 hX htk htn x3 y3
            go_wp2_with fail
            go_quiet (fail)
            go_wp2_with fail
            go_roundw
            case rel => exact ⟨k + 1, by omega, by go_num, Below.drewN bw _, HT1.out.below (Below.drewN (Below.refl _ _) _), HT2.out.below (Below.drewN (Below.refl _ _) _)⟩
            case measure => simp [intOf]; omega
          · skip
            go_wp2_with fail
            refine (awake_any _ (HE.out.below bw)).mono ?_
            rintro e w9 ⟨rfl, hb⟩
            go_wp2_with fail
            go_ret
            exact ⟨rfl, two bw hb⟩
  · obtain rfl := HER.out her
    have hne : ((er : Int) != 0) = true := by simpa using her
    have hne2 : ((er : Int) == 0) = false := by simpa using her
    go_enter Tryd.func5, Tryd.ntmps5
    go_wp2_with fail
    refine (H1.out _ HE.out).mono ?_
    rintro e w1 ⟨v, rfl, ho1, bw⟩
    obtain ⟨ao, cap, rfl⟩ := (TokAt.of ho1).len
    clear ho1
    dsimp only [List.length_nil]
    go_wp2_with fail
    refine (awake_any _ (HE.out.below bw)).mono ?_
    rintro e w9 ⟨rfl, hb⟩
    go_wp2_with fail
    go_ret
    exact ⟨rfl, two bw hb⟩
end Go.Proofs.YtpfgfejcaofjiaaDoor.Lx
