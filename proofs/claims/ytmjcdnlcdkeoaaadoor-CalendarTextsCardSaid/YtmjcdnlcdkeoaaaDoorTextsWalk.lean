/- Walks: the laws on texts of dates. -/
import Derived.Test.YtmjcdnlcdkeoaaaDoorDateShow
set_option linter.unusedVariables false
set_option linter.unusedSimpArgs false
namespace Go.Proofs.YtmjcdnlcdkeoaaaDoor.Cal
open Go.RowKit Go Ba Go.Sort

set_option maxHeartbeats 800000 in
theorem texts_rlo (n y m d h i k : Int) (w : World) (g : Right y m d h i k) (c : n < 0) (hE : Env w) (hR : Errs w) :
    Calls Tryd.prog 8 #[.int .i64 n, .agg #[.int .i64 y, .int .i64 m, .int .i64 d, .int .i64 h, .int .i64 i, .int .i64 k]] w fun e w' => e = .returned (.bool true) ∧ Below w.heap.size w w' := by
  have HE := Lib.hid hE
  have HRR := Lib.hid hR
  clear hE hR
  obtain ⟨ho, hf, hk⟩ := g
  have HO := Lib.hid ho
  have HK := Lib.hid hk
  have HMM := Lib.hid (fun W hL => minutes_ok y m d h i k W ho hf hk hL)
  clear ho hk hf
  obtain ⟨q, hq⟩ : ∃ q, mn y m d h i = q := ⟨_, rfl⟩
  rw [hq] at HMM
  clear hq
  go_enter Tryd.func8, Tryd.ntmps8
  go_wp2_with fail
  refine (HMM.out _ (HE.out.len.below (by go_grown))).mono ?_
  rintro e w1 ⟨rfl, hb⟩
  have bw := two (w := w) (by go_grown) hb
  clear hb
  go_wp2_with fail
  refine (awake_any _ (HE.out.below bw)).mono ?_
  rintro e w9 ⟨rfl, hb⟩
  replace bw := two bw hb
  clear hb
  go_wp2_with fail
  go_ret
  exact ⟨rfl, bw⟩
set_option maxHeartbeats 800000 in
theorem texts_rhi (n y m d h i k : Int) (w : World) (g : Right y m d h i k) (c0 : 0 ≤ n) (c : 2147483648 ≤ n) (hE : Env w) (hR : Errs w) :
    Calls Tryd.prog 8 #[.int .i64 n, .agg #[.int .i64 y, .int .i64 m, .int .i64 d, .int .i64 h, .int .i64 i, .int .i64 k]] w fun e w' => e = .returned (.bool true) ∧ Below w.heap.size w w' := by
  have HE := Lib.hid hE
  have HRR := Lib.hid hR
  clear hE hR
  obtain ⟨ho, hf, hk⟩ := g
  have HO := Lib.hid ho
  have HK := Lib.hid hk
  have HMM := Lib.hid (fun W hL => minutes_ok y m d h i k W ho hf hk hL)
  clear ho hk hf
  obtain ⟨q, hq⟩ : ∃ q, mn y m d h i = q := ⟨_, rfl⟩
  rw [hq] at HMM
  clear hq
  go_enter Tryd.func8, Tryd.ntmps8
  go_wp2_with fail
  refine (HMM.out _ (HE.out.len.below (by go_grown))).mono ?_
  rintro e w1 ⟨rfl, hb⟩
  have bw := two (w := w) (by go_grown) hb
  clear hb
  go_wp2_with fail
  refine (awake_any _ (HE.out.below bw)).mono ?_
  rintro e w9 ⟨rfl, hb⟩
  replace bw := two bw hb
  clear hb
  go_wp2_with fail
  go_ret
  exact ⟨rfl, bw⟩
set_option maxHeartbeats 1600000 in
theorem texts_rin (n y m d h i k : Int) (w : World) (g : Right y m d h i k) (c0 : 0 ≤ n) (c1 : n < 2147483648) (hE : Env w) (hR : Errs w) :
    Calls Tryd.prog 8 #[.int .i64 n, .agg #[.int .i64 y, .int .i64 m, .int .i64 d, .int .i64 h, .int .i64 i, .int .i64 k]] w fun e w' => e = .returned (.bool true) ∧ Below w.heap.size w w' := by
  obtain ⟨Y, M, D, hd⟩ := day_exists (n / 1440) (by omega)
  have hr := right_n c0 c1 hd
  have HD := Lib.hid hd
  obtain ⟨H, hH⟩ : ∃ H, n % 1440 / 60 = H := ⟨_, rfl⟩
  obtain ⟨I, hI⟩ : ∃ I, n % 60 = I := ⟨_, rfl⟩
  obtain ⟨K, hK⟩ : ∃ K, (n / 1440 + 6) % 7 = K := ⟨_, rfl⟩
  rw [hH, hI, hK] at hr
  have HH := Lib.hid hH
  have HI := Lib.hid hI
  have HK1 := Lib.hid hK
  have HR1 := Lib.hid hr
  obtain ⟨z0, z1, z2, z3, z4, z5, z6, z7, z8, z9⟩ := hr.bd
  have hlen := text_len hr
  have hst := showT_eq hr
  have HTX := fun W hW => show_six Y M D H I K W hW
  rw [hst] at HTX
  obtain ⟨S, hS⟩ : ∃ S : ByteArray, S = ⟨(text Y M D H I).toArray⟩ := ⟨_, rfl⟩
  have hSd : S.data.toList = text Y M D H I := by rw [hS]
  rw [← hS] at HTX
  have HRF := fun W => refShow_is Y M D H I K W z0 z1 z2 z3 z4 z5 z6 z7 z8 z9
  rw [← hS] at HRF
  have HPD := fun W hW hR => parse_date S W hW hR
  rw [hSd] at HPD
  have HTX := Lib.hid HTX
  have HRF := Lib.hid HRF
  have HPD := Lib.hid HPD
  clear hd hH hI hK hr hlen hst hS hSd
  have HE := Lib.hid hE
  have HRR := Lib.hid hR
  clear hE hR
  obtain ⟨ho, hf, hk⟩ := g
  have HO := Lib.hid ho
  have HK := Lib.hid hk
  have HMM := Lib.hid (fun W hL => minutes_ok y m d h i k W ho hf hk hL)
  clear ho hk hf
  obtain ⟨q, hq⟩ : ∃ q, mn y m d h i = q := ⟨_, rfl⟩
  rw [hq] at HMM
  clear hq
  go_enter Tryd.func8, Tryd.ntmps8
  go_wp2_with fail
  refine (HMM.out _ (HE.out.len.below (by go_grown))).mono ?_
  rintro e w1 ⟨rfl, hb⟩
  have bw := two (w := w) (by go_grown) hb
  clear hb
  go_wp2_with fail
  refine (of_is n Y M D H I K _ c0 c1 (HE.out.below bw).len HD.out HH.out HI.out HK1.out).mono ?_
  rintro e w3 ⟨rfl, hb⟩
  replace bw := two bw hb
  clear hb
  have X := Box.new w3 [.int .i64 Y, .int .i64 M, .int .i64 D, .int .i64 H, .int .i64 I, .int .i64 K] 23
  replace bw := bw.alloc bw.size (.cells #[.int .i64 Y, .int .i64 M, .int .i64 D, .int .i64 H, .int .i64 I, .int .i64 K] 23)
  go_wp2_with fail
  refine (HTX.out _ (HE.out.below bw)).mono ?_
  rintro e w4 ⟨rfl, hb⟩
  replace X := X.next hb
  replace bw := two bw hb
  clear hb
  go_wp2_with fail
  refine (HPD.out _ (HE.out.below bw) (HRR.out.below bw)).mono ?_
  rintro e w5 ⟨hb, ⟨y', m', d', h', i', k', r', e', rfl⟩ | ⟨_, hno⟩⟩
  · obtain ⟨rfl, rfl, rfl, rfl, rfl, rfl⟩ := right_inj r' HR1.out e'
    clear r' e'
    replace X := X.next hb
    replace bw := two bw hb
    clear hb
    have X2 := Box.new w5 [.int .i64 y', .int .i64 m', .int .i64 d', .int .i64 h', .int .i64 i', .int .i64 k'] 23
    replace X := X.alloc (.cells #[.int .i64 y', .int .i64 m', .int .i64 d', .int .i64 h', .int .i64 i', .int .i64 k'] 23)
    replace bw := bw.alloc bw.size (.cells #[.int .i64 y', .int .i64 m', .int .i64 d', .int .i64 h', .int .i64 i', .int .i64 k'] 23)
    obtain ⟨x0, x1, x2, x3, x4, x5, p0, p1, p2, p3, p4, p5⟩ := six X
    go_wp2_with fail
    clear x0 x1 x2 x3 x4 x5 p0 p1 p2 p3 p4 p5
    refine (ref_any y' m' d' h' i' k' _).mono ?_
    rintro e w6 ⟨rfl, hb⟩
    replace X := X.next hb
    replace X2 := X2.next hb
    replace bw := two bw hb
    clear hb
    go_wp2_with fail
    refine (HRF.out _).mono ?_
    rintro e w7 ⟨rfl, hb⟩
    replace X := X.next hb
    replace X2 := X2.next hb
    replace bw := two bw hb
    clear hb
    obtain ⟨x0, x1, x2, x3, x4, x5, p0, p1, p2, p3, p4, p5⟩ := six X
    obtain ⟨y0, y1, y2, y3, y4, y5, q0, q1, q2, q3, q4, q5⟩ := six X2
    go_wp2_with fail
    clear x0 x1 x2 x3 x4 x5 p0 p1 p2 p3 p4 p5 y0 y1 y2 y3 y4 y5 q0 q1 q2 q3 q4 q5
    refine (awake_any _ (HE.out.below bw)).mono ?_
    rintro e w9 ⟨rfl, hb⟩
    replace bw := two bw hb
    clear hb
    go_wp2_with fail
    go_ret
    exact ⟨rfl, bw⟩
  · exact absurd rfl (hno _ _ _ _ _ _ HR1.out)
set_option maxHeartbeats 800000 in
theorem texts_wlo (n y m d h i k : Int) (w : World) (g : ¬ Right y m d h i k) (c : n < 0) (hE : Env w) (hR : Errs w) :
    Calls Tryd.prog 8 #[.int .i64 n, .agg #[.int .i64 y, .int .i64 m, .int .i64 d, .int .i64 h, .int .i64 i, .int .i64 k]] w fun e w' => e = .returned (.bool true) ∧ Below w.heap.size w w' := by
  have HE := Lib.hid hE
  have HRR := Lib.hid hR
  clear hE hR
  have HM := Lib.hid (minErr_of g)
  clear g
  go_enter Tryd.func8, Tryd.ntmps8
  go_wp2_with fail
  refine (HM.out _ (HE.out.len.below (by go_grown))).mono ?_
  rintro e w1 ⟨rfl, hb⟩
  have X := (Box.new w [.int .i64 y, .int .i64 m, .int .i64 d, .int .i64 h, .int .i64 i, .int .i64 k] 23).next hb
  obtain ⟨x0, x1, x2, x3, x4, x5, p0, p1, p2, p3, p4, p5⟩ := six X
  have bw := two (w := w) (by go_grown) hb
  clear hb
  go_wp2_with fail
  clear x0 x1 x2 x3 x4 x5 p0 p1 p2 p3 p4 p5
  refine (show_bad y m d h i k _ (HE.out.below bw).len HM.out).mono ?_
  rintro e w2 ⟨rfl, hb⟩
  replace bw := two bw hb
  clear hb
  go_wp2_with fail
  refine (awake_any _ (HE.out.below bw)).mono ?_
  rintro e w9 ⟨rfl, hb⟩
  replace bw := two bw hb
  clear hb
  go_wp2_with fail
  go_ret
  exact ⟨rfl, bw⟩
set_option maxHeartbeats 800000 in
theorem texts_whi (n y m d h i k : Int) (w : World) (g : ¬ Right y m d h i k) (c0 : 0 ≤ n) (c : 2147483648 ≤ n) (hE : Env w) (hR : Errs w) :
    Calls Tryd.prog 8 #[.int .i64 n, .agg #[.int .i64 y, .int .i64 m, .int .i64 d, .int .i64 h, .int .i64 i, .int .i64 k]] w fun e w' => e = .returned (.bool true) ∧ Below w.heap.size w w' := by
  have HE := Lib.hid hE
  have HRR := Lib.hid hR
  clear hE hR
  have HM := Lib.hid (minErr_of g)
  clear g
  go_enter Tryd.func8, Tryd.ntmps8
  go_wp2_with fail
  refine (HM.out _ (HE.out.len.below (by go_grown))).mono ?_
  rintro e w1 ⟨rfl, hb⟩
  have X := (Box.new w [.int .i64 y, .int .i64 m, .int .i64 d, .int .i64 h, .int .i64 i, .int .i64 k] 23).next hb
  obtain ⟨x0, x1, x2, x3, x4, x5, p0, p1, p2, p3, p4, p5⟩ := six X
  have bw := two (w := w) (by go_grown) hb
  clear hb
  go_wp2_with fail
  clear x0 x1 x2 x3 x4 x5 p0 p1 p2 p3 p4 p5
  refine (show_bad y m d h i k _ (HE.out.below bw).len HM.out).mono ?_
  rintro e w2 ⟨rfl, hb⟩
  replace bw := two bw hb
  clear hb
  go_wp2_with fail
  refine (awake_any _ (HE.out.below bw)).mono ?_
  rintro e w9 ⟨rfl, hb⟩
  replace bw := two bw hb
  clear hb
  go_wp2_with fail
  go_ret
  exact ⟨rfl, bw⟩
set_option maxHeartbeats 1600000 in
theorem texts_win (n y m d h i k : Int) (w : World) (g : ¬ Right y m d h i k) (c0 : 0 ≤ n) (c1 : n < 2147483648) (hE : Env w) (hR : Errs w) :
    Calls Tryd.prog 8 #[.int .i64 n, .agg #[.int .i64 y, .int .i64 m, .int .i64 d, .int .i64 h, .int .i64 i, .int .i64 k]] w fun e w' => e = .returned (.bool true) ∧ Below w.heap.size w w' := by
  obtain ⟨Y, M, D, hd⟩ := day_exists (n / 1440) (by omega)
  have hr := right_n c0 c1 hd
  have HD := Lib.hid hd
  obtain ⟨H, hH⟩ : ∃ H, n % 1440 / 60 = H := ⟨_, rfl⟩
  obtain ⟨I, hI⟩ : ∃ I, n % 60 = I := ⟨_, rfl⟩
  obtain ⟨K, hK⟩ : ∃ K, (n / 1440 + 6) % 7 = K := ⟨_, rfl⟩
  rw [hH, hI, hK] at hr
  have HH := Lib.hid hH
  have HI := Lib.hid hI
  have HK1 := Lib.hid hK
  have HR1 := Lib.hid hr
  obtain ⟨z0, z1, z2, z3, z4, z5, z6, z7, z8, z9⟩ := hr.bd
  have hlen := text_len hr
  have hst := showT_eq hr
  have HTX := fun W hW => show_six Y M D H I K W hW
  rw [hst] at HTX
  obtain ⟨S, hS⟩ : ∃ S : ByteArray, S = ⟨(text Y M D H I).toArray⟩ := ⟨_, rfl⟩
  have hSd : S.data.toList = text Y M D H I := by rw [hS]
  rw [← hS] at HTX
  have HRF := fun W => refShow_is Y M D H I K W z0 z1 z2 z3 z4 z5 z6 z7 z8 z9
  rw [← hS] at HRF
  have HPD := fun W hW hR => parse_date S W hW hR
  rw [hSd] at HPD
  have HTX := Lib.hid HTX
  have HRF := Lib.hid HRF
  have HPD := Lib.hid HPD
  clear hd hH hI hK hr hlen hst hS hSd
  have HE := Lib.hid hE
  have HRR := Lib.hid hR
  clear hE hR
  have HM := Lib.hid (minErr_of g)
  clear g
  go_enter Tryd.func8, Tryd.ntmps8
  go_wp2_with fail
  refine (HM.out _ (HE.out.len.below (by go_grown))).mono ?_
  rintro e w1 ⟨rfl, hb⟩
  have X := (Box.new w [.int .i64 y, .int .i64 m, .int .i64 d, .int .i64 h, .int .i64 i, .int .i64 k] 23).next hb
  obtain ⟨x0, x1, x2, x3, x4, x5, p0, p1, p2, p3, p4, p5⟩ := six X
  have bw := two (w := w) (by go_grown) hb
  clear hb
  go_wp2_with fail
  clear x0 x1 x2 x3 x4 x5 p0 p1 p2 p3 p4 p5
  refine (show_bad y m d h i k _ (HE.out.below bw).len HM.out).mono ?_
  rintro e w2 ⟨rfl, hb⟩
  replace bw := two bw hb
  clear hb
  go_wp2_with fail
  refine (of_is n Y M D H I K _ c0 c1 (HE.out.below bw).len HD.out HH.out HI.out HK1.out).mono ?_
  rintro e w3 ⟨rfl, hb⟩
  replace bw := two bw hb
  clear hb
  have X := Box.new w3 [.int .i64 Y, .int .i64 M, .int .i64 D, .int .i64 H, .int .i64 I, .int .i64 K] 23
  replace bw := bw.alloc bw.size (.cells #[.int .i64 Y, .int .i64 M, .int .i64 D, .int .i64 H, .int .i64 I, .int .i64 K] 23)
  go_wp2_with fail
  refine (HTX.out _ (HE.out.below bw)).mono ?_
  rintro e w4 ⟨rfl, hb⟩
  replace X := X.next hb
  replace bw := two bw hb
  clear hb
  go_wp2_with fail
  refine (HPD.out _ (HE.out.below bw) (HRR.out.below bw)).mono ?_
  rintro e w5 ⟨hb, ⟨y', m', d', h', i', k', r', e', rfl⟩ | ⟨_, hno⟩⟩
  · obtain ⟨rfl, rfl, rfl, rfl, rfl, rfl⟩ := right_inj r' HR1.out e'
    clear r' e'
    replace X := X.next hb
    replace bw := two bw hb
    clear hb
    have X2 := Box.new w5 [.int .i64 y', .int .i64 m', .int .i64 d', .int .i64 h', .int .i64 i', .int .i64 k'] 23
    replace X := X.alloc (.cells #[.int .i64 y', .int .i64 m', .int .i64 d', .int .i64 h', .int .i64 i', .int .i64 k'] 23)
    replace bw := bw.alloc bw.size (.cells #[.int .i64 y', .int .i64 m', .int .i64 d', .int .i64 h', .int .i64 i', .int .i64 k'] 23)
    obtain ⟨x0, x1, x2, x3, x4, x5, p0, p1, p2, p3, p4, p5⟩ := six X
    go_wp2_with fail
    clear x0 x1 x2 x3 x4 x5 p0 p1 p2 p3 p4 p5
    refine (ref_any y' m' d' h' i' k' _).mono ?_
    rintro e w6 ⟨rfl, hb⟩
    replace X := X.next hb
    replace X2 := X2.next hb
    replace bw := two bw hb
    clear hb
    go_wp2_with fail
    refine (HRF.out _).mono ?_
    rintro e w7 ⟨rfl, hb⟩
    replace X := X.next hb
    replace X2 := X2.next hb
    replace bw := two bw hb
    clear hb
    obtain ⟨x0, x1, x2, x3, x4, x5, p0, p1, p2, p3, p4, p5⟩ := six X
    obtain ⟨y0, y1, y2, y3, y4, y5, q0, q1, q2, q3, q4, q5⟩ := six X2
    go_wp2_with fail
    clear x0 x1 x2 x3 x4 x5 p0 p1 p2 p3 p4 p5 y0 y1 y2 y3 y4 y5 q0 q1 q2 q3 q4 q5
    refine (awake_any _ (HE.out.below bw)).mono ?_
    rintro e w9 ⟨rfl, hb⟩
    replace bw := two bw hb
    clear hb
    go_wp2_with fail
    go_ret
    exact ⟨rfl, bw⟩
  · exact absurd rfl (hno _ _ _ _ _ _ HR1.out)
theorem texts_law (n y m d h i k : Int) (w : World) (hE : Env w) (hR : Errs w) :
    Calls Tryd.prog 8 #[.int .i64 n, .agg #[.int .i64 y, .int .i64 m, .int .i64 d, .int .i64 h, .int .i64 i, .int .i64 k]] w fun e w' => e = .returned (.bool true) ∧ Below w.heap.size w w' := by
  by_cases g : Right y m d h i k
  · by_cases c0 : n < 0
    · exact texts_rlo n y m d h i k w g c0 hE hR
    by_cases c1 : n < 2147483648
    · exact texts_rin n y m d h i k w g (by omega) c1 hE hR
    · exact texts_rhi n y m d h i k w g (by omega) (by omega) hE hR
  · by_cases c0 : n < 0
    · exact texts_wlo n y m d h i k w g c0 hE hR
    by_cases c1 : n < 2147483648
    · exact texts_win n y m d h i k w g (by omega) c1 hE hR
    · exact texts_whi n y m d h i k w g (by omega) (by omega) hE hR
end Go.Proofs.YtmjcdnlcdkeoaaaDoor.Cal
