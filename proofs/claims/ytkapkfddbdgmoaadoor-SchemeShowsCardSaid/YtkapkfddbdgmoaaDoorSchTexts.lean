/- The laws on texts of schemes. -/
import Derived.Test.YtkapkfddbdgmoaaDoorSchWalk6
set_option linter.unusedVariables false
set_option linter.unusedSimpArgs false
namespace Go.Proofs.YtkapkfddbdgmoaaDoor.Sc
open Go.RowKit Go Go.Sort Ba
open Cal hiding ret_int ret_bool lt_of_cell

theorem sch_eq (a b c : Int) (w : World) :
    (Op.equalIn 10000 23 (.agg #[.int .i64 a, .int .i64 b, .int .i64 c]) (.agg #[.int .i64 a, .int .i64 b, .int .i64 c])).run Tryd.prog w = .ok true w := by
  have u3 := Tryd.underlying3
  have hS : Tryd.prog.underlying 23 = some (.struct (Tryd.prog.fieldsOf 23)) := by kernel_rfl
  have hp : Tryd.prog.stoodInHeld 23 = false := by kernel_rfl
  rw [show (10000 : Nat) = 9999 + 1 from rfl, run_equalIn_agg w 9999 23 _ _ hS hp]
  simp only [Program.fieldsOf, Tryd.underlying23]
  go_simp
set_option maxRecDepth 100000 in
set_option maxHeartbeats 3200000 in
theorem shows_law (k f l : Int) (w : World) (b0 : -9223372036854775808 ≤ f) (b1 : l ≤ 9223372036854775807) (hE : EnvS w) :
    Calls Tryd.prog 4 #[.agg #[.int .i64 k, .int .i64 f, .int .i64 l]] w fun e w' => e = .returned (.bool true) ∧ Below w.heap.size w w' := by
  have HE := Lib.hid hE
  have bw : Below w.heap.size w (w.alloc (.cells #[.int .i64 k, .int .i64 f, .int .i64 l] 23)) := by go_grown
  have V := Box.new w [.int .i64 k, .int .i64 f, .int .i64 l] 23
  clear hE
  cases hr : rightS k f l
  · have HR := Lib.hid hr
    clear hr
    go_enter Tryd.func4, Tryd.ntmps4
    go_wp2_with fail
    refine (show_no k f l _ b0 b1 HR.out (HE.out.below bw)).mono ?_
    rintro e w1 ⟨rfl, hb⟩
    have bw := two bw hb
    have V := V.next hb
    clear hb
    obtain ⟨x0, x1, x2, p0, p1, p2⟩ := V.three
    go_wp2_with fail
    refine (ref_is k f l _).mono ?_
    rintro e w2 ⟨rfl, hb⟩
    have bw := two bw hb
    clear hb x0 x1 x2 p0 p1 p2
    go_wp2_with fail
    refine (refRight_is k f l false _ b0 b1 HR.out).mono ?_
    rintro e w3 ⟨rfl, hb⟩
    have bw := two bw hb
    clear hb
    go_wp2_with fail
    refine (awake_any _ (HE.out.below bw)).mono ?_
    rintro e w9 ⟨rfl, hb9⟩
    go_wp2_with fail
    go_ret
    exact ⟨rfl, two bw hb9⟩
  · obtain ⟨k6, kk, k1, f0, f1, l0, l1⟩ := rs_k hr
    obtain ⟨j, rfl⟩ : ∃ j : Nat, k = j := ⟨k.toNat, kk.symm⟩
    have hz0 : showB ((j : Int).toNat) f l = showB j f l := rfl
    obtain ⟨x, hx⟩ : ∃ x, showB j f l = x := ⟨_, rfl⟩
    have hs := fun W h => show_is j f l W hr h
    have hrs := fun W => refShow_is j f l W hr
    rw [hx] at hs hrs
    have hlen : x.size ≤ 20000 := by rw [← hx]; have := showB_len j k6 f l f0 f1 l0 l1; omega
    have HS := Lib.hid hs
    have HRS := Lib.hid hrs
    have HP : Hid (∀ W, EnvS W → Calls Tryd.prog 21 #[.string x] W fun e w' => e = .returned (.tuple #[.agg #[.int .i64 j, .int .i64 f, .int .i64 l], .int .i64 0]) ∧ Below W.heap.size W w') := fun W h => by
      refine (parse_any x W hlen h).mono ?_
      rintro e w' ⟨k', f', l', er, hq, rfl, hb⟩
      rw [← hx] at hq
      obtain ⟨rfl, rfl, rfl, rfl⟩ := reads_show hr hq
      exact ⟨rfl, hb⟩
    have HR := Lib.hid hr
    have heq := sch_eq j f l
    clear hs hrs hx hr hz0 kk k1
    go_enter Tryd.func4, Tryd.ntmps4
    go_wp2_with fail
    refine (HS.out _ (HE.out.below bw)).mono ?_
    rintro e w1 ⟨rfl, hb⟩
    have bw := two bw hb
    have V := V.next hb
    clear hb
    obtain ⟨x0, x1, x2, p0, p1, p2⟩ := V.three
    go_wp2_with fail
    refine (ref_is j f l _).mono ?_
    rintro e w2 ⟨rfl, hb⟩
    have bw := two bw hb
    have V := V.next hb
    clear hb x0 x1 x2 p0 p1 p2
    go_wp2_with fail
    refine (refRight_is j f l true _ b0 b1 HR.out).mono ?_
    rintro e w3 ⟨rfl, hb⟩
    have bw := two bw hb
    have V := V.next hb
    clear hb
    go_wp2_with fail
    refine (HP.out _ (HE.out.below bw)).mono ?_
    rintro e w4 ⟨rfl, hb⟩
    have bw := two bw hb
    have V := V.next hb
    clear hb
    have hz := V.lt
    have V := V.alloc (.cells #[.int .i64 j, .int .i64 f, .int .i64 l] 23)
    have U := Box.new w4 [.int .i64 j, .int .i64 f, .int .i64 l] 23
    have bw := bw.alloc (Nat.le_of_lt hz) (.cells #[.int .i64 j, .int .i64 f, .int .i64 l] 23)
    obtain ⟨x0, x1, x2, p0, p1, p2⟩ := V.three
    go_wp2_with fail
    refine (ref_is j f l _).mono ?_
    rintro e w5 ⟨rfl, hb⟩
    have bw := two bw hb
    have V := V.next hb
    have U := U.next hb
    clear hb x0 x1 x2 p0 p1 p2
    go_wp2_with fail
    refine (HRS.out _).mono ?_
    rintro e w6 ⟨rfl, hb⟩
    have bw := two bw hb
    have V := V.next hb
    have U := U.next hb
    clear hb
    obtain ⟨x0, x1, x2, p0, p1, p2⟩ := V.three
    obtain ⟨y0, y1, y2, q0, q1, q2⟩ := U.three
    go_wp2_with fail
    refine (awake_any _ (HE.out.below bw)).mono ?_
    rintro e w9 ⟨rfl, hb9⟩
    clear x0 x1 x2 p0 p1 p2 y0 y1 y2 q0 q1 q2
    go_wp2_with fail
    go_ret
    exact ⟨rfl, two bw hb9⟩
set_option maxRecDepth 100000 in
set_option maxHeartbeats 3200000 in
theorem parses_law (t : ByteArray) (w : World) (hE : EnvS w) :
    Calls Tryd.prog 5 #[.string t] w fun e w' => e = .returned (.bool true) ∧ Below w.heap.size w w' := by
  have HE := Lib.hid hE
  clear hE
  by_cases hl : 200 < t.size
  · go_enter Tryd.func5, Tryd.ntmps5
    go_wp2_with fail
    refine (awake_any _ HE.out).mono ?_
    rintro e w9 ⟨rfl, hb9⟩
    go_wp2_with fail
    go_ret
    exact ⟨rfl, hb9⟩
  have HP := Lib.hid (fun W h => parse_any t W (by omega) h)
  go_enter Tryd.func5, Tryd.ntmps5
  go_wp2_with fail
  refine (HP.out _ HE.out).mono ?_
  rintro e w1 ⟨k, f, l, er, hq, rfl, bw⟩
  rcases hq with ⟨rfl, hr, ht⟩ | ⟨rfl, rfl, rfl, rfl, _⟩
  · obtain ⟨k6, kk, k1, f0, f1, l0, l1⟩ := rs_k hr
    obtain ⟨j, rfl⟩ : ∃ j : Nat, k = j := ⟨k.toNat, kk.symm⟩
    have hx : showB j f l = t := Go.WideShapes.bytes_inj ht
    have hrs := fun W => refShow_is j f l W hr
    rw [hx] at hrs
    have HRS := Lib.hid hrs
    have HR := Lib.hid hr
    have hz := bw.size
    have U := Box.new w1 [.int .i64 j, .int .i64 f, .int .i64 l] 23
    have bw := bw.alloc hz (.cells #[.int .i64 j, .int .i64 f, .int .i64 l] 23)
    clear hrs hx hr ht kk k1
    go_wp2_with fail
    refine (ref_is j f l _).mono ?_
    rintro e w2 ⟨rfl, hb⟩
    have bw := two bw hb
    have U := U.next hb
    clear hb
    go_wp2_with fail
    refine (refRight_is j f l true _ f0 l1 HR.out).mono ?_
    rintro e w3 ⟨rfl, hb⟩
    have bw := two bw hb
    have U := U.next hb
    clear hb
    obtain ⟨y0, y1, y2, q0, q1, q2⟩ := U.three
    go_wp2_with fail
    refine (ref_is j f l _).mono ?_
    rintro e w4 ⟨rfl, hb⟩
    have bw := two bw hb
    clear hb y0 y1 y2 q0 q1 q2
    go_wp2_with fail
    refine (HRS.out _).mono ?_
    rintro e w5 ⟨rfl, hb⟩
    have bw := two bw hb
    clear hb
    go_wp2_with fail
    refine (awake_any _ (HE.out.below bw)).mono ?_
    rintro e w9 ⟨rfl, hb9⟩
    go_wp2_with fail
    go_ret
    exact ⟨rfl, two bw hb9⟩
  · have heq := sch_eq 0 0 0
    have hz := bw.size
    have bw := bw.alloc hz (.cells #[.int .i64 0, .int .i64 0, .int .i64 0] 23)
    go_wp2_with fail
    refine (awake_any _ (HE.out.below bw)).mono ?_
    rintro e w9 ⟨rfl, hb9⟩
    go_wp2_with fail
    go_ret
    exact ⟨rfl, two bw hb9⟩
end Go.Proofs.YtkapkfddbdgmoaaDoor.Sc
