/- The laws on texts of mappings. -/
import Derived.Test.YtkapkfddbdgmoaaDoorWinLaws
set_option linter.unusedVariables false
set_option linter.unusedSimpArgs false
namespace Go.Proofs.YtkapkfddbdgmoaaDoor.Wi
open Go.RowKit Go Go.Sort Ba Sc
open Cal hiding ret_int ret_bool lt_of_cell

theorem map_eq (a b : Int) (w : World) :
    (Op.equalIn 10000 49 (.agg #[.int .i64 a, .int .i64 b]) (.agg #[.int .i64 a, .int .i64 b])).run Tryd.prog w = .ok true w := by
  have u3 := Tryd.underlying3
  have hS : Tryd.prog.underlying 49 = some (.struct (Tryd.prog.fieldsOf 49)) := by kernel_rfl
  have hp : Tryd.prog.stoodInHeld 49 = false := by kernel_rfl
  rw [show (10000 : Nat) = 9999 + 1 from rfl, run_equalIn_agg w 9999 49 _ _ hS hp]
  simp only [Program.fieldsOf, Tryd.underlying49]
  go_simp
set_option maxRecDepth 100000 in
set_option maxHeartbeats 3200000 in
theorem wshows_law (k n : Int) (w : World) (hE : EnvP w) :
    Calls Tryd.prog 13 #[.agg #[.int .i64 k, .int .i64 n]] w fun e w' => e = .returned (.bool true) ∧ Below w.heap.size w w' := by
  have HE := Lib.hid hE
  have bw : Below w.heap.size w ((w.alloc (.cells #[.int .i64 k, .int .i64 n] 49)).alloc (.cells #[.int .i64 k, .int .i64 n] 58)) := by go_grown
  have V := (Box.new w [.int .i64 k, .int .i64 n] 49).alloc (.cells #[.int .i64 k, .int .i64 n] 58)
  have U := Box.new (w.alloc (.cells #[.int .i64 k, .int .i64 n] 49)) [.int .i64 k, .int .i64 n] 58
  simp only [World.size_alloc] at U
  clear hE
  cases hr : formB k n
  · have HR := Lib.hid hr
    clear hr
    go_enter Tryd.func13, Tryd.ntmps13
    go_wp2_with fail
    refine (mshow_no k n _ HR.out).mono ?_
    rintro e w1 ⟨rfl, hb⟩
    have bw := two bw hb
    have U := U.next hb
    clear hb
    obtain ⟨y0, y1, _, _⟩ := U.two
    go_wp2_with fail
    refine (refForm_is k n false _ HR.out).mono ?_
    rintro e w2 ⟨rfl, hb⟩
    have bw := two bw hb
    clear hb y0 y1
    go_wp2_with fail
    refine (wawake_any _ (HE.out.below bw).env).mono ?_
    rintro e w9 ⟨rfl, hb9⟩
    go_wp2_with fail
    go_ret
    exact ⟨rfl, two bw hb9⟩
  · obtain ⟨k6, kk, k1, _, _⟩ := form_rng hr
    obtain ⟨j, rfl⟩ : ∃ j : Nat, k = j := ⟨k.toNat, kk.symm⟩
    obtain ⟨x, hx⟩ : ∃ x, mapB j n = x := ⟨_, rfl⟩
    have HS := Lib.hid (fun W h => mshow_is j n x W hr hx h)
    have HRS := Lib.hid (fun W => refMShow_is j n x W hr hx)
    have hlen : x.size ≤ 20000 := by rw [← hx]; have := mapB_len hr; simp only [Int.toNat_natCast] at this; omega
    have HP : Hid (∀ W, EnvP W → Calls Tryd.prog 38 #[.string x] W fun e w' => e = .returned (.tuple #[.agg #[.int .i64 j, .int .i64 n], .int .i64 0]) ∧ Below W.heap.size W w') := fun W h => by
      refine (mparse_any x W hlen h).mono ?_
      rintro e w' ⟨k', n', er, hq, rfl, hb⟩
      rw [← hx] at hq
      obtain ⟨rfl, rfl, rfl⟩ := mreads_show hr hq
      exact ⟨rfl, hb⟩
    have HR := Lib.hid hr
    have heq := map_eq j n
    clear hx hr kk k1
    go_enter Tryd.func13, Tryd.ntmps13
    go_wp2_with fail
    refine (HS.out _ (HE.out.below bw).env).mono ?_
    rintro e w1 ⟨rfl, hb⟩
    have bw := two bw hb
    have V := V.next hb
    have U := U.next hb
    clear hb
    obtain ⟨y0, y1, _, _⟩ := U.two
    go_wp2_with fail
    refine (refForm_is j n true _ HR.out).mono ?_
    rintro e w2 ⟨rfl, hb⟩
    have bw := two bw hb
    have V := V.next hb
    have U := U.next hb
    clear hb y0 y1
    go_wp2_with fail
    refine (HP.out _ (HE.out.below bw)).mono ?_
    rintro e w4 ⟨rfl, hb⟩
    have bw := two bw hb
    have V := V.next hb
    have U := U.next hb
    clear hb
    have hz := V.lt
    have hz2 := U.lt
    have V := V.alloc (.cells #[.int .i64 j, .int .i64 n] 49)
    have U := U.alloc (.cells #[.int .i64 j, .int .i64 n] 49)
    have T := Box.new w4 [.int .i64 j, .int .i64 n] 49
    have bw := bw.alloc (Nat.le_of_lt hz) (.cells #[.int .i64 j, .int .i64 n] 49)
    obtain ⟨y0, y1, _, _⟩ := U.two
    go_wp2_with fail
    refine (HRS.out _).mono ?_
    rintro e w6 ⟨rfl, hb⟩
    have bw := two bw hb
    have V := V.next hb
    have T := T.next hb
    clear hb y0 y1
    obtain ⟨x0, x1, _, _⟩ := V.two
    obtain ⟨y0, y1, _, _⟩ := T.two
    go_wp2_with fail
    refine (wawake_any _ (HE.out.below bw).env).mono ?_
    rintro e w9 ⟨rfl, hb9⟩
    clear x0 x1 y0 y1
    go_wp2_with fail
    go_ret
    exact ⟨rfl, two bw hb9⟩
set_option maxRecDepth 100000 in
set_option maxHeartbeats 3200000 in
theorem wparses_law (t : ByteArray) (w : World) (hE : EnvP w) :
    Calls Tryd.prog 14 #[.string t] w fun e w' => e = .returned (.bool true) ∧ Below w.heap.size w w' := by
  have HE := Lib.hid hE
  clear hE
  by_cases hl : 200 < t.size
  · go_enter Tryd.func14, Tryd.ntmps14
    go_wp2_with fail
    refine (wawake_any _ HE.out.env).mono ?_
    rintro e w9 ⟨rfl, hb9⟩
    go_wp2_with fail
    go_ret
    exact ⟨rfl, hb9⟩
  have HP := Lib.hid (fun W h => mparse_any t W (by omega) h)
  go_enter Tryd.func14, Tryd.ntmps14
  go_wp2_with fail
  refine (HP.out _ HE.out).mono ?_
  rintro e w1 ⟨k, n, er, hq, rfl, bw⟩
  rcases hq with ⟨rfl, hr, ht⟩ | ⟨rfl, rfl, rfl, _⟩
  · obtain ⟨k6, kk, k1, _, _⟩ := form_rng hr
    obtain ⟨j, rfl⟩ : ∃ j : Nat, k = j := ⟨k.toNat, kk.symm⟩
    have hx : mapB j n = t := Go.WideShapes.bytes_inj ht
    have HRS := Lib.hid (fun W => refMShow_is j n t W hr hx)
    have HR := Lib.hid hr
    have hz := bw.size
    have bw := (bw.alloc hz (.cells #[.int .i64 j, .int .i64 n] 49)).alloc (by simp; omega) (.cells #[.int .i64 j, .int .i64 n] 58)
    have U := Box.new (w1.alloc (.cells #[.int .i64 j, .int .i64 n] 49)) [.int .i64 j, .int .i64 n] 58
    simp only [World.size_alloc] at U
    clear hx hr ht kk k1
    go_wp2_with fail
    refine (refForm_is j n true _ HR.out).mono ?_
    rintro e w2 ⟨rfl, hb⟩
    have bw := two bw hb
    have U := U.next hb
    clear hb
    obtain ⟨y0, y1, _, _⟩ := U.two
    go_wp2_with fail
    refine (HRS.out _).mono ?_
    rintro e w5 ⟨rfl, hb⟩
    have bw := two bw hb
    clear hb y0 y1
    go_wp2_with fail
    refine (wawake_any _ (HE.out.below bw).env).mono ?_
    rintro e w9 ⟨rfl, hb9⟩
    go_wp2_with fail
    go_ret
    exact ⟨rfl, two bw hb9⟩
  · have heq := map_eq 0 0
    have hz := bw.size
    have bw := bw.alloc hz (.cells #[.int .i64 0, .int .i64 0] 49)
    go_wp2_with fail
    refine (wawake_any _ (HE.out.below bw).env).mono ?_
    rintro e w9 ⟨rfl, hb9⟩
    go_wp2_with fail
    go_ret
    exact ⟨rfl, two bw hb9⟩
end Go.Proofs.YtkapkfddbdgmoaaDoor.Wi
