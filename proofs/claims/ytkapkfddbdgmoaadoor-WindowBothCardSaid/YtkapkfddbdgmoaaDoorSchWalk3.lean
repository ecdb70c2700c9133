/- Walks: the text of a scheme; a text read as a scheme. -/
import Derived.Test.YtkapkfddbdgmoaaDoorSchMath
import Derived.Test.YtkapkfddbdgmoaaDoorBox
set_option linter.unusedVariables false
set_option linter.unusedSimpArgs false
namespace Go.Proofs.YtkapkfddbdgmoaaDoor.Sc
open Go.RowKit Go Go.Sort Ba
open Cal hiding ret_int ret_bool lt_of_cell

/-- What the listed variables hold, as the walks lean on it. -/
structure EnvS (w : World) : Prop where
  tab : Lib.TabIs Tryd.prog w "internal/strconv.uint64pow10" .u64 Lib.pow10Tab
  len : Len w
  errs : Errs w
  ml : ∃ m : Int, w.cell? ⟨2, 0, none⟩ = some (.int .i64 m)
  words : ∀ j, j < 6 → w.cell? ⟨0, j, none⟩ = some (.string (sword j))
theorem EnvS.below {w w' : World} (h : EnvS w) (hb : Below w.heap.size w w') : EnvS w' := by
  obtain ⟨h1, h2, h3, ⟨m, h4⟩, h5⟩ := h
  have hg : Tryd.prog.globalNamed "internal/strconv.uint64pow10" = some 6 := by kernel_rfl
  have h0 := Lib.TabIs.cell h1 hg 0 (by decide)
  exact ⟨var?_below hb hg (lt_of_cell h0) h1, Len.below h2 hb, h3.below hb, ⟨m, (hb.cell (lt_of_cell h4)).trans h4⟩, fun j hj => (hb.cell (lt_of_cell (h5 j hj))).trans (h5 j hj)⟩

theorem str_app (a b : ByteArray) : (a ++ b).size = a.size + b.size := by rw [size_data, size_data, size_data, add_data, List.length_append]
set_option maxHeartbeats 1600000 in
theorem show_is (k : Nat) (f l : Int) (w : World) (hr : rightS k f l = true) (hE : EnvS w) :
    Calls Tryd.prog 20 #[.agg #[.int .i64 k, .int .i64 f, .int .i64 l]] w fun e w' => e = .returned (.string (showB k f l)) ∧ Below w.heap.size w w' := by
  have b0 : Below w.heap.size w (w.alloc (.cells #[.int .i64 k, .int .i64 f, .int .i64 l] 23)) := by go_grown
  have V := Box.new w [.int .i64 k, .int .i64 f, .int .i64 l] 23
  have HE := Lib.hid (hE.below b0)
  obtain ⟨k6, _, k1, f0, f1, l0, l1⟩ := rs_k hr
  simp only [Int.toNat_natCast] at k6
  have ws := sword_size k k6
  have fs := Lib.itoa_length_le f f0 f1
  have ls := Lib.itoa_length_le l l0 l1
  obtain ⟨D, hD⟩ : ∃ D, sword k = D := ⟨_, rfl⟩
  rw [hD] at ws
  obtain ⟨A, hA⟩ : ∃ A : ByteArray, (⟨(Lib.itoa f).toArray⟩ : ByteArray) = A := ⟨_, rfl⟩
  obtain ⟨B, hB⟩ : ∃ B : ByteArray, (⟨(Lib.itoa l).toArray⟩ : ByteArray) = B := ⟨_, rfl⟩
  have As : A.size ≤ 21 := by rw [← hA, str_size]; exact fs
  have Bs : B.size ≤ 21 := by rw [← hB, str_size]; exact ls
  have HX : Hid (D ++ ⟨#[32]⟩ ++ A ++ ⟨#[46, 46]⟩ ++ B = showB k f l) := by
    show D ++ ⟨#[32]⟩ ++ A ++ ⟨#[46, 46]⟩ ++ B = showB k f l
    rw [← hA, ← hB, ← hD]; rfl
  have s1 : (D ++ ⟨#[32]⟩).size ≤ 8 := by rw [str_app, show (⟨#[32]⟩ : ByteArray).size = 1 from rfl]; omega
  have s2 : (D ++ ⟨#[32]⟩ ++ A).size ≤ 29 := by rw [str_app]; omega
  have s3 : (D ++ ⟨#[32]⟩ ++ A ++ ⟨#[46, 46]⟩).size ≤ 31 := by rw [str_app, show (⟨#[46, 46]⟩ : ByteArray).size = 2 from rfl]; omega
  have cF := fun W h => itoa_is f f0 f1 W h
  have cL := fun W h => itoa_is l l0 l1 W h
  rw [hA] at cF
  rw [hB] at cL
  have CF := Lib.hid cF
  have CL := Lib.hid cL
  have HR := Lib.hid hr
  have HW := Lib.hid (hE.words k k6)
  have kk : (k : Int) < 6 := by omega
  have HD := Lib.hid hD
  clear hE hA hB cF cL fs ls hD hr k1
  go_enter Tryd.func20, Tryd.ntmps20
  go_wp2_with fail
  refine (check_is k f l true _ HE.out.len f0 l1 HR.out).mono ?_
  rintro e w1 ⟨rfl, hb⟩
  have V := V.next hb
  have b1 := two b0 hb
  have HE1 := Lib.hid (HE.out.below hb)
  clear hb
  obtain ⟨x0, x1, x2, p0, p1, p2⟩ := V.three
  have y := HE1.out.words k k6
  rw [HD.out] at y
  go_wp2_with fail
  have x0 := cell_regrown x0
  have x1 := cell_regrown x1
  have x2 := cell_regrown x2
  have y := cell_regrown y
  have cA := qcall (w := w1) fun W' hb => CF.out W' (HE1.out.below hb).tab
  have cB := qcall (w := w1) fun W' hb => CL.out W' (HE1.out.below hb).tab
  refine wp_region_quiet_below (by kernel_rfl) (by kernel_rfl) ?_
  repeat (go_big_quiet_step (with_reducible (first | exact cA _ _ | exact cB _ _)))
  refine wpQuiet_nil ?_
  intro _ hw'
  obtain ⟨⟨dq1, os1⟩, hw''⟩ := hw'
  subst hw''
  go_wp2_with fail
  go_ret
  exact ⟨ret_str HX.out, two b1 (below_regrown _ _ _)⟩
theorem show_no (k f l : Int) (w : World) (f0 : -9223372036854775808 ≤ f) (l1 : l ≤ 9223372036854775807) (hr : rightS k f l = false) (hE : EnvS w) :
    Calls Tryd.prog 20 #[.agg #[.int .i64 k, .int .i64 f, .int .i64 l]] w fun e w' => e = .returned (.string ⟨#[]⟩) ∧ Below w.heap.size w w' := by
  have b0 : Below w.heap.size w (w.alloc (.cells #[.int .i64 k, .int .i64 f, .int .i64 l] 23)) := by go_grown
  have HE := Lib.hid (hE.below b0)
  have HR := Lib.hid hr
  clear hE hr
  go_enter Tryd.func20, Tryd.ntmps20
  go_wp2_with fail
  refine (check_is k f l false _ HE.out.len f0 l1 HR.out).mono ?_
  rintro e w1 ⟨rfl, hb⟩
  have b1 := two b0 hb
  clear hb
  go_wp2_with fail
  go_ret
  exact ⟨rfl, b1⟩
end Go.Proofs.YtkapkfddbdgmoaaDoor.Sc
