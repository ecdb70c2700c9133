/- Walks: the text of a scheme, in the document's word. -/
import Derived.Test.YtkapkfddbdgmoaaDoorSchWalk5
import Derived.Test.YtkapkfddbdgmoaaDoorHeld
set_option linter.unusedVariables false
set_option linter.unusedSimpArgs false
namespace Go.Proofs.YtkapkfddbdgmoaaDoor.Sc
open Go.RowKit Go Go.Sort Ba
open Cal hiding ret_int ret_bool lt_of_cell

theorem lit_word (k : Nat) (h : k < 6) : (#[.string ⟨#[]⟩, .string ⟨#[104, 111, 117, 114, 108, 121]⟩, .string ⟨#[100, 97, 105, 108, 121]⟩, .string ⟨#[119, 101, 101, 107, 108, 121]⟩, .string ⟨#[109, 111, 110, 116, 104, 108, 121]⟩, .string ⟨#[115, 116, 97, 116, 105, 99]⟩] : Array Value)[k]? = some (.string (sword k)) := by
  rcases k6 h with rfl | rfl | rfl | rfl | rfl | rfl <;> rfl
set_option maxRecDepth 100000 in
set_option maxHeartbeats 3200000 in
theorem refShow_is (k : Nat) (f l : Int) (w : World) (hr : rightS k f l = true) :
    Calls Tryd.prog 22 #[.agg #[.int .i64 k, .int .i64 f, .int .i64 l]] w fun e w' => e = .returned (.string (showB k f l)) ∧ Below w.heap.size w w' := by
  have bw : Below w.heap.size w (w.alloc (.cells #[.int .i64 k, .int .i64 f, .int .i64 l] 25)) := by go_grown
  have HM : Hid (∀ W, Below (w.alloc (.cells #[.int .i64 k, .int .i64 f, .int .i64 l] 25)).heap.size (w.alloc (.cells #[.int .i64 k, .int .i64 f, .int .i64 l] 25)) W → W.cell? ⟨w.heap.size, 0, none⟩ = some (.int .i64 k) ∧ W.cell? ⟨w.heap.size, 1, none⟩ = some (.int .i64 f) ∧ W.cell? ⟨w.heap.size, 2, none⟩ = some (.int .i64 l) ∧ Below (w.alloc (.cells #[.int .i64 k, .int .i64 f, .int .i64 l] 25)).heap.size (w.alloc (.cells #[.int .i64 k, .int .i64 f, .int .i64 l] 25)) W) := fun W h => ⟨(h.cell (by simp)).trans (by simp), (h.cell (by simp)).trans (by simp), (h.cell (by simp)).trans (by simp), h⟩
  obtain ⟨k6, _, k1, f0, f1, l0, l1⟩ := rs_k hr
  simp only [Int.toNat_natCast] at k6
  have ws := sword_size k k6
  have fs := Lib.itoa_length_le f f0 f1
  have ls := Lib.itoa_length_le l l0 l1
  have hlit := lit_word k k6
  obtain ⟨D, hD⟩ : ∃ D, sword k = D := ⟨_, rfl⟩
  rw [hD] at ws hlit
  obtain ⟨A, hA⟩ : ∃ A : ByteArray, (⟨(Lib.itoa f).toArray⟩ : ByteArray) = A := ⟨_, rfl⟩
  obtain ⟨B, hB⟩ : ∃ B : ByteArray, (⟨(Lib.itoa l).toArray⟩ : ByteArray) = B := ⟨_, rfl⟩
  have As : A.size ≤ 21 := by rw [← hA, str_size]; exact fs
  have Bs : B.size ≤ 21 := by rw [← hB, str_size]; exact ls
  have HX : Hid (D ++ ⟨#[32]⟩ ++ A ++ ⟨#[46, 46]⟩ ++ B = showB k f l) := by
    show D ++ ⟨#[32]⟩ ++ A ++ ⟨#[46, 46]⟩ ++ B = showB k f l
    rw [← hA, ← hB, ← hD]; rfl
  have s1 : (D ++ ⟨#[32]⟩).size ≤ 8 := by rw [str_app, show (⟨#[32]⟩ : ByteArray).size = 1 from rfl]; omega
  have s2 : (D ++ ⟨#[32]⟩ ++ A).size ≤ 29 := by rw [str_app]; omega
  have s3 : (D ++ ⟨#[32]⟩ ++ A ++ ⟨#[46, 46]⟩).size ≤ 31 := by rw [str_app, show (⟨#[46, 46]⟩ : ByteArray).size = 2 from rfl]; omega
  have n1 : ¬ 9223372036854775807 < D.size + 1 := by omega
  have n2 : ¬ 9223372036854775807 < D.size + 1 + A.size := by omega
  have n3 : ¬ 9223372036854775807 < D.size + 1 + A.size + 2 := by omega
  have n4 : ¬ 9223372036854775807 < D.size + 1 + A.size + 2 + B.size := by omega
  have cF := fun W => number_any f W f0 f1
  have cL := fun W => number_any l W l0 l1
  rw [hA] at cF
  rw [hB] at cL
  have CF := Lib.hid cF
  have CL := Lib.hid cL
  have HL := Lib.hid hlit
  have kk : (k : Int) < 6 := by omega
  clear hA hB cF cL fs ls hD hr k1 hlit
  go_enter Tryd.func22, Tryd.ntmps22
  go_wp2_with fail
  refine wp_region_held_drew (S := fun W => W.cell? ⟨w.heap.size, 0, none⟩ = some (.int .i64 k) ∧ W.cell? ⟨w.heap.size, 1, none⟩ = some (.int .i64 f) ∧ W.cell? ⟨w.heap.size, 2, none⟩ = some (.int .i64 l) ∧ Below (w.alloc (.cells #[.int .i64 k, .int .i64 f, .int .i64 l] 25)).heap.size (w.alloc (.cells #[.int .i64 k, .int .i64 f, .int .i64 l] 25)) W) (by kernel_rfl) (by exact HM.out _ (Below.drew (Below.refl _ _))) (fun hHeld => ?_)
  refine wpAnyH_take (i := 1) (v := ?v1x) rfl (by kernel_rfl) (by kernel_rfl) (by kernel_rfl) (fun _ _ _ h => h) (Or.inl ⟨by rfl, ?hy1x⟩) hHeld ?rest1x
  case hy1x => (intro w hSw; (try dsimp only at hSw); go_simp <;> with_reducible rfl)
  try simp only [Array.reduceGetElem, Act.put, List.setIfInBounds_toArray, List.set_cons_zero, List.set_cons_succ]
  refine wpAnyH_take (i := 2) (v := ?v2x) rfl (by kernel_rfl) (by kernel_rfl) (by kernel_rfl) (fun _ _ _ h => h) (Or.inl ⟨by rfl, ?hy2x⟩) hHeld ?rest2x
  case hy2x => (intro w hSw; (try dsimp only at hSw); go_simp <;> with_reducible rfl)
  try simp only [Array.reduceGetElem, Act.put, List.setIfInBounds_toArray, List.set_cons_zero, List.set_cons_succ]
  refine wpAnyH_take (i := 6) (v := ?v3x) rfl (by kernel_rfl) (by kernel_rfl) (by kernel_rfl) (fun _ _ _ h => h) (Or.inl ⟨by rfl, ?hy3x⟩) hHeld ?rest3x
  case hy3x => (intro w hSw; (try dsimp only at hSw); go_simp <;> with_reducible rfl)
  try simp only [Array.reduceGetElem, Act.put, List.setIfInBounds_toArray, List.set_cons_zero, List.set_cons_succ]
  refine wpAnyH_take (i := 7) (v := ?v4x) rfl (by kernel_rfl) (by kernel_rfl) (by kernel_rfl) (fun _ _ _ h => h) (Or.inl ⟨by rfl, ?hy4x⟩) hHeld ?rest4x
  case hy4x => (intro w hSw; (try dsimp only at hSw); go_simp <;> with_reducible rfl)
  try simp only [Array.reduceGetElem, Act.put, List.setIfInBounds_toArray, List.set_cons_zero, List.set_cons_succ]
  refine wpAnyH_take (i := 11) (v := ?v5x) rfl (by kernel_rfl) (by kernel_rfl) (by kernel_rfl) (fun _ _ _ h => h) (Or.inl ⟨by rfl, ?hy5x⟩) hHeld ?rest5x
  case hy5x => (intro w hSw; (try dsimp only at hSw); go_simp <;> with_reducible rfl)
  try simp only [Array.reduceGetElem, Act.put, List.setIfInBounds_toArray, List.set_cons_zero, List.set_cons_succ]
  refine wpAnyH_take (i := 12) (v := ?v6x) rfl (by kernel_rfl) (by kernel_rfl) (by kernel_rfl) (fun _ _ _ h => h) (Or.inl ⟨by rfl, ?hy6x⟩) hHeld ?rest6x
  case hy6x => (intro w hSw; (try dsimp only at hSw); go_simp <;> with_reducible rfl)
  try simp only [Array.reduceGetElem, Act.put, List.setIfInBounds_toArray, List.set_cons_zero, List.set_cons_succ]
  refine wpAnyH_ready (rs := [0, 8]) (by kernel_rfl) (by simp) ?_
  refine AllReadyH.cons rfl (fun K hK => ?_) (AllReadyH.cons rfl (fun K hK => ?_) AllReadyH.nil)
  · go_simp
    refine hK.out _ _ ?_ (fun hHeld2 => ?_)
    · exact HM.out _ (hHeld.2.2.2.alloc hHeld.2.2.2.size _)
    clear hK K hHeld
    have hHeld := hHeld2
    clear hHeld2
    have hq : (fun W => (W.cell? ⟨w.heap.size, 0, none⟩ = some (.int .i64 k) ∧ W.cell? ⟨w.heap.size, 1, none⟩ = some (.int .i64 f) ∧ W.cell? ⟨w.heap.size, 2, none⟩ = some (.int .i64 l) ∧ Below (w.alloc (.cells #[.int .i64 k, .int .i64 f, .int .i64 l] 25)).heap.size (w.alloc (.cells #[.int .i64 k, .int .i64 f, .int .i64 l] 25)) W) ∧ W.cell? ⟨w.heap.size + 1, k, none⟩ = some (.string D)) ((w.alloc (.cells #[.int .i64 k, .int .i64 f, .int .i64 l] 25)).drew.alloc (.cells #[.string ⟨#[]⟩, .string ⟨#[104, 111, 117, 114, 108, 121]⟩, .string ⟨#[100, 97, 105, 108, 121]⟩, .string ⟨#[119, 101, 101, 107, 108, 121]⟩, .string ⟨#[109, 111, 110, 116, 104, 108, 121]⟩, .string ⟨#[115, 116, 97, 116, 105, 99]⟩] 9)) := ⟨hHeld, (World.cell?_alloc_at _ _ _ _ (by simp)).trans HL.out⟩
    refine wpAnyH_imp (S2 := (fun W => (W.cell? ⟨w.heap.size, 0, none⟩ = some (.int .i64 k) ∧ W.cell? ⟨w.heap.size, 1, none⟩ = some (.int .i64 f) ∧ W.cell? ⟨w.heap.size, 2, none⟩ = some (.int .i64 l) ∧ Below (w.alloc (.cells #[.int .i64 k, .int .i64 f, .int .i64 l] 25)).heap.size (w.alloc (.cells #[.int .i64 k, .int .i64 f, .int .i64 l] 25)) W) ∧ W.cell? ⟨w.heap.size + 1, k, none⟩ = some (.string D))) (fun _ h => h.1) _ _ _ _ ?_
    clear hHeld
    have hHeld := hq
    clear hq
    try simp only [Array.reduceGetElem, Act.put, List.setIfInBounds_toArray, List.set_cons_zero, List.set_cons_succ]
    refine wpAnyH_take (i := 3) (v := ?v7x) rfl (by kernel_rfl) (by kernel_rfl) (by kernel_rfl) (fun _ _ _ h => h) (Or.inl ⟨by rfl, ?hy7x⟩) hHeld ?rest7x
    case hy7x => (intro w hSw; (try dsimp only at hSw); go_simp <;> with_reducible rfl)
    try simp only [Array.reduceGetElem, Act.put, List.setIfInBounds_toArray, List.set_cons_zero, List.set_cons_succ]
    refine wpAnyH_take (i := 4) (v := ?v8x) rfl (by kernel_rfl) (by kernel_rfl) (by kernel_rfl) (fun _ _ _ h => h) (Or.inl ⟨by rfl, ?hy8x⟩) hHeld ?rest8x
    case hy8x => (intro w hSw; (try dsimp only at hSw); go_simp <;> with_reducible rfl)
    try simp only [Array.reduceGetElem, Act.put, List.setIfInBounds_toArray, List.set_cons_zero, List.set_cons_succ]
    refine wpAnyH_take (i := 5) (v := ?v9x) rfl (by kernel_rfl) (by kernel_rfl) (by kernel_rfl) (fun _ _ _ h => h) (Or.inl ⟨by rfl, ?hy9x⟩) hHeld ?rest9x
    case hy9x => (intro w hSw; (try dsimp only at hSw); go_simp <;> with_reducible rfl)
    try simp only [Array.reduceGetElem, Act.put, List.setIfInBounds_toArray, List.set_cons_zero, List.set_cons_succ]
    refine wpAnyH_ready (rs := [8]) (by kernel_rfl) (by simp) ?_
    refine AllReadyH.cons rfl (fun K hK => ?_) AllReadyH.nil
    go_simp
    go_at_call 46; refine (CF.out _).mono ?_; rintro e v1 ⟨rfl, hb⟩; go_wp2_with fail
    refine hK.out _ _ ?_ (fun hHeld2 => ?_)
    · exact ⟨HM.out _ (two hHeld.1.2.2.2 hb), (hb.cell (by exact lt_of_cell hHeld.2)).trans (by exact hHeld.2)⟩
    clear hK K hHeld
    have hHeld := hHeld2
    clear hHeld2
    try simp only [Array.reduceGetElem, Act.put, List.setIfInBounds_toArray, List.set_cons_zero, List.set_cons_succ]
    refine wpAnyH_take (i := 9) (v := ?v10x) rfl (by kernel_rfl) (by kernel_rfl) (by kernel_rfl) (fun _ _ _ h => h) (Or.inl ⟨by rfl, ?hy10x⟩) hHeld ?rest10x
    case hy10x => (intro w hSw; (try dsimp only at hSw); go_simp <;> with_reducible rfl)
    try simp only [Array.reduceGetElem, Act.put, List.setIfInBounds_toArray, List.set_cons_zero, List.set_cons_succ]
    refine wpAnyH_take (i := 10) (v := ?v11x) rfl (by kernel_rfl) (by kernel_rfl) (by kernel_rfl) (fun _ _ _ h => h) (Or.inl ⟨by rfl, ?hy11x⟩) hHeld ?rest11x
    case hy11x => (intro w hSw; (try dsimp only at hSw); go_simp <;> with_reducible rfl)
    try simp only [Array.reduceGetElem, Act.put, List.setIfInBounds_toArray, List.set_cons_zero, List.set_cons_succ]
    refine wpAnyH_ready (rs := [13]) (by kernel_rfl) (by simp) ?_
    refine AllReadyH.cons rfl (fun K hK => ?_) AllReadyH.nil
    go_simp
    go_at_call 46; refine (CL.out _).mono ?_; rintro e v2 ⟨rfl, hb⟩; go_wp2_with fail
    refine hK.out _ _ ?_ (fun hHeld2 => ?_)
    · exact ⟨HM.out _ (two hHeld.1.2.2.2 hb), (hb.cell (by exact lt_of_cell hHeld.2)).trans (by exact hHeld.2)⟩
    clear hK K hHeld
    have hHeld := hHeld2
    clear hHeld2
    try simp only [Array.reduceGetElem, Act.put, List.setIfInBounds_toArray, List.set_cons_zero, List.set_cons_succ]
    refine wpAnyH_take (i := 14) (v := ?v12x) rfl (by kernel_rfl) (by kernel_rfl) (by kernel_rfl) (fun _ _ _ h => h) (Or.inl ⟨by rfl, ?hy12x⟩) hHeld ?rest12x
    case hy12x => (intro w hSw; (try dsimp only at hSw); go_simp <;> with_reducible rfl)
    try simp only [Array.reduceGetElem, Act.put, List.setIfInBounds_toArray, List.set_cons_zero, List.set_cons_succ]
    refine wpAnyH_take (i := 15) (v := ?v13x) rfl (by kernel_rfl) (by kernel_rfl) (by kernel_rfl) (fun _ _ _ h => h) (Or.inl ⟨by rfl, ?hy13x⟩) hHeld ?rest13x
    case hy13x => (intro w hSw; (try dsimp only at hSw); go_simp <;> with_reducible rfl)
    try simp only [Array.reduceGetElem, Act.put, List.setIfInBounds_toArray, List.set_cons_zero, List.set_cons_succ]
    refine wpAnyH_done (by kernel_rfl) ?_ _
    have bz := next bw hHeld.1.2.2.2 (by simp <;> omega)
    clear hHeld
    go_wp2_with fail
    go_ret
    exact ⟨ret_str HX.out, bz⟩
  · go_simp
    go_at_call 46; refine (CF.out _).mono ?_; rintro e v1 ⟨rfl, hb⟩; go_wp2_with fail
    refine hK.out _ _ ?_ (fun hHeld2 => ?_)
    · exact HM.out _ (two hHeld.2.2.2 hb)
    clear hK K hHeld
    have hHeld := hHeld2
    clear hHeld2
    try simp only [Array.reduceGetElem, Act.put, List.setIfInBounds_toArray, List.set_cons_zero, List.set_cons_succ]
    refine wpAnyH_ready (rs := [0, 13]) (by kernel_rfl) (by simp) ?_
    refine AllReadyH.cons rfl (fun K hK => ?_) (AllReadyH.cons rfl (fun K hK => ?_) AllReadyH.nil)
    · go_simp
      refine hK.out _ _ ?_ (fun hHeld2 => ?_)
      · exact HM.out _ (hHeld.2.2.2.alloc hHeld.2.2.2.size _)
      clear hK K hHeld
      have hHeld := hHeld2
      clear hHeld2
      have hq : (fun W => (W.cell? ⟨w.heap.size, 0, none⟩ = some (.int .i64 k) ∧ W.cell? ⟨w.heap.size, 1, none⟩ = some (.int .i64 f) ∧ W.cell? ⟨w.heap.size, 2, none⟩ = some (.int .i64 l) ∧ Below (w.alloc (.cells #[.int .i64 k, .int .i64 f, .int .i64 l] 25)).heap.size (w.alloc (.cells #[.int .i64 k, .int .i64 f, .int .i64 l] 25)) W) ∧ W.cell? ⟨v1.heap.size, k, none⟩ = some (.string D)) (v1.alloc (.cells #[.string ⟨#[]⟩, .string ⟨#[104, 111, 117, 114, 108, 121]⟩, .string ⟨#[100, 97, 105, 108, 121]⟩, .string ⟨#[119, 101, 101, 107, 108, 121]⟩, .string ⟨#[109, 111, 110, 116, 104, 108, 121]⟩, .string ⟨#[115, 116, 97, 116, 105, 99]⟩] 9)) := ⟨hHeld, (World.cell?_alloc_at _ _ _ _ (by simp)).trans HL.out⟩
      refine wpAnyH_imp (S2 := (fun W => (W.cell? ⟨w.heap.size, 0, none⟩ = some (.int .i64 k) ∧ W.cell? ⟨w.heap.size, 1, none⟩ = some (.int .i64 f) ∧ W.cell? ⟨w.heap.size, 2, none⟩ = some (.int .i64 l) ∧ Below (w.alloc (.cells #[.int .i64 k, .int .i64 f, .int .i64 l] 25)).heap.size (w.alloc (.cells #[.int .i64 k, .int .i64 f, .int .i64 l] 25)) W) ∧ W.cell? ⟨v1.heap.size, k, none⟩ = some (.string D))) (fun _ h => h.1) _ _ _ _ ?_
      clear hHeld
      have hHeld := hq
      clear hq
      try simp only [Array.reduceGetElem, Act.put, List.setIfInBounds_toArray, List.set_cons_zero, List.set_cons_succ]
      refine wpAnyH_take (i := 3) (v := ?v14x) rfl (by kernel_rfl) (by kernel_rfl) (by kernel_rfl) (fun _ _ _ h => h) (Or.inl ⟨by rfl, ?hy14x⟩) hHeld ?rest14x
      case hy14x => (intro w hSw; (try dsimp only at hSw); go_simp <;> with_reducible rfl)
      try simp only [Array.reduceGetElem, Act.put, List.setIfInBounds_toArray, List.set_cons_zero, List.set_cons_succ]
      refine wpAnyH_take (i := 4) (v := ?v15x) rfl (by kernel_rfl) (by kernel_rfl) (by kernel_rfl) (fun _ _ _ h => h) (Or.inl ⟨by rfl, ?hy15x⟩) hHeld ?rest15x
      case hy15x => (intro w hSw; (try dsimp only at hSw); go_simp <;> with_reducible rfl)
      try simp only [Array.reduceGetElem, Act.put, List.setIfInBounds_toArray, List.set_cons_zero, List.set_cons_succ]
      refine wpAnyH_take (i := 5) (v := ?v16x) rfl (by kernel_rfl) (by kernel_rfl) (by kernel_rfl) (fun _ _ _ h => h) (Or.inl ⟨by rfl, ?hy16x⟩) hHeld ?rest16x
      case hy16x => (intro w hSw; (try dsimp only at hSw); go_simp <;> with_reducible rfl)
      try simp only [Array.reduceGetElem, Act.put, List.setIfInBounds_toArray, List.set_cons_zero, List.set_cons_succ]
      refine wpAnyH_take (i := 9) (v := ?v17x) rfl (by kernel_rfl) (by kernel_rfl) (by kernel_rfl) (fun _ _ _ h => h) (Or.inl ⟨by rfl, ?hy17x⟩) hHeld ?rest17x
      case hy17x => (intro w hSw; (try dsimp only at hSw); go_simp <;> with_reducible rfl)
      try simp only [Array.reduceGetElem, Act.put, List.setIfInBounds_toArray, List.set_cons_zero, List.set_cons_succ]
      refine wpAnyH_take (i := 10) (v := ?v18x) rfl (by kernel_rfl) (by kernel_rfl) (by kernel_rfl) (fun _ _ _ h => h) (Or.inl ⟨by rfl, ?hy18x⟩) hHeld ?rest18x
      case hy18x => (intro w hSw; (try dsimp only at hSw); go_simp <;> with_reducible rfl)
      try simp only [Array.reduceGetElem, Act.put, List.setIfInBounds_toArray, List.set_cons_zero, List.set_cons_succ]
      refine wpAnyH_ready (rs := [13]) (by kernel_rfl) (by simp) ?_
      refine AllReadyH.cons rfl (fun K hK => ?_) AllReadyH.nil
      go_simp
      go_at_call 46; refine (CL.out _).mono ?_; rintro e v2 ⟨rfl, hb⟩; go_wp2_with fail
      refine hK.out _ _ ?_ (fun hHeld2 => ?_)
      · exact ⟨HM.out _ (two hHeld.1.2.2.2 hb), (hb.cell (by exact lt_of_cell hHeld.2)).trans (by exact hHeld.2)⟩
      clear hK K hHeld
      have hHeld := hHeld2
      clear hHeld2
      try simp only [Array.reduceGetElem, Act.put, List.setIfInBounds_toArray, List.set_cons_zero, List.set_cons_succ]
      refine wpAnyH_take (i := 14) (v := ?v19x) rfl (by kernel_rfl) (by kernel_rfl) (by kernel_rfl) (fun _ _ _ h => h) (Or.inl ⟨by rfl, ?hy19x⟩) hHeld ?rest19x
      case hy19x => (intro w hSw; (try dsimp only at hSw); go_simp <;> with_reducible rfl)
      try simp only [Array.reduceGetElem, Act.put, List.setIfInBounds_toArray, List.set_cons_zero, List.set_cons_succ]
      refine wpAnyH_take (i := 15) (v := ?v20x) rfl (by kernel_rfl) (by kernel_rfl) (by kernel_rfl) (fun _ _ _ h => h) (Or.inl ⟨by rfl, ?hy20x⟩) hHeld ?rest20x
      case hy20x => (intro w hSw; (try dsimp only at hSw); go_simp <;> with_reducible rfl)
      try simp only [Array.reduceGetElem, Act.put, List.setIfInBounds_toArray, List.set_cons_zero, List.set_cons_succ]
      refine wpAnyH_done (by kernel_rfl) ?_ _
      have bz := next bw hHeld.1.2.2.2 (by simp <;> omega)
      clear hHeld
      go_wp2_with fail
      go_ret
      exact ⟨ret_str HX.out, bz⟩
    · go_simp
      go_at_call 46; refine (CL.out _).mono ?_; rintro e v2 ⟨rfl, hb⟩; go_wp2_with fail
      refine hK.out _ _ ?_ (fun hHeld2 => ?_)
      · exact HM.out _ (two hHeld.2.2.2 hb)
      clear hK K hHeld
      have hHeld := hHeld2
      clear hHeld2
      try simp only [Array.reduceGetElem, Act.put, List.setIfInBounds_toArray, List.set_cons_zero, List.set_cons_succ]
      refine wpAnyH_ready (rs := [0]) (by kernel_rfl) (by simp) ?_
      refine AllReadyH.cons rfl (fun K hK => ?_) AllReadyH.nil
      go_simp
      refine hK.out _ _ ?_ (fun hHeld2 => ?_)
      · exact HM.out _ (hHeld.2.2.2.alloc hHeld.2.2.2.size _)
      clear hK K hHeld
      have hHeld := hHeld2
      clear hHeld2
      have hq : (fun W => (W.cell? ⟨w.heap.size, 0, none⟩ = some (.int .i64 k) ∧ W.cell? ⟨w.heap.size, 1, none⟩ = some (.int .i64 f) ∧ W.cell? ⟨w.heap.size, 2, none⟩ = some (.int .i64 l) ∧ Below (w.alloc (.cells #[.int .i64 k, .int .i64 f, .int .i64 l] 25)).heap.size (w.alloc (.cells #[.int .i64 k, .int .i64 f, .int .i64 l] 25)) W) ∧ W.cell? ⟨v2.heap.size, k, none⟩ = some (.string D)) (v2.alloc (.cells #[.string ⟨#[]⟩, .string ⟨#[104, 111, 117, 114, 108, 121]⟩, .string ⟨#[100, 97, 105, 108, 121]⟩, .string ⟨#[119, 101, 101, 107, 108, 121]⟩, .string ⟨#[109, 111, 110, 116, 104, 108, 121]⟩, .string ⟨#[115, 116, 97, 116, 105, 99]⟩] 9)) := ⟨hHeld, (World.cell?_alloc_at _ _ _ _ (by simp)).trans HL.out⟩
      refine wpAnyH_imp (S2 := (fun W => (W.cell? ⟨w.heap.size, 0, none⟩ = some (.int .i64 k) ∧ W.cell? ⟨w.heap.size, 1, none⟩ = some (.int .i64 f) ∧ W.cell? ⟨w.heap.size, 2, none⟩ = some (.int .i64 l) ∧ Below (w.alloc (.cells #[.int .i64 k, .int .i64 f, .int .i64 l] 25)).heap.size (w.alloc (.cells #[.int .i64 k, .int .i64 f, .int .i64 l] 25)) W) ∧ W.cell? ⟨v2.heap.size, k, none⟩ = some (.string D))) (fun _ h => h.1) _ _ _ _ ?_
      clear hHeld
      have hHeld := hq
      clear hq
      try simp only [Array.reduceGetElem, Act.put, List.setIfInBounds_toArray, List.set_cons_zero, List.set_cons_succ]
      refine wpAnyH_take (i := 3) (v := ?v21x) rfl (by kernel_rfl) (by kernel_rfl) (by kernel_rfl) (fun _ _ _ h => h) (Or.inl ⟨by rfl, ?hy21x⟩) hHeld ?rest21x
      case hy21x => (intro w hSw; (try dsimp only at hSw); go_simp <;> with_reducible rfl)
      try simp only [Array.reduceGetElem, Act.put, List.setIfInBounds_toArray, List.set_cons_zero, List.set_cons_succ]
      refine wpAnyH_take (i := 4) (v := ?v22x) rfl (by kernel_rfl) (by kernel_rfl) (by kernel_rfl) (fun _ _ _ h => h) (Or.inl ⟨by rfl, ?hy22x⟩) hHeld ?rest22x
      case hy22x => (intro w hSw; (try dsimp only at hSw); go_simp <;> with_reducible rfl)
      try simp only [Array.reduceGetElem, Act.put, List.setIfInBounds_toArray, List.set_cons_zero, List.set_cons_succ]
      refine wpAnyH_take (i := 5) (v := ?v23x) rfl (by kernel_rfl) (by kernel_rfl) (by kernel_rfl) (fun _ _ _ h => h) (Or.inl ⟨by rfl, ?hy23x⟩) hHeld ?rest23x
      case hy23x => (intro w hSw; (try dsimp only at hSw); go_simp <;> with_reducible rfl)
      try simp only [Array.reduceGetElem, Act.put, List.setIfInBounds_toArray, List.set_cons_zero, List.set_cons_succ]
      refine wpAnyH_take (i := 9) (v := ?v24x) rfl (by kernel_rfl) (by kernel_rfl) (by kernel_rfl) (fun _ _ _ h => h) (Or.inl ⟨by rfl, ?hy24x⟩) hHeld ?rest24x
      case hy24x => (intro w hSw; (try dsimp only at hSw); go_simp <;> with_reducible rfl)
      try simp only [Array.reduceGetElem, Act.put, List.setIfInBounds_toArray, List.set_cons_zero, List.set_cons_succ]
      refine wpAnyH_take (i := 10) (v := ?v25x) rfl (by kernel_rfl) (by kernel_rfl) (by kernel_rfl) (fun _ _ _ h => h) (Or.inl ⟨by rfl, ?hy25x⟩) hHeld ?rest25x
      case hy25x => (intro w hSw; (try dsimp only at hSw); go_simp <;> with_reducible rfl)
      try simp only [Array.reduceGetElem, Act.put, List.setIfInBounds_toArray, List.set_cons_zero, List.set_cons_succ]
      refine wpAnyH_take (i := 14) (v := ?v26x) rfl (by kernel_rfl) (by kernel_rfl) (by kernel_rfl) (fun _ _ _ h => h) (Or.inl ⟨by rfl, ?hy26x⟩) hHeld ?rest26x
      case hy26x => (intro w hSw; (try dsimp only at hSw); go_simp <;> with_reducible rfl)
      try simp only [Array.reduceGetElem, Act.put, List.setIfInBounds_toArray, List.set_cons_zero, List.set_cons_succ]
      refine wpAnyH_take (i := 15) (v := ?v27x) rfl (by kernel_rfl) (by kernel_rfl) (by kernel_rfl) (fun _ _ _ h => h) (Or.inl ⟨by rfl, ?hy27x⟩) hHeld ?rest27x
      case hy27x => (intro w hSw; (try dsimp only at hSw); go_simp <;> with_reducible rfl)
      try simp only [Array.reduceGetElem, Act.put, List.setIfInBounds_toArray, List.set_cons_zero, List.set_cons_succ]
      refine wpAnyH_done (by kernel_rfl) ?_ _
      have bz := next bw hHeld.1.2.2.2 (by simp <;> omega)
      clear hHeld
      go_wp2_with fail
      go_ret
      exact ⟨ret_str HX.out, bz⟩
end Go.Proofs.YtkapkfddbdgmoaaDoor.Sc
