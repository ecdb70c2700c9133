/- The law on the ways of comparing. -/
import Derived.Test.YtedpgeilamhipaaDoorCpsWalk1
import Derived.Test.YtedpgeilamhipaaDoorQuiet
import Derived.BigQuiet
set_option linter.unusedVariables false
set_option linter.unusedSimpArgs false
namespace Go.Proofs.YtedpgeilamhipaaDoor.Va
open Go.RowKit Go Go.Sort Ba

set_option maxRecDepth 100000 in
set_option maxHeartbeats 3200000 in
theorem cps_false (op ka na : Int) (sa : ByteArray) (kb nb : Int) (sb : ByteArray) (w : World) (ha : sa.size ≤ 9223372036854775807) (hbs : sb.size ≤ 9223372036854775807) (hE : Env w) (h : IsWay op) (hk : ¬ ka = 0) (hl : ¬ kb = 0) (c : Int) (hc : cmpV ka na sa kb nb sb = c) (c0 : -1 ≤ c) (c1 : c ≤ 1) (hr : holdsB op c = false) (ra : rightB ka na sa = true) (rb : rightB kb nb sb = true) :
    Calls Tryd.prog 9 #[.int .i64 op, .agg #[.int .i64 ka, .int .i64 na, .string sa], .agg #[.int .i64 kb, .int .i64 nb, .string sb]] w fun e w' => e = .returned (.bool true) ∧ Below w.heap.size w w' := by
  have HE := Lib.hid hE
  have b0 : Below w.heap.size w ((w.alloc (.cells #[.int .i64 ka, .int .i64 na, .string sa] 23)).alloc (.cells #[.int .i64 kb, .int .i64 nb, .string sb] 23)) := by go_grown
  have HM : Hid (∀ W, Below ((w.alloc (.cells #[.int .i64 ka, .int .i64 na, .string sa] 23)).alloc (.cells #[.int .i64 kb, .int .i64 nb, .string sb] 23)).heap.size ((w.alloc (.cells #[.int .i64 ka, .int .i64 na, .string sa] 23)).alloc (.cells #[.int .i64 kb, .int .i64 nb, .string sb] 23)) W → W.cell? ⟨w.heap.size, 0, none⟩ = some (.int .i64 ka) ∧ W.cell? ⟨w.heap.size, 1, none⟩ = some (.int .i64 na) ∧ W.cell? ⟨w.heap.size, 2, none⟩ = some (.string sa) ∧ W.cell? ⟨w.heap.size + 1, 0, none⟩ = some (.int .i64 kb) ∧ W.cell? ⟨w.heap.size + 1, 1, none⟩ = some (.int .i64 nb) ∧ W.cell? ⟨w.heap.size + 1, 2, none⟩ = some (.string sb) ∧ w.heap.size + 1 < W.heap.size) := fun W h =>
    ⟨(h.cell (by simp; omega)).trans (by simp), (h.cell (by simp; omega)).trans (by simp), (h.cell (by simp; omega)).trans (by simp), (h.cell (by simp)).trans (by simp), (h.cell (by simp)).trans (by simp), (h.cell (by simp)).trans (by simp), by have := h.size; simp only [World.size_alloc] at this; omega⟩
  have RA := Lib.hid ra
  clear ra
  have RB := Lib.hid rb
  clear rb
  have z1 : (ka == 0) = false := by simpa using hk
  have z2 : (kb == 0) = false := by simpa using hl
  have q1 : 1 ≤ op := by unfold IsWay at h; omega
  have q2 : op ≤ 6 := by unfold IsWay at h; omega
  have HH : Hid (IsWay op) := h
  have HC := Lib.hid hc
  have HR := Lib.hid hr
  have hk' := Lib.hid hk
  have hl' := Lib.hid hl
  clear h hk hl hc hr
  clear hE
  go_enter Tryd.func9, Tryd.ntmps9
  go_wp2_with fail
  refine (lawRight_any ka na sa _ ha true RA.out).mono ?_
  rintro e w1 ⟨rfl, hb⟩
  have bx := hb
  clear hb
  obtain ⟨a0, a1, a2, d0, d1, d2, hz⟩ := HM.out _ bx
  have hy : w.heap.size < w1.heap.size := by omega
  go_wp2_with fail
  refine (lawRight_any kb nb sb _ hbs true RB.out).mono ?_
  rintro e w2 ⟨rfl, hb⟩
  clear a0 a1 a2 d0 d1 d2 hz hy
  replace bx := two bx hb
  clear hb
  obtain ⟨a0, a1, a2, d0, d1, d2, hz⟩ := HM.out _ bx
  have hy : w.heap.size < w2.heap.size := by omega
  go_wp2_with fail
  refine (compare_ok op ka na sa kb nb sb c 0 false _ HH.out hk'.out hl'.out HC.out c0 c1 HR.out rfl).mono ?_
  rintro e w3 ⟨rfl, hb⟩
  clear a0 a1 a2 d0 d1 d2 hz hy
  replace bx := two bx hb
  clear hb
  obtain ⟨a0, a1, a2, d0, d1, d2, hz⟩ := HM.out _ bx
  have hy : w.heap.size < w3.heap.size := by omega
  have bw := (next b0 bx (by simp <;> omega)).alloc (by have := b0.size; have := bx.size; omega) (.cells #[.int .i64 1, .int .i64 0, .string ⟨#[]⟩] 23)
  have k0 := fun d os => cell_regrown (a := ⟨w.heap.size, 0, none⟩) (show (w3.alloc (.cells #[.int .i64 1, .int .i64 0, .string ⟨#[]⟩] 23)).cell? _ = _ by rw [World.cell?_alloc_past _ _ _ (by omega)]; exact a0) d os
  have k1 := fun d os => cell_regrown (a := ⟨w.heap.size, 1, none⟩) (show (w3.alloc (.cells #[.int .i64 1, .int .i64 0, .string ⟨#[]⟩] 23)).cell? _ = _ by rw [World.cell?_alloc_past _ _ _ (by omega)]; exact a1) d os
  have k2 := fun d os => cell_regrown (a := ⟨w.heap.size, 2, none⟩) (show (w3.alloc (.cells #[.int .i64 1, .int .i64 0, .string ⟨#[]⟩] 23)).cell? _ = _ by rw [World.cell?_alloc_past _ _ _ (by omega)]; exact a2) d os
  have l0 := fun d os => cell_regrown (a := ⟨w.heap.size + 1, 0, none⟩) (show (w3.alloc (.cells #[.int .i64 1, .int .i64 0, .string ⟨#[]⟩] 23)).cell? _ = _ by rw [World.cell?_alloc_past _ _ _ (by omega)]; exact d0) d os
  have l1 := fun d os => cell_regrown (a := ⟨w.heap.size + 1, 1, none⟩) (show (w3.alloc (.cells #[.int .i64 1, .int .i64 0, .string ⟨#[]⟩] 23)).cell? _ = _ by rw [World.cell?_alloc_past _ _ _ (by omega)]; exact d1) d os
  have l2 := fun d os => cell_regrown (a := ⟨w.heap.size + 1, 2, none⟩) (show (w3.alloc (.cells #[.int .i64 1, .int .i64 0, .string ⟨#[]⟩] 23)).cell? _ = _ by rw [World.cell?_alloc_past _ _ _ (by omega)]; exact d2) d os
  have m0 : (w3.alloc (.cells #[.int .i64 1, .int .i64 0, .string ⟨#[]⟩] 23)).cell? ⟨w3.heap.size, 0, none⟩ = some (.int .i64 1) := by simp [World.cell?_alloc_at]
  have m1 : (w3.alloc (.cells #[.int .i64 1, .int .i64 0, .string ⟨#[]⟩] 23)).cell? ⟨w3.heap.size, 1, none⟩ = some (.int .i64 0) := by simp [World.cell?_alloc_at]
  have m2 : (w3.alloc (.cells #[.int .i64 1, .int .i64 0, .string ⟨#[]⟩] 23)).cell? ⟨w3.heap.size, 2, none⟩ = some (.string ⟨#[]⟩) := by simp [World.cell?_alloc_at]
  have heq := val_eq 1 0 ⟨#[]⟩ 1 0 ⟨#[]⟩ true (by simp)
  go_wp2_with fail
  generalize w3.alloc (.cells #[.int .i64 1, .int .i64 0, .string ⟨#[]⟩] 23) = W at *
  have cA := qcall (w := W) fun W' _ => ref01_any ka na sa W'
  have cB := qcall (w := W) fun W' _ => ref01_any kb nb sb W'
  have cH := qcall (w := W) fun W' _ => refHolds_any op ka na sa kb nb sb c false W' ha hbs HH.out HC.out c0 c1 HR.out
  refine wp_region_quiet_below (by kernel_rfl) (by kernel_rfl) ?_
  repeat (go_big_quiet_step (first | exact cA _ _ | exact cB _ _ | exact cH _ _))
  refine wpQuiet_nil ?_
  intro _ hw'
  obtain ⟨⟨dq1, os1⟩, hw''⟩ := hw'
  subst hw''
  have bg := below_regrown W dq1 os1
  have m0 := (bg.cell (lt_of_cell m0)).trans m0
  have m1 := (bg.cell (lt_of_cell m1)).trans m1
  have m2 := (bg.cell (lt_of_cell m2)).trans m2
  have bw := two bw bg
  clear cA cB cH k0 k1 k2 l0 l1 l2 bg
  generalize grow (redrawn W dq1) os1 = V at *
  go_wp2_with fail
  have k0 := cell_regrown (w := V) m0
  have k1 := cell_regrown (w := V) m1
  have k2 := cell_regrown (w := V) m2
  have cO := qcall (w := V) fun W' _ => of_any 0 W'
  have cW := qcall (w := V) fun W' hb => awake_any W' (HE.out.below (two bw hb))
  refine wp_region_quiet_below (by kernel_rfl) (by kernel_rfl) ?_
  repeat (go_big_quiet_step (first | exact cO _ _ | exact cW _ _))
  refine wpQuiet_nil ?_
  intro _ hw'
  obtain ⟨⟨dq2, os2⟩, hw''⟩ := hw'
  subst hw''
  go_wp2_with fail
  go_ret
  exact ⟨rfl, two bw (below_regrown _ _ _)⟩

end Go.Proofs.YtedpgeilamhipaaDoor.Va
