/- The law on the ways of comparing. -/
import Derived.Test.YtedpgeilamhipaaDoorCpsWalk1
import Derived.Test.YtedpgeilamhipaaDoorQuiet
import Derived.BigQuiet
set_option linter.unusedVariables false
set_option linter.unusedSimpArgs false
namespace Go.Proofs.YtedpgeilamhipaaDoor.Va
open Go.RowKit Go Go.Sort Ba

set_option maxRecDepth 100000 in
set_option maxHeartbeats 3200000 in
theorem cps_a (op ka na : Int) (sa : ByteArray) (kb nb : Int) (sb : ByteArray) (w : World) (ha : sa.size ≤ 9223372036854775807) (hbs : sb.size ≤ 9223372036854775807) (hE : Env w) (ra : rightB ka na sa = false) :
    Calls Tryd.prog 9 #[.int .i64 op, .agg #[.int .i64 ka, .int .i64 na, .string sa], .agg #[.int .i64 kb, .int .i64 nb, .string sb]] w fun e w' => e = .returned (.bool true) ∧ Below w.heap.size w w' := by
  have HE := Lib.hid hE
  have b0 : Below w.heap.size w ((w.alloc (.cells #[.int .i64 ka, .int .i64 na, .string sa] 23)).alloc (.cells #[.int .i64 kb, .int .i64 nb, .string sb] 23)) := by go_grown
  have HM : Hid (∀ W, Below ((w.alloc (.cells #[.int .i64 ka, .int .i64 na, .string sa] 23)).alloc (.cells #[.int .i64 kb, .int .i64 nb, .string sb] 23)).heap.size ((w.alloc (.cells #[.int .i64 ka, .int .i64 na, .string sa] 23)).alloc (.cells #[.int .i64 kb, .int .i64 nb, .string sb] 23)) W → W.cell? ⟨w.heap.size, 0, none⟩ = some (.int .i64 ka) ∧ W.cell? ⟨w.heap.size, 1, none⟩ = some (.int .i64 na) ∧ W.cell? ⟨w.heap.size, 2, none⟩ = some (.string sa) ∧ W.cell? ⟨w.heap.size + 1, 0, none⟩ = some (.int .i64 kb) ∧ W.cell? ⟨w.heap.size + 1, 1, none⟩ = some (.int .i64 nb) ∧ W.cell? ⟨w.heap.size + 1, 2, none⟩ = some (.string sb) ∧ w.heap.size + 1 < W.heap.size) := fun W h =>
    ⟨(h.cell (by simp; omega)).trans (by simp), (h.cell (by simp; omega)).trans (by simp), (h.cell (by simp; omega)).trans (by simp), (h.cell (by simp)).trans (by simp), (h.cell (by simp)).trans (by simp), (h.cell (by simp)).trans (by simp), by have := h.size; simp only [World.size_alloc] at this; omega⟩
  have RA := Lib.hid ra
  clear ra
  clear hE
  go_enter Tryd.func9, Tryd.ntmps9
  go_wp2_with fail
  refine (lawRight_any ka na sa _ ha false RA.out).mono ?_
  rintro e w1 ⟨rfl, hb⟩
  have bx := hb
  clear hb
  obtain ⟨a0, a1, a2, d0, d1, d2, hz⟩ := HM.out _ bx
  have hy : w.heap.size < w1.heap.size := by omega
  have bw := next b0 bx (by simp <;> omega)
  go_wp2_with fail
  refine (awake_any _ (HE.out.below bw)).mono ?_
  rintro e w9 ⟨rfl, hb9⟩
  go_wp2_with fail
  go_ret
  exact ⟨rfl, two bw hb9⟩

set_option maxRecDepth 100000 in
set_option maxHeartbeats 3200000 in
theorem cps_b (op ka na : Int) (sa : ByteArray) (kb nb : Int) (sb : ByteArray) (w : World) (ha : sa.size ≤ 9223372036854775807) (hbs : sb.size ≤ 9223372036854775807) (hE : Env w) (ra : rightB ka na sa = true) (rb : rightB kb nb sb = false) :
    Calls Tryd.prog 9 #[.int .i64 op, .agg #[.int .i64 ka, .int .i64 na, .string sa], .agg #[.int .i64 kb, .int .i64 nb, .string sb]] w fun e w' => e = .returned (.bool true) ∧ Below w.heap.size w w' := by
  have HE := Lib.hid hE
  have b0 : Below w.heap.size w ((w.alloc (.cells #[.int .i64 ka, .int .i64 na, .string sa] 23)).alloc (.cells #[.int .i64 kb, .int .i64 nb, .string sb] 23)) := by go_grown
  have HM : Hid (∀ W, Below ((w.alloc (.cells #[.int .i64 ka, .int .i64 na, .string sa] 23)).alloc (.cells #[.int .i64 kb, .int .i64 nb, .string sb] 23)).heap.size ((w.alloc (.cells #[.int .i64 ka, .int .i64 na, .string sa] 23)).alloc (.cells #[.int .i64 kb, .int .i64 nb, .string sb] 23)) W → W.cell? ⟨w.heap.size, 0, none⟩ = some (.int .i64 ka) ∧ W.cell? ⟨w.heap.size, 1, none⟩ = some (.int .i64 na) ∧ W.cell? ⟨w.heap.size, 2, none⟩ = some (.string sa) ∧ W.cell? ⟨w.heap.size + 1, 0, none⟩ = some (.int .i64 kb) ∧ W.cell? ⟨w.heap.size + 1, 1, none⟩ = some (.int .i64 nb) ∧ W.cell? ⟨w.heap.size + 1, 2, none⟩ = some (.string sb) ∧ w.heap.size + 1 < W.heap.size) := fun W h =>
    ⟨(h.cell (by simp; omega)).trans (by simp), (h.cell (by simp; omega)).trans (by simp), (h.cell (by simp; omega)).trans (by simp), (h.cell (by simp)).trans (by simp), (h.cell (by simp)).trans (by simp), (h.cell (by simp)).trans (by simp), by have := h.size; simp only [World.size_alloc] at this; omega⟩
  have RA := Lib.hid ra
  clear ra
  have RB := Lib.hid rb
  clear rb
  clear hE
  go_enter Tryd.func9, Tryd.ntmps9
  go_wp2_with fail
  refine (lawRight_any ka na sa _ ha true RA.out).mono ?_
  rintro e w1 ⟨rfl, hb⟩
  have bx := hb
  clear hb
  obtain ⟨a0, a1, a2, d0, d1, d2, hz⟩ := HM.out _ bx
  have hy : w.heap.size < w1.heap.size := by omega
  go_wp2_with fail
  refine (lawRight_any kb nb sb _ hbs false RB.out).mono ?_
  rintro e w2 ⟨rfl, hb⟩
  clear a0 a1 a2 d0 d1 d2 hz hy
  replace bx := two bx hb
  clear hb
  obtain ⟨a0, a1, a2, d0, d1, d2, hz⟩ := HM.out _ bx
  have hy : w.heap.size < w2.heap.size := by omega
  have bw := next b0 bx (by simp <;> omega)
  go_wp2_with fail
  refine (awake_any _ (HE.out.below bw)).mono ?_
  rintro e w9 ⟨rfl, hb9⟩
  go_wp2_with fail
  go_ret
  exact ⟨rfl, two bw hb9⟩

set_option maxRecDepth 100000 in
set_option maxHeartbeats 3200000 in
theorem cps_n1 (op ka na : Int) (sa : ByteArray) (kb nb : Int) (sb : ByteArray) (w : World) (ha : sa.size ≤ 9223372036854775807) (hbs : sb.size ≤ 9223372036854775807) (hE : Env w) (h1 : ka = 0) (ra : rightB ka na sa = true) (rb : rightB kb nb sb = true) :
    Calls Tryd.prog 9 #[.int .i64 op, .agg #[.int .i64 ka, .int .i64 na, .string sa], .agg #[.int .i64 kb, .int .i64 nb, .string sb]] w fun e w' => e = .returned (.bool true) ∧ Below w.heap.size w w' := by
  subst h1
  have HE := Lib.hid hE
  have b0 : Below w.heap.size w ((w.alloc (.cells #[.int .i64 0, .int .i64 na, .string sa] 23)).alloc (.cells #[.int .i64 kb, .int .i64 nb, .string sb] 23)) := by go_grown
  have HM : Hid (∀ W, Below ((w.alloc (.cells #[.int .i64 0, .int .i64 na, .string sa] 23)).alloc (.cells #[.int .i64 kb, .int .i64 nb, .string sb] 23)).heap.size ((w.alloc (.cells #[.int .i64 0, .int .i64 na, .string sa] 23)).alloc (.cells #[.int .i64 kb, .int .i64 nb, .string sb] 23)) W → W.cell? ⟨w.heap.size, 0, none⟩ = some (.int .i64 0) ∧ W.cell? ⟨w.heap.size, 1, none⟩ = some (.int .i64 na) ∧ W.cell? ⟨w.heap.size, 2, none⟩ = some (.string sa) ∧ W.cell? ⟨w.heap.size + 1, 0, none⟩ = some (.int .i64 kb) ∧ W.cell? ⟨w.heap.size + 1, 1, none⟩ = some (.int .i64 nb) ∧ W.cell? ⟨w.heap.size + 1, 2, none⟩ = some (.string sb) ∧ w.heap.size + 1 < W.heap.size) := fun W h =>
    ⟨(h.cell (by simp; omega)).trans (by simp), (h.cell (by simp; omega)).trans (by simp), (h.cell (by simp; omega)).trans (by simp), (h.cell (by simp)).trans (by simp), (h.cell (by simp)).trans (by simp), (h.cell (by simp)).trans (by simp), by have := h.size; simp only [World.size_alloc] at this; omega⟩
  have RA := Lib.hid ra
  clear ra
  have RB := Lib.hid rb
  clear rb
  clear hE
  go_enter Tryd.func9, Tryd.ntmps9
  go_wp2_with fail
  refine (lawRight_any 0 na sa _ ha true RA.out).mono ?_
  rintro e w1 ⟨rfl, hb⟩
  have bx := hb
  clear hb
  obtain ⟨a0, a1, a2, d0, d1, d2, hz⟩ := HM.out _ bx
  have hy : w.heap.size < w1.heap.size := by omega
  go_wp2_with fail
  refine (lawRight_any kb nb sb _ hbs true RB.out).mono ?_
  rintro e w2 ⟨rfl, hb⟩
  clear a0 a1 a2 d0 d1 d2 hz hy
  replace bx := two bx hb
  clear hb
  obtain ⟨a0, a1, a2, d0, d1, d2, hz⟩ := HM.out _ bx
  have hy : w.heap.size < w2.heap.size := by omega
  go_wp2_with fail
  refine (compare_null op 0 na sa kb nb sb _ (.inr (.inr (.inl rfl)))).mono ?_
  rintro e w3 ⟨rfl, hb⟩
  clear a0 a1 a2 d0 d1 d2 hz hy
  replace bx := two bx hb
  clear hb
  obtain ⟨a0, a1, a2, d0, d1, d2, hz⟩ := HM.out _ bx
  have hy : w.heap.size < w3.heap.size := by omega
  have bw := (next b0 bx (by simp <;> omega)).alloc (by have := b0.size; have := bx.size; omega) (.cells #[.int .i64 0, .int .i64 0, .string ⟨#[]⟩] 23)
  have heq := val_eq 0 0 ⟨#[]⟩ 0 0 ⟨#[]⟩ true (by simp)
  go_wp2_with fail
  refine (awake_any _ (HE.out.below bw)).mono ?_
  rintro e w9 ⟨rfl, hb9⟩
  go_wp2_with fail
  go_ret
  exact ⟨rfl, two bw hb9⟩

set_option maxRecDepth 100000 in
set_option maxHeartbeats 3200000 in
theorem cps_n2 (op ka na : Int) (sa : ByteArray) (kb nb : Int) (sb : ByteArray) (w : World) (ha : sa.size ≤ 9223372036854775807) (hbs : sb.size ≤ 9223372036854775807) (hE : Env w) (h1 : ¬ ka = 0) (h2 : kb = 0) (ra : rightB ka na sa = true) (rb : rightB kb nb sb = true) :
    Calls Tryd.prog 9 #[.int .i64 op, .agg #[.int .i64 ka, .int .i64 na, .string sa], .agg #[.int .i64 kb, .int .i64 nb, .string sb]] w fun e w' => e = .returned (.bool true) ∧ Below w.heap.size w w' := by
  subst h2
  have z1 : (ka == 0) = false := by simpa using h1
  have HE := Lib.hid hE
  have b0 : Below w.heap.size w ((w.alloc (.cells #[.int .i64 ka, .int .i64 na, .string sa] 23)).alloc (.cells #[.int .i64 0, .int .i64 nb, .string sb] 23)) := by go_grown
  have HM : Hid (∀ W, Below ((w.alloc (.cells #[.int .i64 ka, .int .i64 na, .string sa] 23)).alloc (.cells #[.int .i64 0, .int .i64 nb, .string sb] 23)).heap.size ((w.alloc (.cells #[.int .i64 ka, .int .i64 na, .string sa] 23)).alloc (.cells #[.int .i64 0, .int .i64 nb, .string sb] 23)) W → W.cell? ⟨w.heap.size, 0, none⟩ = some (.int .i64 ka) ∧ W.cell? ⟨w.heap.size, 1, none⟩ = some (.int .i64 na) ∧ W.cell? ⟨w.heap.size, 2, none⟩ = some (.string sa) ∧ W.cell? ⟨w.heap.size + 1, 0, none⟩ = some (.int .i64 0) ∧ W.cell? ⟨w.heap.size + 1, 1, none⟩ = some (.int .i64 nb) ∧ W.cell? ⟨w.heap.size + 1, 2, none⟩ = some (.string sb) ∧ w.heap.size + 1 < W.heap.size) := fun W h =>
    ⟨(h.cell (by simp; omega)).trans (by simp), (h.cell (by simp; omega)).trans (by simp), (h.cell (by simp; omega)).trans (by simp), (h.cell (by simp)).trans (by simp), (h.cell (by simp)).trans (by simp), (h.cell (by simp)).trans (by simp), by have := h.size; simp only [World.size_alloc] at this; omega⟩
  have RA := Lib.hid ra
  clear ra
  have RB := Lib.hid rb
  clear rb
  clear hE
  go_enter Tryd.func9, Tryd.ntmps9
  go_wp2_with fail
  refine (lawRight_any ka na sa _ ha true RA.out).mono ?_
  rintro e w1 ⟨rfl, hb⟩
  have bx := hb
  clear hb
  obtain ⟨a0, a1, a2, d0, d1, d2, hz⟩ := HM.out _ bx
  have hy : w.heap.size < w1.heap.size := by omega
  go_wp2_with fail
  refine (lawRight_any 0 nb sb _ hbs true RB.out).mono ?_
  rintro e w2 ⟨rfl, hb⟩
  clear a0 a1 a2 d0 d1 d2 hz hy
  replace bx := two bx hb
  clear hb
  obtain ⟨a0, a1, a2, d0, d1, d2, hz⟩ := HM.out _ bx
  have hy : w.heap.size < w2.heap.size := by omega
  go_wp2_with fail
  refine (compare_null op ka na sa 0 nb sb _ (.inr (.inr (.inr rfl)))).mono ?_
  rintro e w3 ⟨rfl, hb⟩
  clear a0 a1 a2 d0 d1 d2 hz hy
  replace bx := two bx hb
  clear hb
  obtain ⟨a0, a1, a2, d0, d1, d2, hz⟩ := HM.out _ bx
  have hy : w.heap.size < w3.heap.size := by omega
  have bw := (next b0 bx (by simp <;> omega)).alloc (by have := b0.size; have := bx.size; omega) (.cells #[.int .i64 0, .int .i64 0, .string ⟨#[]⟩] 23)
  have heq := val_eq 0 0 ⟨#[]⟩ 0 0 ⟨#[]⟩ true (by simp)
  go_wp2_with fail
  refine (awake_any _ (HE.out.below bw)).mono ?_
  rintro e w9 ⟨rfl, hb9⟩
  go_wp2_with fail
  go_ret
  exact ⟨rfl, two bw hb9⟩

set_option maxRecDepth 100000 in
set_option maxHeartbeats 3200000 in
theorem cps_n3 (op ka na : Int) (sa : ByteArray) (kb nb : Int) (sb : ByteArray) (w : World) (ha : sa.size ≤ 9223372036854775807) (hbs : sb.size ≤ 9223372036854775807) (hE : Env w) (h1 : ¬ ka = 0) (h2 : ¬ kb = 0) (h3 : op < 1) (ra : rightB ka na sa = true) (rb : rightB kb nb sb = true) :
    Calls Tryd.prog 9 #[.int .i64 op, .agg #[.int .i64 ka, .int .i64 na, .string sa], .agg #[.int .i64 kb, .int .i64 nb, .string sb]] w fun e w' => e = .returned (.bool true) ∧ Below w.heap.size w w' := by
  have z1 : (ka == 0) = false := by simpa using h1
  have z2 : (kb == 0) = false := by simpa using h2
  have HE := Lib.hid hE
  have b0 : Below w.heap.size w ((w.alloc (.cells #[.int .i64 ka, .int .i64 na, .string sa] 23)).alloc (.cells #[.int .i64 kb, .int .i64 nb, .string sb] 23)) := by go_grown
  have HM : Hid (∀ W, Below ((w.alloc (.cells #[.int .i64 ka, .int .i64 na, .string sa] 23)).alloc (.cells #[.int .i64 kb, .int .i64 nb, .string sb] 23)).heap.size ((w.alloc (.cells #[.int .i64 ka, .int .i64 na, .string sa] 23)).alloc (.cells #[.int .i64 kb, .int .i64 nb, .string sb] 23)) W → W.cell? ⟨w.heap.size, 0, none⟩ = some (.int .i64 ka) ∧ W.cell? ⟨w.heap.size, 1, none⟩ = some (.int .i64 na) ∧ W.cell? ⟨w.heap.size, 2, none⟩ = some (.string sa) ∧ W.cell? ⟨w.heap.size + 1, 0, none⟩ = some (.int .i64 kb) ∧ W.cell? ⟨w.heap.size + 1, 1, none⟩ = some (.int .i64 nb) ∧ W.cell? ⟨w.heap.size + 1, 2, none⟩ = some (.string sb) ∧ w.heap.size + 1 < W.heap.size) := fun W h =>
    ⟨(h.cell (by simp; omega)).trans (by simp), (h.cell (by simp; omega)).trans (by simp), (h.cell (by simp; omega)).trans (by simp), (h.cell (by simp)).trans (by simp), (h.cell (by simp)).trans (by simp), (h.cell (by simp)).trans (by simp), by have := h.size; simp only [World.size_alloc] at this; omega⟩
  have RA := Lib.hid ra
  clear ra
  have RB := Lib.hid rb
  clear rb
  clear hE
  go_enter Tryd.func9, Tryd.ntmps9
  go_wp2_with fail
  refine (lawRight_any ka na sa _ ha true RA.out).mono ?_
  rintro e w1 ⟨rfl, hb⟩
  have bx := hb
  clear hb
  obtain ⟨a0, a1, a2, d0, d1, d2, hz⟩ := HM.out _ bx
  have hy : w.heap.size < w1.heap.size := by omega
  go_wp2_with fail
  refine (lawRight_any kb nb sb _ hbs true RB.out).mono ?_
  rintro e w2 ⟨rfl, hb⟩
  clear a0 a1 a2 d0 d1 d2 hz hy
  replace bx := two bx hb
  clear hb
  obtain ⟨a0, a1, a2, d0, d1, d2, hz⟩ := HM.out _ bx
  have hy : w.heap.size < w2.heap.size := by omega
  go_wp2_with fail
  refine (compare_null op ka na sa kb nb sb _ (.inl h3)).mono ?_
  rintro e w3 ⟨rfl, hb⟩
  clear a0 a1 a2 d0 d1 d2 hz hy
  replace bx := two bx hb
  clear hb
  obtain ⟨a0, a1, a2, d0, d1, d2, hz⟩ := HM.out _ bx
  have hy : w.heap.size < w3.heap.size := by omega
  have bw := (next b0 bx (by simp <;> omega)).alloc (by have := b0.size; have := bx.size; omega) (.cells #[.int .i64 0, .int .i64 0, .string ⟨#[]⟩] 23)
  have heq := val_eq 0 0 ⟨#[]⟩ 0 0 ⟨#[]⟩ true (by simp)
  go_wp2_with fail
  refine (awake_any _ (HE.out.below bw)).mono ?_
  rintro e w9 ⟨rfl, hb9⟩
  go_wp2_with fail
  go_ret
  exact ⟨rfl, two bw hb9⟩

set_option maxRecDepth 100000 in
set_option maxHeartbeats 3200000 in
theorem cps_n4 (op ka na : Int) (sa : ByteArray) (kb nb : Int) (sb : ByteArray) (w : World) (ha : sa.size ≤ 9223372036854775807) (hbs : sb.size ≤ 9223372036854775807) (hE : Env w) (h1 : ¬ ka = 0) (h2 : ¬ kb = 0) (h3 : ¬ op < 1) (h4 : 6 < op) (ra : rightB ka na sa = true) (rb : rightB kb nb sb = true) :
    Calls Tryd.prog 9 #[.int .i64 op, .agg #[.int .i64 ka, .int .i64 na, .string sa], .agg #[.int .i64 kb, .int .i64 nb, .string sb]] w fun e w' => e = .returned (.bool true) ∧ Below w.heap.size w w' := by
  have z1 : (ka == 0) = false := by simpa using h1
  have z2 : (kb == 0) = false := by simpa using h2
  have HE := Lib.hid hE
  have b0 : Below w.heap.size w ((w.alloc (.cells #[.int .i64 ka, .int .i64 na, .string sa] 23)).alloc (.cells #[.int .i64 kb, .int .i64 nb, .string sb] 23)) := by go_grown
  have HM : Hid (∀ W, Below ((w.alloc (.cells #[.int .i64 ka, .int .i64 na, .string sa] 23)).alloc (.cells #[.int .i64 kb, .int .i64 nb, .string sb] 23)).heap.size ((w.alloc (.cells #[.int .i64 ka, .int .i64 na, .string sa] 23)).alloc (.cells #[.int .i64 kb, .int .i64 nb, .string sb] 23)) W → W.cell? ⟨w.heap.size, 0, none⟩ = some (.int .i64 ka) ∧ W.cell? ⟨w.heap.size, 1, none⟩ = some (.int .i64 na) ∧ W.cell? ⟨w.heap.size, 2, none⟩ = some (.string sa) ∧ W.cell? ⟨w.heap.size + 1, 0, none⟩ = some (.int .i64 kb) ∧ W.cell? ⟨w.heap.size + 1, 1, none⟩ = some (.int .i64 nb) ∧ W.cell? ⟨w.heap.size + 1, 2, none⟩ = some (.string sb) ∧ w.heap.size + 1 < W.heap.size) := fun W h =>
    ⟨(h.cell (by simp; omega)).trans (by simp), (h.cell (by simp; omega)).trans (by simp), (h.cell (by simp; omega)).trans (by simp), (h.cell (by simp)).trans (by simp), (h.cell (by simp)).trans (by simp), (h.cell (by simp)).trans (by simp), by have := h.size; simp only [World.size_alloc] at this; omega⟩
  have RA := Lib.hid ra
  clear ra
  have RB := Lib.hid rb
  clear rb
  clear hE
  go_enter Tryd.func9, Tryd.ntmps9
  go_wp2_with fail
  refine (lawRight_any ka na sa _ ha true RA.out).mono ?_
  rintro e w1 ⟨rfl, hb⟩
  have bx := hb
  clear hb
  obtain ⟨a0, a1, a2, d0, d1, d2, hz⟩ := HM.out _ bx
  have hy : w.heap.size < w1.heap.size := by omega
  go_wp2_with fail
  refine (lawRight_any kb nb sb _ hbs true RB.out).mono ?_
  rintro e w2 ⟨rfl, hb⟩
  clear a0 a1 a2 d0 d1 d2 hz hy
  replace bx := two bx hb
  clear hb
  obtain ⟨a0, a1, a2, d0, d1, d2, hz⟩ := HM.out _ bx
  have hy : w.heap.size < w2.heap.size := by omega
  go_wp2_with fail
  refine (compare_null op ka na sa kb nb sb _ (.inr (.inl h4))).mono ?_
  rintro e w3 ⟨rfl, hb⟩
  clear a0 a1 a2 d0 d1 d2 hz hy
  replace bx := two bx hb
  clear hb
  obtain ⟨a0, a1, a2, d0, d1, d2, hz⟩ := HM.out _ bx
  have hy : w.heap.size < w3.heap.size := by omega
  have bw := (next b0 bx (by simp <;> omega)).alloc (by have := b0.size; have := bx.size; omega) (.cells #[.int .i64 0, .int .i64 0, .string ⟨#[]⟩] 23)
  have heq := val_eq 0 0 ⟨#[]⟩ 0 0 ⟨#[]⟩ true (by simp)
  go_wp2_with fail
  refine (awake_any _ (HE.out.below bw)).mono ?_
  rintro e w9 ⟨rfl, hb9⟩
  go_wp2_with fail
  go_ret
  exact ⟨rfl, two bw hb9⟩

end Go.Proofs.YtedpgeilamhipaaDoor.Va
