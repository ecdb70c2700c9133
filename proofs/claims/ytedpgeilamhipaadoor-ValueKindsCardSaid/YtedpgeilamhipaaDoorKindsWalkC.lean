/- The walk of the law on kinds. -/
import Derived.Test.YtedpgeilamhipaaDoorValWalk8
set_option linter.unusedVariables false
set_option linter.unusedSimpArgs false
namespace Go.Proofs.YtedpgeilamhipaaDoor.Va
open Go.RowKit Go Ba

set_option maxRecDepth 20000 in
set_option maxHeartbeats 800000 in
theorem kinds_ok_43 (ka na : Int) (sa : ByteArray) (kb nb : Int) (sb : ByteArray) (w : World) (ha : sa.size ≤ 9223372036854775807) (hb : sb.size ≤ 9223372036854775807) (hE : Env w) (ra : rightB ka na sa = true) (rb : rightB kb nb sb = true) (r : Int) (hA : Numbers 43 ka na sa kb nb sb r) (p1 : (ka == 2) = false) (p2 : (kb == 2) = false) (p3 : (ka == 0) = false) (p4 : (kb == 0) = false) :
    Calls Tryd.prog 7 #[.int .u8 43, .agg #[.int .i64 ka, .int .i64 na, .string sa], .agg #[.int .i64 kb, .int .i64 nb, .string sb]] w fun e w' => e = .returned (.bool true) ∧ Below w.heap.size w w' := by
  have HE := Lib.hid hE
  have RA : Hid (rightB ka na sa = true) := ra
  have RB : Hid (rightB kb nb sb = true) := rb
  have HA := Lib.hid hA
  clear ra rb hA
  clear hE
  go_enter Tryd.func7, Tryd.ntmps7
  go_wp2_with fail
  refine (lawRight_any ka na sa _ ha true RA.out).mono ?_
  rintro e w1 ⟨rfl, hb1⟩
  have b0 : Below w.heap.size w ((w.alloc (.cells #[.int .i64 ka, .int .i64 na, .string sa] 23)).alloc (.cells #[.int .i64 kb, .int .i64 nb, .string sb] 23)) := by go_grown
  have b1 := next b0 hb1 (by simp)
  have z1 := hb1.size
  simp only [World.size_alloc] at z1
  have a0 := box2 hb1 (by simp; omega) 0
  have d0 := box (w := w.alloc (.cells #[.int .i64 ka, .int .i64 na, .string sa] 23)) hb1 (by simp) 0
  have a1 := box2 hb1 (by simp; omega) 1
  have d1 := box (w := w.alloc (.cells #[.int .i64 ka, .int .i64 na, .string sa] 23)) hb1 (by simp) 1
  have a2 := box2 hb1 (by simp; omega) 2
  have d2 := box (w := w.alloc (.cells #[.int .i64 ka, .int .i64 na, .string sa] 23)) hb1 (by simp) 2
  simp only [List.getElem?_toArray, List.getElem?_cons_zero, List.getElem?_cons_succ, World.size_alloc] at a0 a1 a2 d0 d1 d2
  clear hb1
  go_wp2_with fail
  refine (lawRight_any kb nb sb _ hb true RB.out).mono ?_
  rintro e w2 ⟨rfl, hb2⟩
  have b2 := two b1 hb2
  have z2 := hb2.size
  replace a0 := (hb2.cell (by exact (by omega : w.heap.size < w1.heap.size))).trans a0
  replace a1 := (hb2.cell (by exact (by omega : w.heap.size < w1.heap.size))).trans a1
  replace a2 := (hb2.cell (by exact (by omega : w.heap.size < w1.heap.size))).trans a2
  replace d0 := (hb2.cell (by exact (by omega : w.heap.size + 1 < w1.heap.size))).trans d0
  replace d1 := (hb2.cell (by exact (by omega : w.heap.size + 1 < w1.heap.size))).trans d1
  replace d2 := (hb2.cell (by exact (by omega : w.heap.size + 1 < w1.heap.size))).trans d2
  clear hb2
  go_wp2_with fail
  refine (HA.out _).mono ?_
  rintro e w3 ⟨rfl, hb3⟩
  have b3 := two b2 hb3
  have z3 := b3.size
  have y3 : w.heap.size < w3.heap.size := by have := hb3.size; omega
  have y4 : w.heap.size + 1 < w3.heap.size := by have := hb3.size; omega
  replace a0 := (hb3.cell (by exact (by omega : w.heap.size < w2.heap.size))).trans a0
  replace d0 := (hb3.cell (by exact (by omega : w.heap.size + 1 < w2.heap.size))).trans d0
  clear hb3 a1 a2 d1 d2
  have b4 : Below w.heap.size w (w3.alloc (.cells #[.int .i64 1, .int .i64 r, .string ⟨#[]⟩] 23)) := b3.alloc z3 _
  go_wp2_with fail
  refine (awake_any _ (HE.out.below b4)).mono ?_
  rintro e w5 ⟨rfl, hb⟩
  go_wp2_with fail
  go_ret
  exact ⟨rfl, two b4 hb⟩

set_option maxRecDepth 20000 in
set_option maxHeartbeats 800000 in
theorem kinds_ok_45 (ka na : Int) (sa : ByteArray) (kb nb : Int) (sb : ByteArray) (w : World) (ha : sa.size ≤ 9223372036854775807) (hb : sb.size ≤ 9223372036854775807) (hE : Env w) (ra : rightB ka na sa = true) (rb : rightB kb nb sb = true) (r : Int) (hA : Numbers 45 ka na sa kb nb sb r) (p1 : (ka == 2) = false) (p2 : (kb == 2) = false) (p3 : (ka == 0) = false) (p4 : (kb == 0) = false) :
    Calls Tryd.prog 7 #[.int .u8 45, .agg #[.int .i64 ka, .int .i64 na, .string sa], .agg #[.int .i64 kb, .int .i64 nb, .string sb]] w fun e w' => e = .returned (.bool true) ∧ Below w.heap.size w w' := by
  have HE := Lib.hid hE
  have RA : Hid (rightB ka na sa = true) := ra
  have RB : Hid (rightB kb nb sb = true) := rb
  have HA := Lib.hid hA
  clear ra rb hA
  clear hE
  go_enter Tryd.func7, Tryd.ntmps7
  go_wp2_with fail
  refine (lawRight_any ka na sa _ ha true RA.out).mono ?_
  rintro e w1 ⟨rfl, hb1⟩
  have b0 : Below w.heap.size w ((w.alloc (.cells #[.int .i64 ka, .int .i64 na, .string sa] 23)).alloc (.cells #[.int .i64 kb, .int .i64 nb, .string sb] 23)) := by go_grown
  have b1 := next b0 hb1 (by simp)
  have z1 := hb1.size
  simp only [World.size_alloc] at z1
  have a0 := box2 hb1 (by simp; omega) 0
  have d0 := box (w := w.alloc (.cells #[.int .i64 ka, .int .i64 na, .string sa] 23)) hb1 (by simp) 0
  have a1 := box2 hb1 (by simp; omega) 1
  have d1 := box (w := w.alloc (.cells #[.int .i64 ka, .int .i64 na, .string sa] 23)) hb1 (by simp) 1
  have a2 := box2 hb1 (by simp; omega) 2
  have d2 := box (w := w.alloc (.cells #[.int .i64 ka, .int .i64 na, .string sa] 23)) hb1 (by simp) 2
  simp only [List.getElem?_toArray, List.getElem?_cons_zero, List.getElem?_cons_succ, World.size_alloc] at a0 a1 a2 d0 d1 d2
  clear hb1
  go_wp2_with fail
  refine (lawRight_any kb nb sb _ hb true RB.out).mono ?_
  rintro e w2 ⟨rfl, hb2⟩
  have b2 := two b1 hb2
  have z2 := hb2.size
  replace a0 := (hb2.cell (by exact (by omega : w.heap.size < w1.heap.size))).trans a0
  replace a1 := (hb2.cell (by exact (by omega : w.heap.size < w1.heap.size))).trans a1
  replace a2 := (hb2.cell (by exact (by omega : w.heap.size < w1.heap.size))).trans a2
  replace d0 := (hb2.cell (by exact (by omega : w.heap.size + 1 < w1.heap.size))).trans d0
  replace d1 := (hb2.cell (by exact (by omega : w.heap.size + 1 < w1.heap.size))).trans d1
  replace d2 := (hb2.cell (by exact (by omega : w.heap.size + 1 < w1.heap.size))).trans d2
  clear hb2
  go_wp2_with fail
  refine (HA.out _).mono ?_
  rintro e w3 ⟨rfl, hb3⟩
  have b3 := two b2 hb3
  have z3 := b3.size
  have y3 : w.heap.size < w3.heap.size := by have := hb3.size; omega
  have y4 : w.heap.size + 1 < w3.heap.size := by have := hb3.size; omega
  replace a0 := (hb3.cell (by exact (by omega : w.heap.size < w2.heap.size))).trans a0
  replace d0 := (hb3.cell (by exact (by omega : w.heap.size + 1 < w2.heap.size))).trans d0
  clear hb3 a1 a2 d1 d2
  have b4 : Below w.heap.size w (w3.alloc (.cells #[.int .i64 1, .int .i64 r, .string ⟨#[]⟩] 23)) := b3.alloc z3 _
  go_wp2_with fail
  refine (awake_any _ (HE.out.below b4)).mono ?_
  rintro e w5 ⟨rfl, hb⟩
  go_wp2_with fail
  go_ret
  exact ⟨rfl, two b4 hb⟩

set_option maxRecDepth 20000 in
set_option maxHeartbeats 800000 in
theorem kinds_ok_42 (ka na : Int) (sa : ByteArray) (kb nb : Int) (sb : ByteArray) (w : World) (ha : sa.size ≤ 9223372036854775807) (hb : sb.size ≤ 9223372036854775807) (hE : Env w) (ra : rightB ka na sa = true) (rb : rightB kb nb sb = true) (r : Int) (hA : Numbers 42 ka na sa kb nb sb r) (p1 : (ka == 2) = false) (p2 : (kb == 2) = false) (p3 : (ka == 0) = false) (p4 : (kb == 0) = false) :
    Calls Tryd.prog 7 #[.int .u8 42, .agg #[.int .i64 ka, .int .i64 na, .string sa], .agg #[.int .i64 kb, .int .i64 nb, .string sb]] w fun e w' => e = .returned (.bool true) ∧ Below w.heap.size w w' := by
  have HE := Lib.hid hE
  have RA : Hid (rightB ka na sa = true) := ra
  have RB : Hid (rightB kb nb sb = true) := rb
  have HA := Lib.hid hA
  clear ra rb hA
  clear hE
  go_enter Tryd.func7, Tryd.ntmps7
  go_wp2_with fail
  refine (lawRight_any ka na sa _ ha true RA.out).mono ?_
  rintro e w1 ⟨rfl, hb1⟩
  have b0 : Below w.heap.size w ((w.alloc (.cells #[.int .i64 ka, .int .i64 na, .string sa] 23)).alloc (.cells #[.int .i64 kb, .int .i64 nb, .string sb] 23)) := by go_grown
  have b1 := next b0 hb1 (by simp)
  have z1 := hb1.size
  simp only [World.size_alloc] at z1
  have a0 := box2 hb1 (by simp; omega) 0
  have d0 := box (w := w.alloc (.cells #[.int .i64 ka, .int .i64 na, .string sa] 23)) hb1 (by simp) 0
  have a1 := box2 hb1 (by simp; omega) 1
  have d1 := box (w := w.alloc (.cells #[.int .i64 ka, .int .i64 na, .string sa] 23)) hb1 (by simp) 1
  have a2 := box2 hb1 (by simp; omega) 2
  have d2 := box (w := w.alloc (.cells #[.int .i64 ka, .int .i64 na, .string sa] 23)) hb1 (by simp) 2
  simp only [List.getElem?_toArray, List.getElem?_cons_zero, List.getElem?_cons_succ, World.size_alloc] at a0 a1 a2 d0 d1 d2
  clear hb1
  go_wp2_with fail
  refine (lawRight_any kb nb sb _ hb true RB.out).mono ?_
  rintro e w2 ⟨rfl, hb2⟩
  have b2 := two b1 hb2
  have z2 := hb2.size
  replace a0 := (hb2.cell (by exact (by omega : w.heap.size < w1.heap.size))).trans a0
  replace a1 := (hb2.cell (by exact (by omega : w.heap.size < w1.heap.size))).trans a1
  replace a2 := (hb2.cell (by exact (by omega : w.heap.size < w1.heap.size))).trans a2
  replace d0 := (hb2.cell (by exact (by omega : w.heap.size + 1 < w1.heap.size))).trans d0
  replace d1 := (hb2.cell (by exact (by omega : w.heap.size + 1 < w1.heap.size))).trans d1
  replace d2 := (hb2.cell (by exact (by omega : w.heap.size + 1 < w1.heap.size))).trans d2
  clear hb2
  go_wp2_with fail
  refine (HA.out _).mono ?_
  rintro e w3 ⟨rfl, hb3⟩
  have b3 := two b2 hb3
  have z3 := b3.size
  have y3 : w.heap.size < w3.heap.size := by have := hb3.size; omega
  have y4 : w.heap.size + 1 < w3.heap.size := by have := hb3.size; omega
  replace a0 := (hb3.cell (by exact (by omega : w.heap.size < w2.heap.size))).trans a0
  replace d0 := (hb3.cell (by exact (by omega : w.heap.size + 1 < w2.heap.size))).trans d0
  clear hb3 a1 a2 d1 d2
  have b4 : Below w.heap.size w (w3.alloc (.cells #[.int .i64 1, .int .i64 r, .string ⟨#[]⟩] 23)) := b3.alloc z3 _
  go_wp2_with fail
  refine (awake_any _ (HE.out.below b4)).mono ?_
  rintro e w5 ⟨rfl, hb⟩
  go_wp2_with fail
  go_ret
  exact ⟨rfl, two b4 hb⟩

set_option maxRecDepth 20000 in
set_option maxHeartbeats 800000 in
theorem kinds_ok_47 (ka na : Int) (sa : ByteArray) (kb nb : Int) (sb : ByteArray) (w : World) (ha : sa.size ≤ 9223372036854775807) (hb : sb.size ≤ 9223372036854775807) (hE : Env w) (ra : rightB ka na sa = true) (rb : rightB kb nb sb = true) (r : Int) (hA : Numbers 47 ka na sa kb nb sb r) (p1 : (ka == 2) = false) (p2 : (kb == 2) = false) (p3 : (ka == 0) = false) (p4 : (kb == 0) = false) :
    Calls Tryd.prog 7 #[.int .u8 47, .agg #[.int .i64 ka, .int .i64 na, .string sa], .agg #[.int .i64 kb, .int .i64 nb, .string sb]] w fun e w' => e = .returned (.bool true) ∧ Below w.heap.size w w' := by
  have HE := Lib.hid hE
  have RA : Hid (rightB ka na sa = true) := ra
  have RB : Hid (rightB kb nb sb = true) := rb
  have HA := Lib.hid hA
  clear ra rb hA
  clear hE
  go_enter Tryd.func7, Tryd.ntmps7
  go_wp2_with fail
  refine (lawRight_any ka na sa _ ha true RA.out).mono ?_
  rintro e w1 ⟨rfl, hb1⟩
  have b0 : Below w.heap.size w ((w.alloc (.cells #[.int .i64 ka, .int .i64 na, .string sa] 23)).alloc (.cells #[.int .i64 kb, .int .i64 nb, .string sb] 23)) := by go_grown
  have b1 := next b0 hb1 (by simp)
  have z1 := hb1.size
  simp only [World.size_alloc] at z1
  have a0 := box2 hb1 (by simp; omega) 0
  have d0 := box (w := w.alloc (.cells #[.int .i64 ka, .int .i64 na, .string sa] 23)) hb1 (by simp) 0
  have a1 := box2 hb1 (by simp; omega) 1
  have d1 := box (w := w.alloc (.cells #[.int .i64 ka, .int .i64 na, .string sa] 23)) hb1 (by simp) 1
  have a2 := box2 hb1 (by simp; omega) 2
  have d2 := box (w := w.alloc (.cells #[.int .i64 ka, .int .i64 na, .string sa] 23)) hb1 (by simp) 2
  simp only [List.getElem?_toArray, List.getElem?_cons_zero, List.getElem?_cons_succ, World.size_alloc] at a0 a1 a2 d0 d1 d2
  clear hb1
  go_wp2_with fail
  refine (lawRight_any kb nb sb _ hb true RB.out).mono ?_
  rintro e w2 ⟨rfl, hb2⟩
  have b2 := two b1 hb2
  have z2 := hb2.size
  replace a0 := (hb2.cell (by exact (by omega : w.heap.size < w1.heap.size))).trans a0
  replace a1 := (hb2.cell (by exact (by omega : w.heap.size < w1.heap.size))).trans a1
  replace a2 := (hb2.cell (by exact (by omega : w.heap.size < w1.heap.size))).trans a2
  replace d0 := (hb2.cell (by exact (by omega : w.heap.size + 1 < w1.heap.size))).trans d0
  replace d1 := (hb2.cell (by exact (by omega : w.heap.size + 1 < w1.heap.size))).trans d1
  replace d2 := (hb2.cell (by exact (by omega : w.heap.size + 1 < w1.heap.size))).trans d2
  clear hb2
  go_wp2_with fail
  refine (HA.out _).mono ?_
  rintro e w3 ⟨rfl, hb3⟩
  have b3 := two b2 hb3
  have z3 := b3.size
  have y3 : w.heap.size < w3.heap.size := by have := hb3.size; omega
  have y4 : w.heap.size + 1 < w3.heap.size := by have := hb3.size; omega
  replace a0 := (hb3.cell (by exact (by omega : w.heap.size < w2.heap.size))).trans a0
  replace d0 := (hb3.cell (by exact (by omega : w.heap.size + 1 < w2.heap.size))).trans d0
  clear hb3 a1 a2 d1 d2
  have b4 : Below w.heap.size w (w3.alloc (.cells #[.int .i64 1, .int .i64 r, .string ⟨#[]⟩] 23)) := b3.alloc z3 _
  go_wp2_with fail
  refine (awake_any _ (HE.out.below b4)).mono ?_
  rintro e w5 ⟨rfl, hb⟩
  go_wp2_with fail
  go_ret
  exact ⟨rfl, two b4 hb⟩

set_option maxRecDepth 20000 in
set_option maxHeartbeats 800000 in
theorem kinds_ok_37 (ka na : Int) (sa : ByteArray) (kb nb : Int) (sb : ByteArray) (w : World) (ha : sa.size ≤ 9223372036854775807) (hb : sb.size ≤ 9223372036854775807) (hE : Env w) (ra : rightB ka na sa = true) (rb : rightB kb nb sb = true) (r : Int) (hA : Numbers 37 ka na sa kb nb sb r) (p1 : (ka == 2) = false) (p2 : (kb == 2) = false) (p3 : (ka == 0) = false) (p4 : (kb == 0) = false) :
    Calls Tryd.prog 7 #[.int .u8 37, .agg #[.int .i64 ka, .int .i64 na, .string sa], .agg #[.int .i64 kb, .int .i64 nb, .string sb]] w fun e w' => e = .returned (.bool true) ∧ Below w.heap.size w w' := by
  have HE := Lib.hid hE
  have RA : Hid (rightB ka na sa = true) := ra
  have RB : Hid (rightB kb nb sb = true) := rb
  have HA := Lib.hid hA
  clear ra rb hA
  clear hE
  go_enter Tryd.func7, Tryd.ntmps7
  go_wp2_with fail
  refine (lawRight_any ka na sa _ ha true RA.out).mono ?_
  rintro e w1 ⟨rfl, hb1⟩
  have b0 : Below w.heap.size w ((w.alloc (.cells #[.int .i64 ka, .int .i64 na, .string sa] 23)).alloc (.cells #[.int .i64 kb, .int .i64 nb, .string sb] 23)) := by go_grown
  have b1 := next b0 hb1 (by simp)
  have z1 := hb1.size
  simp only [World.size_alloc] at z1
  have a0 := box2 hb1 (by simp; omega) 0
  have d0 := box (w := w.alloc (.cells #[.int .i64 ka, .int .i64 na, .string sa] 23)) hb1 (by simp) 0
  have a1 := box2 hb1 (by simp; omega) 1
  have d1 := box (w := w.alloc (.cells #[.int .i64 ka, .int .i64 na, .string sa] 23)) hb1 (by simp) 1
  have a2 := box2 hb1 (by simp; omega) 2
  have d2 := box (w := w.alloc (.cells #[.int .i64 ka, .int .i64 na, .string sa] 23)) hb1 (by simp) 2
  simp only [List.getElem?_toArray, List.getElem?_cons_zero, List.getElem?_cons_succ, World.size_alloc] at a0 a1 a2 d0 d1 d2
  clear hb1
  go_wp2_with fail
  refine (lawRight_any kb nb sb _ hb true RB.out).mono ?_
  rintro e w2 ⟨rfl, hb2⟩
  have b2 := two b1 hb2
  have z2 := hb2.size
  replace a0 := (hb2.cell (by exact (by omega : w.heap.size < w1.heap.size))).trans a0
  replace a1 := (hb2.cell (by exact (by omega : w.heap.size < w1.heap.size))).trans a1
  replace a2 := (hb2.cell (by exact (by omega : w.heap.size < w1.heap.size))).trans a2
  replace d0 := (hb2.cell (by exact (by omega : w.heap.size + 1 < w1.heap.size))).trans d0
  replace d1 := (hb2.cell (by exact (by omega : w.heap.size + 1 < w1.heap.size))).trans d1
  replace d2 := (hb2.cell (by exact (by omega : w.heap.size + 1 < w1.heap.size))).trans d2
  clear hb2
  go_wp2_with fail
  refine (HA.out _).mono ?_
  rintro e w3 ⟨rfl, hb3⟩
  have b3 := two b2 hb3
  have z3 := b3.size
  have y3 : w.heap.size < w3.heap.size := by have := hb3.size; omega
  have y4 : w.heap.size + 1 < w3.heap.size := by have := hb3.size; omega
  replace a0 := (hb3.cell (by exact (by omega : w.heap.size < w2.heap.size))).trans a0
  replace d0 := (hb3.cell (by exact (by omega : w.heap.size + 1 < w2.heap.size))).trans d0
  clear hb3 a1 a2 d1 d2
  have b4 : Below w.heap.size w (w3.alloc (.cells #[.int .i64 1, .int .i64 r, .string ⟨#[]⟩] 23)) := b3.alloc z3 _
  go_wp2_with fail
  refine (awake_any _ (HE.out.below b4)).mono ?_
  rintro e w5 ⟨rfl, hb⟩
  go_wp2_with fail
  go_ret
  exact ⟨rfl, two b4 hb⟩

set_option maxRecDepth 20000 in
set_option maxHeartbeats 800000 in
theorem kinds_no_43 (ka na : Int) (sa : ByteArray) (kb nb : Int) (sb : ByteArray) (w : World) (ha : sa.size ≤ 9223372036854775807) (hb : sb.size ≤ 9223372036854775807) (hE : Env w) (ra : rightB ka na sa = true) (rb : rightB kb nb sb = true) (er : Int) (hA : Refused 43 ka na sa kb nb sb er) (p5 : (er == 0) = false) (p6 : (er != 0) = true) (p1 : (ka == 2) = false) (p2 : (kb == 2) = false) (p3 : (ka == 0) = false) (p4 : (kb == 0) = false) :
    Calls Tryd.prog 7 #[.int .u8 43, .agg #[.int .i64 ka, .int .i64 na, .string sa], .agg #[.int .i64 kb, .int .i64 nb, .string sb]] w fun e w' => e = .returned (.bool true) ∧ Below w.heap.size w w' := by
  have HE := Lib.hid hE
  have RA : Hid (rightB ka na sa = true) := ra
  have RB : Hid (rightB kb nb sb = true) := rb
  have HA := Lib.hid hA
  clear ra rb hA
  clear hE
  go_enter Tryd.func7, Tryd.ntmps7
  go_wp2_with fail
  refine (lawRight_any ka na sa _ ha true RA.out).mono ?_
  rintro e w1 ⟨rfl, hb1⟩
  have b0 : Below w.heap.size w ((w.alloc (.cells #[.int .i64 ka, .int .i64 na, .string sa] 23)).alloc (.cells #[.int .i64 kb, .int .i64 nb, .string sb] 23)) := by go_grown
  have b1 := next b0 hb1 (by simp)
  have z1 := hb1.size
  simp only [World.size_alloc] at z1
  have a0 := box2 hb1 (by simp; omega) 0
  have d0 := box (w := w.alloc (.cells #[.int .i64 ka, .int .i64 na, .string sa] 23)) hb1 (by simp) 0
  have a1 := box2 hb1 (by simp; omega) 1
  have d1 := box (w := w.alloc (.cells #[.int .i64 ka, .int .i64 na, .string sa] 23)) hb1 (by simp) 1
  have a2 := box2 hb1 (by simp; omega) 2
  have d2 := box (w := w.alloc (.cells #[.int .i64 ka, .int .i64 na, .string sa] 23)) hb1 (by simp) 2
  simp only [List.getElem?_toArray, List.getElem?_cons_zero, List.getElem?_cons_succ, World.size_alloc] at a0 a1 a2 d0 d1 d2
  clear hb1
  go_wp2_with fail
  refine (lawRight_any kb nb sb _ hb true RB.out).mono ?_
  rintro e w2 ⟨rfl, hb2⟩
  have b2 := two b1 hb2
  have z2 := hb2.size
  replace a0 := (hb2.cell (by exact (by omega : w.heap.size < w1.heap.size))).trans a0
  replace a1 := (hb2.cell (by exact (by omega : w.heap.size < w1.heap.size))).trans a1
  replace a2 := (hb2.cell (by exact (by omega : w.heap.size < w1.heap.size))).trans a2
  replace d0 := (hb2.cell (by exact (by omega : w.heap.size + 1 < w1.heap.size))).trans d0
  replace d1 := (hb2.cell (by exact (by omega : w.heap.size + 1 < w1.heap.size))).trans d1
  replace d2 := (hb2.cell (by exact (by omega : w.heap.size + 1 < w1.heap.size))).trans d2
  clear hb2
  go_wp2_with fail
  refine (HA.out _).mono ?_
  rintro e w3 ⟨rfl, hb3⟩
  have b3 := two b2 hb3
  have z3 := b3.size
  have y3 : w.heap.size < w3.heap.size := by have := hb3.size; omega
  have y4 : w.heap.size + 1 < w3.heap.size := by have := hb3.size; omega
  replace a0 := (hb3.cell (by exact (by omega : w.heap.size < w2.heap.size))).trans a0
  replace d0 := (hb3.cell (by exact (by omega : w.heap.size + 1 < w2.heap.size))).trans d0
  clear hb3 a1 a2 d1 d2
  have b4 : Below w.heap.size w (w3.alloc (.cells #[.int .i64 0, .int .i64 0, .string ⟨#[]⟩] 23)) := b3.alloc z3 _
  go_wp2_with fail
  refine (awake_any _ (HE.out.below b4)).mono ?_
  rintro e w5 ⟨rfl, hb⟩
  go_wp2_with fail
  go_ret
  exact ⟨rfl, two b4 hb⟩

set_option maxRecDepth 20000 in
set_option maxHeartbeats 800000 in
theorem kinds_no_45 (ka na : Int) (sa : ByteArray) (kb nb : Int) (sb : ByteArray) (w : World) (ha : sa.size ≤ 9223372036854775807) (hb : sb.size ≤ 9223372036854775807) (hE : Env w) (ra : rightB ka na sa = true) (rb : rightB kb nb sb = true) (er : Int) (hA : Refused 45 ka na sa kb nb sb er) (p5 : (er == 0) = false) (p6 : (er != 0) = true) (p1 : (ka == 2) = false) (p2 : (kb == 2) = false) (p3 : (ka == 0) = false) (p4 : (kb == 0) = false) :
    Calls Tryd.prog 7 #[.int .u8 45, .agg #[.int .i64 ka, .int .i64 na, .string sa], .agg #[.int .i64 kb, .int .i64 nb, .string sb]] w fun e w' => e = .returned (.bool true) ∧ Below w.heap.size w w' := by
  have HE := Lib.hid hE
  have RA : Hid (rightB ka na sa = true) := ra
  have RB : Hid (rightB kb nb sb = true) := rb
  have HA := Lib.hid hA
  clear ra rb hA
  clear hE
  go_enter Tryd.func7, Tryd.ntmps7
  go_wp2_with fail
  refine (lawRight_any ka na sa _ ha true RA.out).mono ?_
  rintro e w1 ⟨rfl, hb1⟩
  have b0 : Below w.heap.size w ((w.alloc (.cells #[.int .i64 ka, .int .i64 na, .string sa] 23)).alloc (.cells #[.int .i64 kb, .int .i64 nb, .string sb] 23)) := by go_grown
  have b1 := next b0 hb1 (by simp)
  have z1 := hb1.size
  simp only [World.size_alloc] at z1
  have a0 := box2 hb1 (by simp; omega) 0
  have d0 := box (w := w.alloc (.cells #[.int .i64 ka, .int .i64 na, .string sa] 23)) hb1 (by simp) 0
  have a1 := box2 hb1 (by simp; omega) 1
  have d1 := box (w := w.alloc (.cells #[.int .i64 ka, .int .i64 na, .string sa] 23)) hb1 (by simp) 1
  have a2 := box2 hb1 (by simp; omega) 2
  have d2 := box (w := w.alloc (.cells #[.int .i64 ka, .int .i64 na, .string sa] 23)) hb1 (by simp) 2
  simp only [List.getElem?_toArray, List.getElem?_cons_zero, List.getElem?_cons_succ, World.size_alloc] at a0 a1 a2 d0 d1 d2
  clear hb1
  go_wp2_with fail
  refine (lawRight_any kb nb sb _ hb true RB.out).mono ?_
  rintro e w2 ⟨rfl, hb2⟩
  have b2 := two b1 hb2
  have z2 := hb2.size
  replace a0 := (hb2.cell (by exact (by omega : w.heap.size < w1.heap.size))).trans a0
  replace a1 := (hb2.cell (by exact (by omega : w.heap.size < w1.heap.size))).trans a1
  replace a2 := (hb2.cell (by exact (by omega : w.heap.size < w1.heap.size))).trans a2
  replace d0 := (hb2.cell (by exact (by omega : w.heap.size + 1 < w1.heap.size))).trans d0
  replace d1 := (hb2.cell (by exact (by omega : w.heap.size + 1 < w1.heap.size))).trans d1
  replace d2 := (hb2.cell (by exact (by omega : w.heap.size + 1 < w1.heap.size))).trans d2
  clear hb2
  go_wp2_with fail
  refine (HA.out _).mono ?_
  rintro e w3 ⟨rfl, hb3⟩
  have b3 := two b2 hb3
  have z3 := b3.size
  have y3 : w.heap.size < w3.heap.size := by have := hb3.size; omega
  have y4 : w.heap.size + 1 < w3.heap.size := by have := hb3.size; omega
  replace a0 := (hb3.cell (by exact (by omega : w.heap.size < w2.heap.size))).trans a0
  replace d0 := (hb3.cell (by exact (by omega : w.heap.size + 1 < w2.heap.size))).trans d0
  clear hb3 a1 a2 d1 d2
  have b4 : Below w.heap.size w (w3.alloc (.cells #[.int .i64 0, .int .i64 0, .string ⟨#[]⟩] 23)) := b3.alloc z3 _
  go_wp2_with fail
  refine (awake_any _ (HE.out.below b4)).mono ?_
  rintro e w5 ⟨rfl, hb⟩
  go_wp2_with fail
  go_ret
  exact ⟨rfl, two b4 hb⟩

set_option maxRecDepth 20000 in
set_option maxHeartbeats 800000 in
theorem kinds_no_42 (ka na : Int) (sa : ByteArray) (kb nb : Int) (sb : ByteArray) (w : World) (ha : sa.size ≤ 9223372036854775807) (hb : sb.size ≤ 9223372036854775807) (hE : Env w) (ra : rightB ka na sa = true) (rb : rightB kb nb sb = true) (er : Int) (hA : Refused 42 ka na sa kb nb sb er) (p5 : (er == 0) = false) (p6 : (er != 0) = true) (p1 : (ka == 2) = false) (p2 : (kb == 2) = false) (p3 : (ka == 0) = false) (p4 : (kb == 0) = false) :
    Calls Tryd.prog 7 #[.int .u8 42, .agg #[.int .i64 ka, .int .i64 na, .string sa], .agg #[.int .i64 kb, .int .i64 nb, .string sb]] w fun e w' => e = .returned (.bool true) ∧ Below w.heap.size w w' := by
  have HE := Lib.hid hE
  have RA : Hid (rightB ka na sa = true) := ra
  have RB : Hid (rightB kb nb sb = true) := rb
  have HA := Lib.hid hA
  clear ra rb hA
  clear hE
  go_enter Tryd.func7, Tryd.ntmps7
  go_wp2_with fail
  refine (lawRight_any ka na sa _ ha true RA.out).mono ?_
  rintro e w1 ⟨rfl, hb1⟩
  have b0 : Below w.heap.size w ((w.alloc (.cells #[.int .i64 ka, .int .i64 na, .string sa] 23)).alloc (.cells #[.int .i64 kb, .int .i64 nb, .string sb] 23)) := by go_grown
  have b1 := next b0 hb1 (by simp)
  have z1 := hb1.size
  simp only [World.size_alloc] at z1
  have a0 := box2 hb1 (by simp; omega) 0
  have d0 := box (w := w.alloc (.cells #[.int .i64 ka, .int .i64 na, .string sa] 23)) hb1 (by simp) 0
  have a1 := box2 hb1 (by simp; omega) 1
  have d1 := box (w := w.alloc (.cells #[.int .i64 ka, .int .i64 na, .string sa] 23)) hb1 (by simp) 1
  have a2 := box2 hb1 (by simp; omega) 2
  have d2 := box (w := w.alloc (.cells #[.int .i64 ka, .int .i64 na, .string sa] 23)) hb1 (by simp) 2
  simp only [List.getElem?_toArray, List.getElem?_cons_zero, List.getElem?_cons_succ, World.size_alloc] at a0 a1 a2 d0 d1 d2
  clear hb1
  go_wp2_with fail
  refine (lawRight_any kb nb sb _ hb true RB.out).mono ?_
  rintro e w2 ⟨rfl, hb2⟩
  have b2 := two b1 hb2
  have z2 := hb2.size
  replace a0 := (hb2.cell (by exact (by omega : w.heap.size < w1.heap.size))).trans a0
  replace a1 := (hb2.cell (by exact (by omega : w.heap.size < w1.heap.size))).trans a1
  replace a2 := (hb2.cell (by exact (by omega : w.heap.size < w1.heap.size))).trans a2
  replace d0 := (hb2.cell (by exact (by omega : w.heap.size + 1 < w1.heap.size))).trans d0
  replace d1 := (hb2.cell (by exact (by omega : w.heap.size + 1 < w1.heap.size))).trans d1
  replace d2 := (hb2.cell (by exact (by omega : w.heap.size + 1 < w1.heap.size))).trans d2
  clear hb2
  go_wp2_with fail
  refine (HA.out _).mono ?_
  rintro e w3 ⟨rfl, hb3⟩
  have b3 := two b2 hb3
  have z3 := b3.size
  have y3 : w.heap.size < w3.heap.size := by have := hb3.size; omega
  have y4 : w.heap.size + 1 < w3.heap.size := by have := hb3.size; omega
  replace a0 := (hb3.cell (by exact (by omega : w.heap.size < w2.heap.size))).trans a0
  replace d0 := (hb3.cell (by exact (by omega : w.heap.size + 1 < w2.heap.size))).trans d0
  clear hb3 a1 a2 d1 d2
  have b4 : Below w.heap.size w (w3.alloc (.cells #[.int .i64 0, .int .i64 0, .string ⟨#[]⟩] 23)) := b3.alloc z3 _
  go_wp2_with fail
  refine (awake_any _ (HE.out.below b4)).mono ?_
  rintro e w5 ⟨rfl, hb⟩
  go_wp2_with fail
  go_ret
  exact ⟨rfl, two b4 hb⟩

set_option maxRecDepth 20000 in
set_option maxHeartbeats 800000 in
theorem kinds_no_47 (ka na : Int) (sa : ByteArray) (kb nb : Int) (sb : ByteArray) (w : World) (ha : sa.size ≤ 9223372036854775807) (hb : sb.size ≤ 9223372036854775807) (hE : Env w) (ra : rightB ka na sa = true) (rb : rightB kb nb sb = true) (er : Int) (hA : Refused 47 ka na sa kb nb sb er) (p5 : (er == 0) = false) (p6 : (er != 0) = true) (p1 : (ka == 2) = false) (p2 : (kb == 2) = false) (p3 : (ka == 0) = false) (p4 : (kb == 0) = false) :
    Calls Tryd.prog 7 #[.int .u8 47, .agg #[.int .i64 ka, .int .i64 na, .string sa], .agg #[.int .i64 kb, .int .i64 nb, .string sb]] w fun e w' => e = .returned (.bool true) ∧ Below w.heap.size w w' := by
  have HE := Lib.hid hE
  have RA : Hid (rightB ka na sa = true) := ra
  have RB : Hid (rightB kb nb sb = true) := rb
  have HA := Lib.hid hA
  clear ra rb hA
  clear hE
  go_enter Tryd.func7, Tryd.ntmps7
  go_wp2_with fail
  refine (lawRight_any ka na sa _ ha true RA.out).mono ?_
  rintro e w1 ⟨rfl, hb1⟩
  have b0 : Below w.heap.size w ((w.alloc (.cells #[.int .i64 ka, .int .i64 na, .string sa] 23)).alloc (.cells #[.int .i64 kb, .int .i64 nb, .string sb] 23)) := by go_grown
  have b1 := next b0 hb1 (by simp)
  have z1 := hb1.size
  simp only [World.size_alloc] at z1
  have a0 := box2 hb1 (by simp; omega) 0
  have d0 := box (w := w.alloc (.cells #[.int .i64 ka, .int .i64 na, .string sa] 23)) hb1 (by simp) 0
  have a1 := box2 hb1 (by simp; omega) 1
  have d1 := box (w := w.alloc (.cells #[.int .i64 ka, .int .i64 na, .string sa] 23)) hb1 (by simp) 1
  have a2 := box2 hb1 (by simp; omega) 2
  have d2 := box (w := w.alloc (.cells #[.int .i64 ka, .int .i64 na, .string sa] 23)) hb1 (by simp) 2
  simp only [List.getElem?_toArray, List.getElem?_cons_zero, List.getElem?_cons_succ, World.size_alloc] at a0 a1 a2 d0 d1 d2
  clear hb1
  go_wp2_with fail
  refine (lawRight_any kb nb sb _ hb true RB.out).mono ?_
  rintro e w2 ⟨rfl, hb2⟩
  have b2 := two b1 hb2
  have z2 := hb2.size
  replace a0 := (hb2.cell (by exact (by omega : w.heap.size < w1.heap.size))).trans a0
  replace a1 := (hb2.cell (by exact (by omega : w.heap.size < w1.heap.size))).trans a1
  replace a2 := (hb2.cell (by exact (by omega : w.heap.size < w1.heap.size))).trans a2
  replace d0 := (hb2.cell (by exact (by omega : w.heap.size + 1 < w1.heap.size))).trans d0
  replace d1 := (hb2.cell (by exact (by omega : w.heap.size + 1 < w1.heap.size))).trans d1
  replace d2 := (hb2.cell (by exact (by omega : w.heap.size + 1 < w1.heap.size))).trans d2
  clear hb2
  go_wp2_with fail
  refine (HA.out _).mono ?_
  rintro e w3 ⟨rfl, hb3⟩
  have b3 := two b2 hb3
  have z3 := b3.size
  have y3 : w.heap.size < w3.heap.size := by have := hb3.size; omega
  have y4 : w.heap.size + 1 < w3.heap.size := by have := hb3.size; omega
  replace a0 := (hb3.cell (by exact (by omega : w.heap.size < w2.heap.size))).trans a0
  replace d0 := (hb3.cell (by exact (by omega : w.heap.size + 1 < w2.heap.size))).trans d0
  clear hb3 a1 a2 d1 d2
  have b4 : Below w.heap.size w (w3.alloc (.cells #[.int .i64 0, .int .i64 0, .string ⟨#[]⟩] 23)) := b3.alloc z3 _
  go_wp2_with fail
  refine (awake_any _ (HE.out.below b4)).mono ?_
  rintro e w5 ⟨rfl, hb⟩
  go_wp2_with fail
  go_ret
  exact ⟨rfl, two b4 hb⟩

set_option maxRecDepth 20000 in
set_option maxHeartbeats 800000 in
theorem kinds_no_37 (ka na : Int) (sa : ByteArray) (kb nb : Int) (sb : ByteArray) (w : World) (ha : sa.size ≤ 9223372036854775807) (hb : sb.size ≤ 9223372036854775807) (hE : Env w) (ra : rightB ka na sa = true) (rb : rightB kb nb sb = true) (er : Int) (hA : Refused 37 ka na sa kb nb sb er) (p5 : (er == 0) = false) (p6 : (er != 0) = true) (p1 : (ka == 2) = false) (p2 : (kb == 2) = false) (p3 : (ka == 0) = false) (p4 : (kb == 0) = false) :
    Calls Tryd.prog 7 #[.int .u8 37, .agg #[.int .i64 ka, .int .i64 na, .string sa], .agg #[.int .i64 kb, .int .i64 nb, .string sb]] w fun e w' => e = .returned (.bool true) ∧ Below w.heap.size w w' := by
  have HE := Lib.hid hE
  have RA : Hid (rightB ka na sa = true) := ra
  have RB : Hid (rightB kb nb sb = true) := rb
  have HA := Lib.hid hA
  clear ra rb hA
  clear hE
  go_enter Tryd.func7, Tryd.ntmps7
  go_wp2_with fail
  refine (lawRight_any ka na sa _ ha true RA.out).mono ?_
  rintro e w1 ⟨rfl, hb1⟩
  have b0 : Below w.heap.size w ((w.alloc (.cells #[.int .i64 ka, .int .i64 na, .string sa] 23)).alloc (.cells #[.int .i64 kb, .int .i64 nb, .string sb] 23)) := by go_grown
  have b1 := next b0 hb1 (by simp)
  have z1 := hb1.size
  simp only [World.size_alloc] at z1
  have a0 := box2 hb1 (by simp; omega) 0
  have d0 := box (w := w.alloc (.cells #[.int .i64 ka, .int .i64 na, .string sa] 23)) hb1 (by simp) 0
  have a1 := box2 hb1 (by simp; omega) 1
  have d1 := box (w := w.alloc (.cells #[.int .i64 ka, .int .i64 na, .string sa] 23)) hb1 (by simp) 1
  have a2 := box2 hb1 (by simp; omega) 2
  have d2 := box (w := w.alloc (.cells #[.int .i64 ka, .int .i64 na, .string sa] 23)) hb1 (by simp) 2
  simp only [List.getElem?_toArray, List.getElem?_cons_zero, List.getElem?_cons_succ, World.size_alloc] at a0 a1 a2 d0 d1 d2
  clear hb1
  go_wp2_with fail
  refine (lawRight_any kb nb sb _ hb true RB.out).mono ?_
  rintro e w2 ⟨rfl, hb2⟩
  have b2 := two b1 hb2
  have z2 := hb2.size
  replace a0 := (hb2.cell (by exact (by omega : w.heap.size < w1.heap.size))).trans a0
  replace a1 := (hb2.cell (by exact (by omega : w.heap.size < w1.heap.size))).trans a1
  replace a2 := (hb2.cell (by exact (by omega : w.heap.size < w1.heap.size))).trans a2
  replace d0 := (hb2.cell (by exact (by omega : w.heap.size + 1 < w1.heap.size))).trans d0
  replace d1 := (hb2.cell (by exact (by omega : w.heap.size + 1 < w1.heap.size))).trans d1
  replace d2 := (hb2.cell (by exact (by omega : w.heap.size + 1 < w1.heap.size))).trans d2
  clear hb2
  go_wp2_with fail
  refine (HA.out _).mono ?_
  rintro e w3 ⟨rfl, hb3⟩
  have b3 := two b2 hb3
  have z3 := b3.size
  have y3 : w.heap.size < w3.heap.size := by have := hb3.size; omega
  have y4 : w.heap.size + 1 < w3.heap.size := by have := hb3.size; omega
  replace a0 := (hb3.cell (by exact (by omega : w.heap.size < w2.heap.size))).trans a0
  replace d0 := (hb3.cell (by exact (by omega : w.heap.size + 1 < w2.heap.size))).trans d0
  clear hb3 a1 a2 d1 d2
  have b4 : Below w.heap.size w (w3.alloc (.cells #[.int .i64 0, .int .i64 0, .string ⟨#[]⟩] 23)) := b3.alloc z3 _
  go_wp2_with fail
  refine (awake_any _ (HE.out.below b4)).mono ?_
  rintro e w5 ⟨rfl, hb⟩
  go_wp2_with fail
  go_ret
  exact ⟨rfl, two b4 hb⟩

end Go.Proofs.YtedpgeilamhipaaDoor.Va
