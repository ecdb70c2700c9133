/- Walks: values reckoned. -/
import Derived.Test.YtedpgeilamhipaaDoorValWalk4
set_option linter.unusedVariables false
set_option linter.unusedSimpArgs false
namespace Go.Proofs.YtedpgeilamhipaaDoor.Va
open Go.RowKit Go Ba

/-- What a value and an error come to: nothing, and the error. -/
def Refused (op : Int) (ka na : Int) (sa : ByteArray) (kb nb : Int) (sb : ByteArray) (er : Int) : Prop := ∀ w : World, Calls Tryd.prog 17 #[.int .u8 op, .agg #[.int .i64 ka, .int .i64 na, .string sa], .agg #[.int .i64 kb, .int .i64 nb, .string sb]] w fun e w' => e = .returned (.tuple #[.agg #[.int .i64 0, .int .i64 0, .string ⟨#[]⟩], .int .i64 er]) ∧ Below w.heap.size w w'
/-- Is it one of the signs? -/
def IsOp (op : Int) : Prop := op = 43 ∨ op = 45 ∨ op = 42 ∨ op = 47 ∨ op = 37
theorem index_op (op : Int) (h0 : 0 ≤ op) (h1 : op ≤ 255) : Lib.indexByte [43, 45, 42, 47, 37] op.toNat.toUInt8 < 0 ↔ ¬ IsOp op := by
  obtain ⟨n, rfl⟩ : ∃ n : Nat, op = n := ⟨op.toNat, by omega⟩
  have hn : n < 256 := by omega
  simp only [Int.toNat_natCast]
  have e : ∀ m : Nat, m < 256 → (Lib.indexByte [43, 45, 42, 47, 37] m.toUInt8 < 0 ↔ ¬ (m = 43 ∨ m = 45 ∨ m = 42 ∨ m = 47 ∨ m = 37)) := by decide +kernel
  rw [e n hn]
  unfold IsOp
  omega
theorem idx_is (op i : Int) (w : World) (hi : Lib.indexByte [43, 45, 42, 47, 37] op.toNat.toUInt8 = i) :
    Calls Tryd.prog 32 #[.string ⟨#[43, 45, 42, 47, 37]⟩, .int .u8 op] w fun e w' => e = .returned (.int .i64 i) ∧ w = w' := by
  rw [← hi]
  exact (Tryd.strings_IndexByte ⟨#[43, 45, 42, 47, 37]⟩ op w).mono fun e w' h => ⟨h.1, h.2.symm⟩

theorem arith_form (op ka na : Int) (sa : ByteArray) (kb nb : Int) (sb : ByteArray) (h0 : 0 ≤ op) (h1 : op ≤ 255) (h : ¬ IsOp op) : Refused op ka na sa kb nb sb 20 := by
  intro w
  obtain ⟨i, hi⟩ : ∃ i, Lib.indexByte [43, 45, 42, 47, 37] op.toNat.toUInt8 = i := ⟨_, rfl⟩
  have hlt : i < 0 := by rw [← hi]; exact (index_op op h0 h1).2 h
  have HI := Lib.hid hi
  clear hi h
  go_enter Tryd.func17, Tryd.ntmps17
  go_wp2_with fail
  refine (idx_is op i _ HI.out).mono ?_
  rintro e w' ⟨rfl, rfl⟩
  go_wp2_with fail
  go_returns
  exact ⟨rfl, by go_grown⟩
theorem arith_type (op ka na : Int) (sa : ByteArray) (kb nb : Int) (sb : ByteArray) (h0 : 0 ≤ op) (h1 : op ≤ 255) (h : IsOp op) (hk : ka = 2 ∨ kb = 2) : Refused op ka na sa kb nb sb 12 := by
  intro w
  obtain ⟨i, hi⟩ : ∃ i, Lib.indexByte [43, 45, 42, 47, 37] op.toNat.toUInt8 = i := ⟨_, rfl⟩
  have hlt : ¬ i < 0 := by rw [← hi]; exact fun hx => (index_op op h0 h1).1 hx h
  have HI := Lib.hid hi
  clear hi h
  by_cases hka : ka = 2
  · subst hka
    clear hk
    go_enter Tryd.func17, Tryd.ntmps17
    go_wp2_with fail
    refine (idx_is op i _ HI.out).mono ?_
    rintro e w' ⟨rfl, rfl⟩
    go_wp2_with fail
    go_returns
    exact ⟨rfl, by go_grown⟩
  · obtain rfl : kb = 2 := by omega
    have d1 : (ka == 2) = false := by simpa using hka
    clear hk hka
    go_enter Tryd.func17, Tryd.ntmps17
    go_wp2_with fail
    refine (idx_is op i _ HI.out).mono ?_
    rintro e w' ⟨rfl, rfl⟩
    go_wp2_with fail
    go_returns
    exact ⟨rfl, by go_grown⟩
theorem arith_null (op ka na : Int) (sa : ByteArray) (kb nb : Int) (sb : ByteArray) (h0 : 0 ≤ op) (h1 : op ≤ 255) (h : IsOp op) (ha2 : ka ≠ 2) (hb2 : kb ≠ 2) (hk : ka = 0 ∨ kb = 0) : Refused op ka na sa kb nb sb 0 := by
  intro w
  obtain ⟨i, hi⟩ : ∃ i, Lib.indexByte [43, 45, 42, 47, 37] op.toNat.toUInt8 = i := ⟨_, rfl⟩
  have hlt : ¬ i < 0 := by rw [← hi]; exact fun hx => (index_op op h0 h1).1 hx h
  have HI := Lib.hid hi
  have d1 : (ka == 2) = false := by simpa using ha2
  have d2 : (kb == 2) = false := by simpa using hb2
  clear hi h
  by_cases hka : ka = 0
  · subst hka
    clear hk ha2 hb2
    go_enter Tryd.func17, Tryd.ntmps17
    go_wp2_with fail
    refine (idx_is op i _ HI.out).mono ?_
    rintro e w' ⟨rfl, rfl⟩
    go_wp2
    go_returns
    exact ⟨rfl, by go_grown⟩
  · obtain rfl : kb = 0 := by omega
    have d3 : (ka == 0) = false := by simpa using hka
    clear hk hka ha2 hb2
    go_enter Tryd.func17, Tryd.ntmps17
    go_wp2_with fail
    refine (idx_is op i _ HI.out).mono ?_
    rintro e w' ⟨rfl, rfl⟩
    go_wp2
    go_returns
    exact ⟨rfl, by go_grown⟩

/-- A number by nothing. -/
theorem arith_div (op ka na : Int) (sa : ByteArray) (kb : Int) (sb : ByteArray) (h : op = 47 ∨ op = 37) (ha2 : ka ≠ 2) (hb2 : kb ≠ 2) (ha0 : ka ≠ 0) (hb0 : kb ≠ 0) : Refused op ka na sa kb 0 sb 11 := by
  intro w
  have d1 : (ka == 2) = false := by simpa using ha2
  have d2 : (kb == 2) = false := by simpa using hb2
  have d3 : (ka == 0) = false := by simpa using ha0
  have d4 : (kb == 0) = false := by simpa using hb0
  clear ha2 hb2 ha0 hb0
  rcases h with rfl | rfl
  · go_enter Tryd.func17, Tryd.ntmps17
    go_wp2_with fail
    refine (idx_is 47 3 _ (by decide +kernel)).mono ?_
    rintro e w' ⟨rfl, rfl⟩
    go_wp2_with fail
    go_returns
    exact ⟨rfl, by go_grown⟩
  · go_enter Tryd.func17, Tryd.ntmps17
    go_wp2_with fail
    refine (idx_is 37 4 _ (by decide +kernel)).mono ?_
    rintro e w' ⟨rfl, rfl⟩
    go_wp2_with fail
    go_returns
    exact ⟨rfl, by go_grown⟩

/-- What two numbers come to. -/
def Numbers (op ka na : Int) (sa : ByteArray) (kb nb : Int) (sb : ByteArray) (r : Int) : Prop := ∀ w : World, Calls Tryd.prog 17 #[.int .u8 op, .agg #[.int .i64 ka, .int .i64 na, .string sa], .agg #[.int .i64 kb, .int .i64 nb, .string sb]] w fun e w' => e = .returned (.tuple #[.agg #[.int .i64 1, .int .i64 r, .string ⟨#[]⟩], .int .i64 0]) ∧ Below w.heap.size w w'
set_option maxHeartbeats 400000 in
theorem arith_ok (op ka na : Int) (sa : ByteArray) (kb nb : Int) (sb : ByteArray) (r : Int) (h0 : 0 ≤ op) (h1 : op ≤ 255) (h : IsOp op) (ha2 : ka ≠ 2) (hb2 : kb ≠ 2) (ha0 : ka ≠ 0) (hb0 : kb ≠ 0)
    (hz : nb = 0 → op ≠ 47 ∧ op ≠ 37) (hr : Reckons op na nb r true) : Numbers op ka na sa kb nb sb r := by
  intro w
  obtain ⟨i, hi⟩ : ∃ i, Lib.indexByte [43, 45, 42, 47, 37] op.toNat.toUInt8 = i := ⟨_, rfl⟩
  have hlt : ¬ i < 0 := by rw [← hi]; exact fun hx => (index_op op h0 h1).1 hx h
  have HI := Lib.hid hi
  have HR := Lib.hid hr
  have d1 : (ka == 2) = false := by simpa using ha2
  have d2 : (kb == 2) = false := by simpa using hb2
  have d3 : (ka == 0) = false := by simpa using ha0
  have d4 : (kb == 0) = false := by simpa using hb0
  have hA := @alloc_drewN
  have hS := @setCell_drewN
  clear hi h hr ha2 hb2 ha0 hb0
  by_cases hnb : nb = 0
  · obtain ⟨e1, e2⟩ := hz hnb
    have d5 : (op == 47) = false := by simpa using e1
    have d6 : (op == 37) = false := by simpa using e2
    have d7 : (nb == 0) = true := by simpa using hnb
    clear hz hnb e1 e2
    go_enter Tryd.func17, Tryd.ntmps17
    go_wp2_with fail
    refine (idx_is op i _ HI.out).mono ?_
    rintro e w' ⟨rfl, rfl⟩
    go_wp2_with fail
    refine (HR.out _).mono ?_
    rintro e w1 ⟨rfl, n, rfl⟩
    go_wp2
    go_returns
    exact ⟨rfl, Below.drewN (by go_grown) _⟩
  · have d7 : (nb == 0) = false := by simpa using hnb
    clear hz hnb
    go_enter Tryd.func17, Tryd.ntmps17
    go_wp2_with fail
    refine (idx_is op i _ HI.out).mono ?_
    rintro e w' ⟨rfl, rfl⟩
    go_wp2_with fail
    refine (HR.out _).mono ?_
    rintro e w1 ⟨rfl, n, rfl⟩
    go_wp2
    go_returns
    exact ⟨rfl, Below.drewN (by go_grown) _⟩
set_option maxHeartbeats 400000 in
theorem arith_no (op ka na : Int) (sa : ByteArray) (kb nb : Int) (sb : ByteArray) (r : Int) (h0 : 0 ≤ op) (h1 : op ≤ 255) (h : IsOp op) (ha2 : ka ≠ 2) (hb2 : kb ≠ 2) (ha0 : ka ≠ 0) (hb0 : kb ≠ 0)
    (hz : nb = 0 → op ≠ 47 ∧ op ≠ 37) (hr : Reckons op na nb r false) : Refused op ka na sa kb nb sb 10 := by
  intro w
  obtain ⟨i, hi⟩ : ∃ i, Lib.indexByte [43, 45, 42, 47, 37] op.toNat.toUInt8 = i := ⟨_, rfl⟩
  have hlt : ¬ i < 0 := by rw [← hi]; exact fun hx => (index_op op h0 h1).1 hx h
  have HI := Lib.hid hi
  have HR := Lib.hid hr
  have d1 : (ka == 2) = false := by simpa using ha2
  have d2 : (kb == 2) = false := by simpa using hb2
  have d3 : (ka == 0) = false := by simpa using ha0
  have d4 : (kb == 0) = false := by simpa using hb0
  have hA := @alloc_drewN
  have hS := @setCell_drewN
  clear hi h hr ha2 hb2 ha0 hb0
  by_cases hnb : nb = 0
  · obtain ⟨e1, e2⟩ := hz hnb
    have d5 : (op == 47) = false := by simpa using e1
    have d6 : (op == 37) = false := by simpa using e2
    have d7 : (nb == 0) = true := by simpa using hnb
    clear hz hnb e1 e2
    go_enter Tryd.func17, Tryd.ntmps17
    go_wp2_with fail
    refine (idx_is op i _ HI.out).mono ?_
    rintro e w' ⟨rfl, rfl⟩
    go_wp2_with fail
    refine (HR.out _).mono ?_
    rintro e w1 ⟨rfl, n, rfl⟩
    go_wp2
    go_returns
    exact ⟨rfl, Below.drewN (by go_grown) _⟩
  · have d7 : (nb == 0) = false := by simpa using hnb
    clear hz hnb
    go_enter Tryd.func17, Tryd.ntmps17
    go_wp2_with fail
    refine (idx_is op i _ HI.out).mono ?_
    rintro e w' ⟨rfl, rfl⟩
    go_wp2_with fail
    refine (HR.out _).mono ?_
    rintro e w1 ⟨rfl, n, rfl⟩
    go_wp2
    go_returns
    exact ⟨rfl, Below.drewN (by go_grown) _⟩
end Go.Proofs.YtedpgeilamhipaaDoor.Va
