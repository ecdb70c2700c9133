/- Walks: digits of a number. -/
import Derived.Test.YtmjcdnlcdkeoaaaDoorCalWalk5
import Derived.Test.YtmjcdnlcdkeoaaaDoorShelf
import Derived.WalkSmall
import Derived.Lib.AppendIntMem
import Derived.Lib.ItoaLen
import Derived.Deep.RegionHeld3
set_option linter.unusedVariables false
set_option linter.unusedSimpArgs false
namespace Go.Proofs.YtmjcdnlcdkeoaaaDoor.Cal
open Go.RowKit Go

/-- What every call leans on: the tables that the program lays. -/
structure Env (w : World) : Prop where
  len : Len w
  pow : Lib.TabIs Tryd.prog w "internal/strconv.uint64pow10" .u64 Lib.pow10Tab
theorem Env.below {w w' : World} (h : Env w) (hb : Below w.heap.size w w') : Env w' := by
  refine ⟨h.len.below hb, ?_⟩
  have hg : Tryd.prog.globalNamed "internal/strconv.uint64pow10" = some 3 := by kernel_rfl
  have h0 := h.pow.cell hg 0 (by decide)
  exact var?_below hb hg (lt_of_cell h0) h.pow

/-- The digits of a number, as many as are asked for at the least. -/
def pad (c : Int) (n : Int) : List UInt8 := List.replicate (c.toNat - (Lib.itoa n).length) 48 ++ Lib.itoa n

theorem itoa_len (n : Int) (h0 : 0 ≤ n) (h1 : n ≤ 9999) : (Lib.itoa n).length ≤ 21 := Lib.itoa_length_le n (by omega) (by omega)
theorem below_itoa {w w' : World} (h : ∃ k os, w' = Sort.grow (w.drewN k) os) : Below w.heap.size w w' := by
  obtain ⟨k, os, rfl⟩ := h
  exact Lib.below_grow _ _ (Nat.le_refl _) _ _

/-- The length of a text in a slot. -/
def lenOf : Value → Nat | .string b => b.size | _ => 0
theorem zero_put (j : Nat) (l : List UInt8) : (⟨#[48]⟩ ++ ⟨(List.replicate j 48 ++ l).toArray⟩ : ByteArray) = ⟨(List.replicate (j + 1) 48 ++ l).toArray⟩ := by
  rw [show (#[48] : Array UInt8) = [48].toArray from rfl, ByteArray.mk_append_mk, List.replicate_succ]; rfl

set_option maxHeartbeats 400000 in
theorem digits_any (n c : Int) (w : World) (h0 : 0 ≤ n) (h1 : n ≤ 9999) (hc0 : 0 ≤ c) (hc : c ≤ 4) (hE : Env w) :
    Calls Tryd.prog 28 #[.int .i64 n, .int .i64 c] w fun e w' => e = .returned (.string ⟨(pad c n).toArray⟩) ∧ Below w.heap.size w w' := by
  have HE := Lib.hid hE
  clear hE
  obtain ⟨c, rfl⟩ : ∃ k : Nat, c = k := ⟨c.toNat, by omega⟩
  have HP : Hid (pad c n = List.replicate (c - (Lib.itoa n).length) 48 ++ Lib.itoa n) := rfl
  have hlen := itoa_len n h0 h1
  obtain ⟨l, hl⟩ : ∃ l, Lib.itoa n = l := ⟨_, rfl⟩
  rw [hl] at hlen HP
  have HI := Lib.hid hl
  clear hl
  go_enter Tryd.func28, Tryd.ntmps28
  go_wp2_with fail
  refine (Tryd.strconv_Itoa n (by omega) (by omega) _ HE.out.pow).mono ?_
  rintro e w1 ⟨rfl, hw⟩
  have hb := below_itoa hw
  clear hw
  rw [HI.out]
  go_wp2_with fail
  go_loop [5] (fun s => ∃ j : Nat, j ≤ c - l.length ∧ s = .string ⟨(List.replicate j 48 ++ l).toArray⟩) (fun s => 100 - lenOf s)
  case atStart => exact ⟨0, by omega, by simp⟩
  case round =>
    obtain ⟨j, hj, rfl⟩ := hrel
    by_cases hlt : j + l.length < c
    · go_wp2_with fail
      go_round
      case rel => exact ⟨j + 1, by omega, by rw [zero_put]⟩
      case measure =>
        have e1 : ∀ q, (⟨(List.replicate q 48 ++ l).toArray⟩ : ByteArray).size = q + l.length := fun q => by simp [ByteArray.size]
        simp only [lenOf, zero_put, e1]; omega
    · have ej : j = c - l.length := by omega
      have HJ := Lib.hid ej
      clear ej
      go_wp2_with fail
      go_ret
      exact ⟨by rw [HP.out, ← HJ.out]; rfl, hb⟩

/-- The text of a date. -/
def text (y m d h i : Int) : List UInt8 := pad 4 y ++ [45] ++ pad 2 m ++ [45] ++ pad 2 d ++ [32] ++ pad 2 h ++ [58] ++ pad 2 i
theorem pad_len (c n : Int) (h0 : 0 ≤ n) (h1 : n ≤ 9999) (hc : c ≤ 4) : (pad c n).length ≤ 25 := by
  have := itoa_len n h0 h1
  unfold pad; simp; omega

theorem text_bytes (y m d h i : Int) : (⟨(pad 4 y).toArray⟩ ++ ⟨#[45]⟩ ++ ⟨(pad 2 m).toArray⟩ ++ ⟨#[45]⟩ ++ ⟨(pad 2 d).toArray⟩ ++ ⟨#[32]⟩ ++ ⟨(pad 2 h).toArray⟩ ++ ⟨#[58]⟩ ++ ⟨(pad 2 i).toArray⟩ : ByteArray) = ⟨(text y m d h i).toArray⟩ := by
  rw [show (#[45] : Array UInt8) = [45].toArray from rfl, show (#[32] : Array UInt8) = [32].toArray from rfl, show (#[58] : Array UInt8) = [58].toArray from rfl]
  simp only [ByteArray.mk_append_mk, text]
theorem show_bad (y m d h i k : Int) (w : World) (hL : Len w)
    (hm : ∀ W : World, Len W → Calls Tryd.prog 12 #[.agg #[.int .i64 y, .int .i64 m, .int .i64 d, .int .i64 h, .int .i64 i, .int .i64 k]] W fun e w' => e = .returned (.tuple #[.int .i64 0, .int .i64 30]) ∧ Below W.heap.size W w') :
    Calls Tryd.prog 22 #[.agg #[.int .i64 y, .int .i64 m, .int .i64 d, .int .i64 h, .int .i64 i, .int .i64 k]] w fun e w' => e = .returned (.string ⟨#[]⟩) ∧ Below w.heap.size w w' := by
  have HL := Lib.hid hL
  have HM := Lib.hid hm
  clear hL hm
  go_enter Tryd.func22, Tryd.ntmps22
  go_wp2_with fail
  refine (HM.out _ (HL.out.below (by go_grown))).mono ?_
  rintro e w1 ⟨rfl, hb⟩
  have b1 := Below.next (B := w.heap.size) (w := w) (by go_grown) hb (Nat.le_refl _)
  go_wp2_with fail
  go_ret
  exact ⟨rfl, b1⟩

/-- What a statement with several calls keeps of the world. -/
def Kept (w w' : World) : Prop := Env w' ∧ Below w.heap.size w w' ∧ w.heap.size < w'.heap.size
theorem Kept.next {w W w1 : World} (h : Kept w W) (hb : Below W.heap.size W w1) : Kept w w1 :=
  ⟨h.1.below hb, h.2.1.trans (hb.mono h.2.1.size), Nat.lt_of_lt_of_le h.2.2 hb.size⟩
theorem keep5 {w W w1 : World} {y m d h i : Int} (hs : W.cell? ⟨w.heap.size, 0, none⟩ = some (.int .i64 y) ∧ W.cell? ⟨w.heap.size, 1, none⟩ = some (.int .i64 m) ∧ W.cell? ⟨w.heap.size, 2, none⟩ = some (.int .i64 d) ∧ W.cell? ⟨w.heap.size, 3, none⟩ = some (.int .i64 h) ∧ W.cell? ⟨w.heap.size, 4, none⟩ = some (.int .i64 i) ∧ Kept w W) (hb : Below W.heap.size W w1) :
    w1.cell? ⟨w.heap.size, 0, none⟩ = some (.int .i64 y) ∧ w1.cell? ⟨w.heap.size, 1, none⟩ = some (.int .i64 m) ∧ w1.cell? ⟨w.heap.size, 2, none⟩ = some (.int .i64 d) ∧ w1.cell? ⟨w.heap.size, 3, none⟩ = some (.int .i64 h) ∧ w1.cell? ⟨w.heap.size, 4, none⟩ = some (.int .i64 i) ∧ Kept w w1 := by
  obtain ⟨h0, h1, h2, h3, h4, hk⟩ := hs
  have hlt := hk.2.2
  refine ⟨?_, ?_, ?_, ?_, ?_, hk.next hb⟩ <;> (rw [hb.cell (by exact hlt)]; assumption)
theorem env5 {w W : World} {A B C D E : Prop} (hs : A ∧ B ∧ C ∧ D ∧ E ∧ Kept w W) : Env W := hs.2.2.2.2.2.1

set_option maxHeartbeats 800000 in
theorem show_ok (y m d h i k q : Int) (w : World) (o : Ok y m d h i) (hE : Env w)
    (hm : ∀ W : World, Len W → Calls Tryd.prog 12 #[.agg #[.int .i64 y, .int .i64 m, .int .i64 d, .int .i64 h, .int .i64 i, .int .i64 k]] W fun e w' => e = .returned (.tuple #[.int .i64 q, .int .i64 0]) ∧ Below W.heap.size W w') :
    Calls Tryd.prog 22 #[.agg #[.int .i64 y, .int .i64 m, .int .i64 d, .int .i64 h, .int .i64 i, .int .i64 k]] w fun e w' => e = .returned (.string ⟨(text y m d h i).toArray⟩) ∧ Below w.heap.size w w' := by
  have HE := Lib.hid hE
  have HM := Lib.hid hm
  have db := dim_bd y m
  have l1 := pad_len 4 y (by have := o.n1; omega) (by have := o.n2; omega) (by omega)
  have l2 := pad_len 2 m (by have := o.n3; omega) (by have := o.n4; omega) (by omega)
  have l3 := pad_len 2 d (by have := o.n5; omega) (by have := o.n6; omega) (by omega)
  have l4 := pad_len 2 h (by have := o.p1; omega) (by have := o.p2; omega) (by omega)
  have l5 := pad_len 2 i (by have := o.p3; omega) (by have := o.p4; omega) (by omega)
  obtain ⟨n1, n2, n3, n4, n5, n6, p1, p2, p3, p4⟩ := o
  clear hE hm
  have k0 : ((9223372036854775807 : Nat) < (pad 4 y).length + 1) = False := by simp; omega
  have k1 : ((9223372036854775807 : Nat) < (pad 4 y).length + 1 + (pad 2 m).length) = False := by simp; omega
  have k2 : ((9223372036854775807 : Nat) < (pad 4 y).length + 1 + (pad 2 m).length + 1) = False := by simp; omega
  have k3 : ((9223372036854775807 : Nat) < (pad 4 y).length + 1 + (pad 2 m).length + 1 + (pad 2 d).length) = False := by simp; omega
  have k4 : ((9223372036854775807 : Nat) < (pad 4 y).length + 1 + (pad 2 m).length + 1 + (pad 2 d).length + 1) = False := by simp; omega
  have k5 : ((9223372036854775807 : Nat) < (pad 4 y).length + 1 + (pad 2 m).length + 1 + (pad 2 d).length + 1 + (pad 2 h).length) = False := by simp; omega
  have k6 : ((9223372036854775807 : Nat) < (pad 4 y).length + 1 + (pad 2 m).length + 1 + (pad 2 d).length + 1 + (pad 2 h).length + 1) = False := by simp; omega
  have k7 : ((9223372036854775807 : Nat) < (pad 4 y).length + 1 + (pad 2 m).length + 1 + (pad 2 d).length + 1 + (pad 2 h).length + 1 + (pad 2 i).length) = False := by simp; omega
  go_enter Tryd.func22, Tryd.ntmps22
  go_wp2_with fail
  refine (HM.out _ (HE.out.len.below (by go_grown))).mono ?_
  rintro e w1 ⟨rfl, hb⟩
  have b1 := Below.next (B := w.heap.size) (w := w) (by go_grown) hb (Nat.le_refl _)
  have z1 := hb.size
  simp only [World.size_alloc] at z1
  have z3 : w.heap.size < w1.heap.size := by omega
  have c0 : w1.cell? ⟨w.heap.size, 0, none⟩ = some (.int .i64 y) := box (n := 0) hb (by simp) 0
  have c1 : w1.cell? ⟨w.heap.size, 1, none⟩ = some (.int .i64 m) := box (n := 0) hb (by simp) 1
  have c2 : w1.cell? ⟨w.heap.size, 2, none⟩ = some (.int .i64 d) := box (n := 0) hb (by simp) 2
  have c3 : w1.cell? ⟨w.heap.size, 3, none⟩ = some (.int .i64 h) := box (n := 0) hb (by simp) 3
  have c4 : w1.cell? ⟨w.heap.size, 4, none⟩ = some (.int .i64 i) := box (n := 0) hb (by simp) 4
  have K1 : Kept w w1.drew := ⟨HE.out.below b1.drew, b1.drew, z3⟩
  have HS := Lib.hid (show w1.drew.cell? ⟨w.heap.size, 0, none⟩ = some (.int .i64 y) ∧ w1.drew.cell? ⟨w.heap.size, 1, none⟩ = some (.int .i64 m) ∧ w1.drew.cell? ⟨w.heap.size, 2, none⟩ = some (.int .i64 d) ∧ w1.drew.cell? ⟨w.heap.size, 3, none⟩ = some (.int .i64 h) ∧ w1.drew.cell? ⟨w.heap.size, 4, none⟩ = some (.int .i64 i) ∧ Kept w w1.drew from ⟨c0, c1, c2, c3, c4, K1⟩)
  clear hb b1 K1
  go_wp2_with fail
  go_region_held3 (fun w' => w'.cell? ⟨w.heap.size, 0, none⟩ = some (.int .i64 y) ∧ w'.cell? ⟨w.heap.size, 1, none⟩ = some (.int .i64 m) ∧ w'.cell? ⟨w.heap.size, 2, none⟩ = some (.int .i64 d) ∧ w'.cell? ⟨w.heap.size, 3, none⟩ = some (.int .i64 h) ∧ w'.cell? ⟨w.heap.size, 4, none⟩ = some (.int .i64 i) ∧ Kept w w') (first | exact HS.out | exact keep5 (by assumption) hb | go_keep)
    (first | (go_at_call 28; refine (digits_any _ _ _ (by omega) (by omega) (by omega) (by omega) (env5 (w := w) (by assumption))).mono ?_; rintro e w' ⟨rfl, hb⟩))
  go_wp2_with fail
  go_ret
  have hk : Kept w w' := by
    have hx : w'.cell? ⟨w.heap.size, 0, none⟩ = some (.int .i64 y) ∧ w'.cell? ⟨w.heap.size, 1, none⟩ = some (.int .i64 m) ∧ w'.cell? ⟨w.heap.size, 2, none⟩ = some (.int .i64 d) ∧ w'.cell? ⟨w.heap.size, 3, none⟩ = some (.int .i64 h) ∧ w'.cell? ⟨w.heap.size, 4, none⟩ = some (.int .i64 i) ∧ Kept w w' := by assumption
    exact hx.2.2.2.2.2
  exact ⟨congrArg (fun s => Ending.returned (Value.string s)) (text_bytes y m d h i), hk.2.1⟩
end Go.Proofs.YtmjcdnlcdkeoaaaDoor.Cal
