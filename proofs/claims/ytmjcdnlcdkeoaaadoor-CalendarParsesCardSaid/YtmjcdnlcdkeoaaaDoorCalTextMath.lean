/- The plain law on the texts of dates: their bytes, and what is read out of them. -/
import Derived.Test.YtmjcdnlcdkeoaaaDoorCalWalk6
import Derived.Test.YtmjcdnlcdkeoaaaDoorNumMath
set_option linter.unusedVariables false
namespace Go.Proofs.YtmjcdnlcdkeoaaaDoor.Cal
open Go

/-- Two digits. -/
def two2 (n : Int) : List UInt8 := [UInt8.ofNat (48 + n.toNat / 10), UInt8.ofNat (48 + n.toNat % 10)]
theorem dec1 (u : Nat) (h : u < 10) : Lib.decDigits u = [UInt8.ofNat (48 + u)] := by
  rw [Lib.decDigits, dif_pos h]
theorem decS (u : Nat) (h : 10 ≤ u) : Lib.decDigits u = Lib.decDigits (u / 10) ++ [UInt8.ofNat (48 + u % 10)] := by
  conv => lhs; rw [Lib.decDigits, dif_neg (by omega)]
theorem pad2 {m : Int} (h0 : 0 ≤ m) (h1 : m < 100) : pad 2 m = two2 m := by
  obtain ⟨u, rfl⟩ : ∃ u : Nat, m = u := ⟨m.toNat, by omega⟩
  unfold pad two2
  rw [Lib.itoa_nonneg]
  by_cases h : u < 10
  · rw [dec1 u h]
    simp only [List.length_singleton, Int.toNat_natCast]
    rw [show u / 10 = 0 by omega, show u % 10 = u by omega]
    rfl
  · rw [decS u (by omega), dec1 (u / 10) (by omega)]
    simp only [Int.toNat_natCast]
    rfl
theorem pad4 {y : Int} (h0 : 1000 ≤ y) (h1 : y < 10000) : pad 4 y = Lib.itoa y ∧ pad 4 y = two2 (y / 100) ++ two2 (y % 100) := by
  obtain ⟨u, rfl⟩ : ∃ u : Nat, y = u := ⟨y.toNat, by omega⟩
  unfold pad two2
  rw [Lib.itoa_nonneg, decS u (by omega), decS (u / 10) (by omega), decS (u / 10 / 10) (by omega), dec1 (u / 10 / 10 / 10) (by omega)]
  have e1 : ((u : Int) / 100).toNat / 10 = u / 10 / 10 / 10 := by omega
  have e2 : ((u : Int) / 100).toNat % 10 = u / 10 / 10 % 10 := by omega
  have e3 : ((u : Int) % 100).toNat / 10 = u / 10 % 10 := by omega
  have e4 : ((u : Int) % 100).toNat % 10 = u % 10 := by omega
  rw [e1, e2, e3, e4]
  exact ⟨rfl, rfl⟩
set_option maxRecDepth 100000 in
theorem two2_fin : ∀ m : Fin 100, (match Lib.atoiAll (two2 ((m.val : Nat) : Int)) with | .ok v => decide (v = ((m.val : Nat) : Int)) | _ => false) = true := by decide +kernel
theorem atoi2 {m : Int} (h0 : 0 ≤ m) (h1 : m < 100) : Lib.atoiAll (pad 2 m) = .ok m := by
  rw [pad2 h0 h1]
  have h := two2_fin ⟨m.toNat, by omega⟩
  simp only [show ((m.toNat : Nat) : Int) = m by omega] at h
  split at h
  · rename_i v hv
    rw [hv, of_decide_eq_true h]
  · cases h
theorem atoi4 {y : Int} (h0 : 1000 ≤ y) (h1 : y < 10000) : Lib.atoiAll (pad 4 y) = .ok y := by
  rw [(pad4 h0 h1).1]
  exact Nu.atoi_itoa y (by omega) (by omega)

/-- A date that is a minute's. -/
def Right (y m d h i k : Int) : Prop := Ok y m d h i ∧ mn y m d h i < 2147483648 ∧ (mn y m d h i / 1440 + 6) % 7 = k
open Classical in
/-- The text that is shown: none, if it is no date. -/
noncomputable def showT (y m d h i k : Int) : List UInt8 := if Right y m d h i k then text y m d h i else []
theorem Right.bd {y m d h i k : Int} (r : Right y m d h i k) : 2000 ≤ y ∧ y ≤ 7000 ∧ 1 ≤ m ∧ m ≤ 12 ∧ 1 ≤ d ∧ d ≤ 31 ∧ 0 ≤ h ∧ h ≤ 23 ∧ 0 ≤ i ∧ i ≤ 59 := by
  obtain ⟨⟨n1, n2, n3, n4, n5, n6, p1, p2, p3, p4⟩, _, _⟩ := r
  have := dim_bd y m
  refine ⟨?_, ?_, ?_, ?_, ?_, ?_, ?_, ?_, ?_, ?_⟩ <;> omega
/-- The bytes of a right date's text. -/
theorem text_is {y m d h i : Int} (y0 : 2000 ≤ y) (y1 : y ≤ 7000) (m0 : 1 ≤ m) (m1 : m ≤ 12) (d0 : 1 ≤ d) (d1 : d ≤ 31) (h0 : 0 ≤ h) (h1 : h ≤ 23) (i0 : 0 ≤ i) (i1 : i ≤ 59) :
    text y m d h i = two2 (y / 100) ++ two2 (y % 100) ++ [45] ++ two2 m ++ [45] ++ two2 d ++ [32] ++ two2 h ++ [58] ++ two2 i := by
  unfold text
  rw [(pad4 (by omega) (by omega)).2, pad2 (by omega) (by omega), pad2 (by omega) (by omega), pad2 (by omega) (by omega), pad2 (by omega) (by omega)]
theorem text_len {y m d h i k : Int} (r : Right y m d h i k) : (text y m d h i).length = 16 := by
  obtain ⟨y0, y1, m0, m1, d0, d1, h0, h1, i0, i1⟩ := r.bd
  rw [text_is y0 y1 m0 m1 d0 d1 h0 h1 i0 i1]; rfl
/-- What a reader of five places of a right date's text is told. -/
theorem text_read {y m d h i k : Int} (r : Right y m d h i k) :
    Lib.atoiAll (((text y m d h i).take 4).drop 0) = .ok y ∧ Lib.atoiAll (((text y m d h i).take 7).drop 5) = .ok m ∧ Lib.atoiAll (((text y m d h i).take 10).drop 8) = .ok d ∧ Lib.atoiAll (((text y m d h i).take 13).drop 11) = .ok h ∧ Lib.atoiAll (((text y m d h i).take 16).drop 14) = .ok i := by
  obtain ⟨y0, y1, m0, m1, d0, d1, h0, h1, i0, i1⟩ := r.bd
  have a0 := atoi4 (y := y) (by omega) (by omega)
  rw [(pad4 (y := y) (by omega) (by omega)).2] at a0
  have a1 := atoi2 (m := m) (by omega) (by omega)
  rw [pad2 (by omega) (by omega)] at a1
  have a2 := atoi2 (m := d) (by omega) (by omega)
  rw [pad2 (by omega) (by omega)] at a2
  have a3 := atoi2 (m := h) (by omega) (by omega)
  rw [pad2 (by omega) (by omega)] at a3
  have a4 := atoi2 (m := i) (by omega) (by omega)
  rw [pad2 (by omega) (by omega)] at a4
  rw [text_is y0 y1 m0 m1 d0 d1 h0 h1 i0 i1]
  exact ⟨a0, a1, a2, a3, a4⟩
/-- Only one weekday is right. -/
theorem showT_ne {y m d h i k k' : Int} (r : Right y m d h i k) (hk : k' ≠ k) : showT y m d h i k' = [] := by
  unfold showT
  rw [if_neg]
  rintro ⟨_, _, e⟩
  exact hk (e.symm.trans r.2.2)
theorem showT_eq {y m d h i k : Int} (r : Right y m d h i k) : showT y m d h i k = text y m d h i := if_pos r
theorem Right.k {y m d h i k : Int} (r : Right y m d h i k) : 0 ≤ k ∧ k ≤ 6 := by
  have := r.2.2
  omega
/-- What is told by a reader of a text: a right date with just this text; or, where it tells none, no weekday gives one. -/
theorem right_of {y m d h i k : Int} {s : List UInt8} (hs : s ≠ []) (e : showT y m d h i k = s) : Right y m d h i k ∧ text y m d h i = s := by
  unfold showT at e
  split at e
  · exact ⟨by assumption, e⟩
  · exact absurd e.symm hs
theorem right_inj {y m d h i k y' m' d' h' i' k' : Int} (r : Right y m d h i k) (r' : Right y' m' d' h' i' k') (e : text y m d h i = text y' m' d' h' i') : y = y' ∧ m = m' ∧ d = d' ∧ h = h' ∧ i = i' ∧ k = k' := by
  obtain ⟨a0, a1, a2, a3, a4⟩ := text_read r
  obtain ⟨b0, b1, b2, b3, b4⟩ := text_read r'
  rw [e] at a0 a1 a2 a3 a4
  rw [b0] at a0; rw [b1] at a1; rw [b2] at a2; rw [b3] at a3; rw [b4] at a4
  injection a0 with a0; injection a1 with a1; injection a2 with a2; injection a3 with a3; injection a4 with a4
  subst a0; subst a1; subst a2; subst a3; subst a4
  exact ⟨rfl, rfl, rfl, rfl, rfl, r.2.2.symm.trans r'.2.2⟩
end Go.Proofs.YtmjcdnlcdkeoaaaDoor.Cal
