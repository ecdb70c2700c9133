/- Walks: the library's lines and parts of a text, as they are ranged over. -/
import Derived.Test.YtfmjeggomphliaaGreatDoorRange
import Derived.Test.YtfmjeggomphliaaGreatDoorLinesMath
import Derived.Test.YtfmjeggomphliaaGreatDoorShelf
import Derived.Shelf.Abstract
import Derived.OwnWalkIn
import Derived.TacticsInMore
import Derived.LoopNIn
import Derived.LoopIn
import Derived.OneCell
import Derived.RegionTactic
import Derived.BigRegion
set_option linter.unusedVariables false
set_option linter.unusedSimpArgs false
namespace Go.Proofs.YtfmjeggomphliaaGreatDoor.Rf
open Go.RowKit Go Go.Sort Ba Tb Go.Shelf
attribute [local go_sem] Oper.semAt_some

/-- Texts of no great length. -/
abbrev Txt := { x : ByteArray // x.size ≤ 4000 }
theorem ext_sz {t : ByteArray} (h : t.size ≤ 4000) (a b : Nat) : (t.extract a b).size ≤ 4000 := by rw [ByteArray.size_extract]; omega
def StrAt (B : Nat) (s : ByteArray) (W : World) : Prop := W.heap[B]? = some (.cells #[.string s] 9 (0, 0))
def leftAt (B : Nat) (W : World) : Nat := match W.cell? ⟨B, 0, none⟩ with | some (.string s) => s.size | _ => 0
theorem StrAt.cell {B : Nat} {s : ByteArray} {W : World} (h : StrAt B s W) : W.cell? ⟨B, 0, none⟩ = some (.string s) := cell_of_one h
theorem StrAt.free {B : Nat} {s : ByteArray} {W : World} (h : StrAt B s W) : W.frozen? ⟨B, 0, none⟩ = false := free_of_one h
theorem StrAt.left {B : Nat} {s : ByteArray} {W : World} (h : StrAt B s W) : leftAt B W = s.size := by unfold leftAt; rw [h.cell]
theorem StrAt.put {B : Nat} {s : ByteArray} {W : World} (h : StrAt B s W) (t : ByteArray) : StrAt B t (W.setCell ⟨B, 0, none⟩ (.string t)) := one_setCell h
theorem put_grown (W : World) (B : Nat) (v : Value) : W.grownBy (W.setCell ⟨B, 0, none⟩ v) (some B) :=
  ⟨rfl, rfl, rfl, by rw [World.size_setCell]; exact Nat.le_refl _, fun k hk hne => Below.heap_setCell _ _ _ _ (by intro e; exact hne (by rw [show k = B from e]))⟩
theorem drew_grown (W : World) (r : Option Nat) : W.grownBy W.drew r := ⟨rfl, rfl, rfl, Nat.le_refl _, fun _ _ _ => rfl⟩
theorem lineq {pre : List Txt} {x : Txt} {rest full : List (List UInt8)} (h : pre.map (fun x => x.1.data.toList) ++ (x.1.data.toList :: rest) = full) : (pre ++ [x]).map (fun x => x.1.data.toList) ++ rest = full := by
  rw [List.map_append, List.append_assoc]; exact h
theorem lines_len : ∀ l : List UInt8, (linesL l).length ≤ l.length
  | [] => Nat.le_refl _
  | c :: l => by
    have ih := lines_len l
    by_cases hc : c = 10
    · subst hc
      show ([10] :: linesL l).length ≤ _
      simp only [List.length_cons]; omega
    · cases h : linesL l with
      | nil => rw [lines_lone hc h]; simp
      | cons x xs => rw [lines_ne hc h]; rw [h] at ih; simp only [List.length_cons] at ih ⊢; omega
theorem parts_len : ∀ l : List UInt8, (partsL l).length ≤ l.length + 1
  | [] => Nat.le_refl _
  | [c] => by show 1 ≤ _; simp
  | c :: d :: r => by
    by_cases hc : c = 44 ∧ d = 32
    · have ih := parts_len r
      rw [parts_hit hc]
      simp only [List.length_cons]; omega
    · have ih := parts_len (d :: r)
      cases h : partsL (d :: r) with
      | nil =>
        have e : partsL (c :: d :: r) = [[c]] := by
          show (if c = 44 ∧ d = 32 then [] :: partsL r else match partsL (d :: r) with | [] => [[c]] | x :: xs => (c :: x) :: xs) = _
          rw [if_neg hc, h]
        rw [e]; simp
      | cons x xs => rw [parts_ne hc h]; rw [h] at ih; simp only [List.length_cons] at ih ⊢; omega
theorem pre_lines {pre : List Txt} {rest : List (List UInt8)} {s : ByteArray} (h : pre.map (fun x => x.1.data.toList) ++ rest = linesL s.data.toList) (hn : (linesL s.data.toList).length ≤ 10000) : pre.length < 10001 := by
  rw [← h, List.length_append, List.length_map] at hn
  omega
theorem pre_parts {pre : List Txt} {rest : List (List UInt8)} {s : ByteArray} (h : pre.map (fun x => x.1.data.toList) ++ rest = partsL s.data.toList) (hs : s.size ≤ 4000) (hr : rest ≠ []) : pre.length < 4002 := by
  have h1 := parts_len s.data.toList
  rw [← h, List.length_append, List.length_map, ← size_list] at h1
  have := List.length_pos_iff.2 hr
  omega
theorem idx_lt : ∀ {l : List UInt8} {c : UInt8} {k : Nat}, Lib.indexByte l c = k → k < l.length
  | [], c, k, h => by
    have h' : (-1 : Int) = k := h
    omega
  | b :: l, c, k, h => by
    unfold Lib.indexByte at h
    have hg := Lib.indexByte_ge l c
    split at h
    · rw [List.length_cons]; omega
    · split at h
      · omega
      · rename_i h2
        have h2' : ¬ Lib.indexByte l c = -1 := by simpa using h2
        have := idx_lt (l := l) (c := c) (k := k - 1) (by omega)
        rw [List.length_cons]; omega
theorem lines_seq (Bs : Nat) (s : ByteArray) (hs : s.size ≤ 1000000) (hln : ∀ x ∈ linesL s.data.toList, x.length ≤ 4000) (hnn : (linesL s.data.toList).length ≤ 10000) : SeqC 3 Tryz.prog 52 #[.pointer (some ⟨Bs, 0, none⟩)] (fun x : Txt => #[Value.string x.1]) (fun xs => xs.map (fun x => x.1.data.toList) = linesL s.data.toList) (fun pre => ∃ rest, pre.map (fun x => x.1.data.toList) ++ rest = linesL s.data.toList) Bs (fun k => k = Bs) 10001 (StrAt Bs s) := by
  intro l J Jx W hB bJ bJx hY h0
  show CallsIn Fence.wide 3 Tryz.prog 52 #[.func (.yield l) #[] #[], .pointer (some ⟨Bs, 0, none⟩)] W _
  have HLN := Lib.hid hln
  have HY := Lib.hid hY
  have BJ := Lib.hid bJ
  have BJX := Lib.hid bJx
  clear hY bJ bJx hln
  refine callsIn_of_wp Tryz.func52 rfl trivial ?_ rfl
  simp only [Tryz.ntmps52, List.size_toArray, List.length_cons, List.length_nil, Nat.reduceAdd, Nat.reduceSub, Array.replicate_succ, Array.replicate_zero, List.push_toArray, List.append_toArray, List.nil_append, List.cons_append]
  gi_wp2
  gi_loopw [3, 4] (fun ln i wr => ∃ (pre : List Txt) (t : ByteArray), t.size ≤ 1000000 ∧ Hid (StrAt Bs t wr) ∧ Hid (pre.map (fun x => x.1.data.toList) ++ linesL t.data.toList = linesL s.data.toList) ∧ Hid (J pre wr)) (fun ln i wr => leftAt Bs wr)
  case atStart => exact ⟨[], s, hs, hB, rfl, h0⟩
  case round =>
    obtain ⟨pre, t, ht, HS, HL, HJ⟩ := hrel
    have c1 := HS.out.cell
    by_cases h0 : t.size = 0
    · gi_wp2
      go_end0
      have hl : t.data.toList = [] := List.length_eq_zero_iff.1 (by rw [← size_list]; exact h0)
      exact ⟨⟨_, rfl⟩, .inl ⟨pre, by have := HL.out; rw [hl] at this; simpa [linesL] using this, HJ.out⟩⟩
    · have hp : (t.size : Int) > 0 := by omega
      obtain ⟨i, hi⟩ : ∃ i, Lib.indexByte t.data.toList 10 = i := ⟨_, rfl⟩
      have HI : Hid (Calls Tryz.prog 53 #[.string t, .int .u8 10] wr fun e w' => e = .returned (.int .i64 i) ∧ wr = w') := by
        refine (Tryz.strings_IndexByte t 10 wr).mono fun e w' ⟨he, hw⟩ => ⟨?_, hw.symm⟩
        rw [he, ← hi]; rfl
      have hge := Lib.indexByte_ge t.data.toList 10
      rw [hi] at hge
      by_cases hi0 : i < 0
      · obtain rfl : i = -1 := by omega
        have HI1 := Lib.hid hi
        clear hi hge hi0
        have HS1 : Hid (StrAt Bs ⟨#[]⟩ (wr.setCell ⟨Bs, 0, none⟩ (.string ⟨#[]⟩))) := HS.out.put _
        have HJ1 : Hid (J pre (wr.setCell ⟨Bs, 0, none⟩ (.string ⟨#[]⟩))) := BJ.out _ _ _ HJ.out (put_grown _ _ _)
        have f1 := HS.out.free
        have hT : Hid (linesL t.data.toList = [t.data.toList]) := lines_none _ HI1.out (by intro e; have h2 := size_list t; rw [e, List.length_nil] at h2; exact h0 h2)
        obtain ⟨fn, tmps, assign, body, hy, hR⟩ := HY.out pre ⟨t, by rw [size_list]; exact HLN.out _ (by rw [← HL.out, hT.out]; simp)⟩ _ HJ1.out (pre_lines HL.out hnn)
        dsimp only at hy
        gi_wp2_with ((refine ⟨trivial, ?_⟩; gi_at_call 53; refine (callsIn_wide.2 HI.out).mono ?_; rintro e w1 ⟨rfl, rfl⟩))
        refine hR.mono ?_
        rintro e W3 (⟨rfl, hJ3, hk3⟩ | ⟨rfl, hJx3⟩)
        · have HS3 : Hid (StrAt Bs ⟨#[]⟩ W3) := (hk3 Bs rfl).trans HS1.out
          clear hy hR hk3
          gi_wp2
          go_roundw
          case rel => exact ⟨pre ++ [(⟨t, by rw [size_list]; exact HLN.out _ (by rw [← HL.out, hT.out]; simp)⟩ : Txt)], ⟨#[]⟩, Nat.zero_le _, HS3.out, (lineq (rest := []) (by have h1 := HL.out; rw [hT.out] at h1; exact h1) : _), hJ3⟩
          case measure => rw [HS3.out.left, HS.out.left]; exact Nat.pos_of_ne_zero h0
        · clear hy hR
          gi_wp2
          refine bodyPost_ret (results_none rfl _ _ _) rfl ?_
          exact ⟨⟨_, rfl⟩, .inr ⟨pre ++ [(⟨t, by rw [size_list]; exact HLN.out _ (by rw [← HL.out, hT.out]; simp)⟩ : Txt)], ⟨[], lineq (by have h1 := HL.out; rw [hT.out] at h1; exact h1)⟩, hJx3⟩⟩
      · obtain ⟨k, rfl⟩ : ∃ k : Nat, i = k := ⟨i.toNat, by omega⟩
        have HI1 := Lib.hid hi
        clear hi hge hi0
        have hk : k < t.size := by rw [size_list]; exact idx_lt HI1.out
        have f1 := HS.out.free
        gi_wp2_with ((refine ⟨trivial, ?_⟩; gi_at_call 53; refine (callsIn_wide.2 HI.out).mono ?_; rintro e w1 ⟨rfl, rfl⟩))
        refine wpIn_wide.2 ?_
        go_region
        have HS1 : Hid (StrAt Bs (t.extract (k + 1) t.size) (wr.setCell ⟨Bs, 0, none⟩ (.string (t.extract (k + 1) t.size))).drew) := HS.out.put _
        have HJ1 : Hid (J pre (wr.setCell ⟨Bs, 0, none⟩ (.string (t.extract (k + 1) t.size))).drew) := BJ.out _ _ _ (BJ.out _ _ _ HJ.out (put_grown _ _ _)) (drew_grown _ _)
        have hA : Hid ((t.extract 0 (k + 1)).data.toList = t.data.toList.take (k + 1)) := by show _ = _; rw [Lib.extract_data]; rfl
        have hB2 : Hid ((t.extract (k + 1) t.size).data.toList = t.data.toList.drop (k + 1)) := by
          show _ = _
          rw [Lib.extract_data, List.take_of_length_le (by rw [List.length_drop, ← size_list]; exact Nat.le_refl _)]
        have hT : Hid (linesL t.data.toList = (t.extract 0 (k + 1)).data.toList :: linesL (t.extract (k + 1) t.size).data.toList) := by
          show _ = _
          rw [hA.out, hB2.out]; exact lines_some _ k HI1.out
        have hz : Hid ((t.extract (k + 1) t.size).size = t.size - (k + 1)) := by show _ = _; rw [size_list, hB2.out, List.length_drop, ← size_list]
        obtain ⟨fn, tmps, assign, body, hy, hR⟩ := HY.out pre ⟨t.extract 0 (k + 1), by rw [size_list]; exact HLN.out _ (by rw [← HL.out, hT.out]; simp)⟩ _ HJ1.out (pre_lines HL.out hnn)
        dsimp only at hy
        gi_wp2
        refine hR.mono ?_
        rintro e W3 (⟨rfl, hJ3, hk3⟩ | ⟨rfl, hJx3⟩)
        · have HS3 : Hid (StrAt Bs (t.extract (k + 1) t.size) W3) := (hk3 Bs rfl).trans HS1.out
          clear hy hR hk3
          gi_wp2
          go_roundw
          case rel => exact ⟨pre ++ [(⟨t.extract 0 (k + 1), by rw [size_list]; exact HLN.out _ (by rw [← HL.out, hT.out]; simp)⟩ : Txt)], t.extract (k + 1) t.size, by rw [hz.out]; omega, HS3.out, lineq (by have h1 := HL.out; rw [hT.out] at h1; exact h1), hJ3⟩
          case measure => rw [HS3.out.left, HS.out.left, hz.out]; omega
        · clear hy hR
          gi_wp2
          refine bodyPost_ret (results_none rfl _ _ _) rfl ?_
          exact ⟨⟨_, rfl⟩, .inr ⟨pre ++ [(⟨t.extract 0 (k + 1), by rw [size_list]; exact HLN.out _ (by rw [← HL.out, hT.out]; simp)⟩ : Txt)], ⟨linesL (t.extract (k + 1) t.size).data.toList, lineq (by have h1 := HL.out; rw [hT.out] at h1; exact h1)⟩, hJx3⟩⟩

/-! ### Parts -/
theorem idx2_lt : ∀ {l : List UInt8} {k : Nat}, Lib.index l [44, 32] = k → k + 2 ≤ l.length
  | [], k, h => by
    have h' : (-1 : Int) = k := h
    omega
  | [c], k, h => by
    unfold Lib.index at h
    rw [pre1] at h
    have h' : (-1 : Int) = k := h
    omega
  | c :: d :: r, k, h => by
    unfold Lib.index at h
    have hg := Lib.index_ge (d :: r) [44, 32]
    split at h
    · simp only [List.length_cons]; omega
    · split at h
      · omega
      · rename_i h2
        have h2' : ¬ Lib.index (d :: r) [44, 32] = -1 := by simpa using h2
        have := idx2_lt (l := d :: r) (k := k - 1) (by omega)
        rw [List.length_cons]; omega
theorem cell_same {W W' : World} {b o : Nat} (h : W'.heap[b]? = W.heap[b]?) : W'.cell? ⟨b, o, none⟩ = W.cell? ⟨b, o, none⟩ := by unfold World.cell?; simp only [h]
def IntAt (B : Nat) (n : Int) (W : World) : Prop := W.heap[B]? = some (.cells #[.int .i64 n] 3 (0, 0))
/-- What SplitSeq's function leans on. -/
structure SplitAt (Bs : Nat) (s : ByteArray) (W : World) : Prop where
  str : StrAt Bs s W
  sep : StrAt (Bs + 1) ⟨#[44, 32]⟩ W
  sav : IntAt (Bs + 2) 0 W
  ml : ∃ m, W.cell? ⟨1, 0, none⟩ = some (.int .i64 m)
def SplitKp (Bs : Nat) (k : Nat) : Prop := k = Bs ∨ k = Bs + 1 ∨ k = Bs + 2 ∨ k = 1
theorem SplitAt.same {Bs : Nat} {s : ByteArray} {W W' : World} (h : SplitAt Bs s W) (hk : Same (SplitKp Bs) W W') : SplitAt Bs s W' :=
  ⟨(hk _ (.inl rfl)).trans h.str, (hk _ (.inr (.inl rfl))).trans h.sep, (hk _ (.inr (.inr (.inl rfl)))).trans h.sav, by obtain ⟨m, hm⟩ := h.ml; exact ⟨m, (cell_same (hk _ (.inr (.inr (.inr rfl))))).trans hm⟩⟩
theorem SplitAt.put {Bs : Nat} {s : ByteArray} {W : World} (h : SplitAt Bs s W) (hg : 1 ≠ Bs) (t : ByteArray) : SplitAt Bs t (W.setCell ⟨Bs, 0, none⟩ (.string t)) :=
  ⟨h.str.put t, (Below.heap_setCell _ _ _ _ (by show Bs + 1 ≠ Bs; omega)).trans h.sep, (Below.heap_setCell _ _ _ _ (by show Bs + 2 ≠ Bs; omega)).trans h.sav, by
    obtain ⟨m, hm⟩ := h.ml
    refine ⟨m, ?_⟩
    rw [World.cell?_setCell_other _ _ _ _ (by intro e; simp only [Addr.mk.injEq] at e; omega)]
    exact hm⟩
set_option maxHeartbeats 1600000 in
set_option maxRecDepth 100000 in
theorem splits_seq (Bs : Nat) (s : ByteArray) (hs : s.size ≤ 4000) (hg : 1 ≠ Bs) : SeqC 3 Tryz.prog 105 #[.pointer (some ⟨Bs + 1, 0, none⟩), .pointer (some ⟨Bs, 0, none⟩), .pointer (some ⟨Bs + 2, 0, none⟩)] (fun x : Txt => #[Value.string x.1]) (fun xs => xs.map (fun x => x.1.data.toList) = partsL s.data.toList) (fun pre => True) Bs (SplitKp Bs) 4002 (SplitAt Bs s) := by
  intro l J Jx W hB bJ bJx hY h0
  show CallsIn Fence.wide 3 Tryz.prog 105 #[.func (.yield l) #[] #[], .pointer (some ⟨Bs + 1, 0, none⟩), .pointer (some ⟨Bs, 0, none⟩), .pointer (some ⟨Bs + 2, 0, none⟩)] W _
  have HY := Lib.hid hY
  have BJ := Lib.hid bJ
  have BJX := Lib.hid bJx
  have HG := Lib.hid hg
  have c0 := hB.sep.cell
  clear hY bJ bJx hg
  refine callsIn_of_wp Tryz.func105 rfl trivial ?_ rfl
  simp only [Tryz.ntmps105, List.size_toArray, List.length_cons, List.length_nil, Nat.reduceAdd, Nat.reduceSub, Array.replicate_succ, Array.replicate_zero, List.push_toArray, List.append_toArray, List.nil_append, List.cons_append]
  gi_wp2
  clear c0
  gi_loopw [7, 8] (fun iv fr wr => ∃ (pre : List Txt) (t : ByteArray), t.size ≤ 4000 ∧ Hid (SplitAt Bs t wr) ∧ Hid (pre.map (fun x => x.1.data.toList) ++ partsL t.data.toList = partsL s.data.toList) ∧ Hid (J pre wr)) (fun iv fr wr => leftAt Bs wr)
  case atStart => exact ⟨[], s, hs, hB, rfl, h0⟩
  case round =>
    obtain ⟨pre, t, ht, HS, HL, HJ⟩ := hrel
    have c1 := HS.out.str.cell
    have c2 := HS.out.sep.cell
    have c3 := cell_of_one HS.out.sav
    obtain ⟨i, hi⟩ : ∃ i, Lib.index t.data.toList [44, 32] = i := ⟨_, rfl⟩
    have HI : Hid (Calls Tryz.prog 107 #[.string t, .string ⟨#[44, 32]⟩] wr fun e w' => e = .returned (.int .i64 i) ∧ wr = w') := by
      obtain ⟨m, hm⟩ := HS.out.ml
      refine (Tryz.strings_Index t ⟨#[44, 32]⟩ m wr (by omega) hm).mono fun e w' ⟨he, hw⟩ => ⟨?_, hw.symm⟩
      rw [he, ← hi]
    have hge := Lib.index_ge t.data.toList [44, 32]
    rw [hi] at hge
    by_cases hi0 : i < 0
    · obtain rfl : i = -1 := by omega
      have HI1 := Lib.hid hi
      clear hi hge hi0
      have hT : Hid (partsL t.data.toList = [t.data.toList]) := parts_none _ HI1.out
      obtain ⟨fn, tmps, assign, body, hy, hR⟩ := HY.out pre ⟨t, ht⟩ _ HJ.out (pre_parts HL.out hs (by rw [hT.out]; simp))
      dsimp only at hy
      gi_wp2_with ((refine ⟨trivial, ?_⟩; gi_at_call 107; refine (callsIn_wide.2 HI.out).mono ?_; rintro e w1 ⟨rfl, rfl⟩))
      refine hR.mono ?_
      rintro e W3 (⟨rfl, hJ3, hk3⟩ | ⟨rfl, hJx3⟩)
      · clear hy hR hk3
        gi_wp2
        go_end0
        exact ⟨⟨_, rfl⟩, .inl ⟨pre ++ [(⟨t, ht⟩ : Txt)], by have h1 := HL.out; rw [hT.out] at h1; rw [← h1]; simp, hJ3⟩⟩
      · clear hy hR
        gi_wp2
        go_end0
        exact ⟨⟨_, rfl⟩, .inr ⟨pre ++ [(⟨t, ht⟩ : Txt)], trivial, hJx3⟩⟩
    · obtain ⟨k, rfl⟩ : ∃ k : Nat, i = k := ⟨i.toNat, by omega⟩
      have HI1 := Lib.hid hi
      clear hi hge hi0
      have hk : k + 2 ≤ t.size := by rw [size_list]; exact idx2_lt HI1.out
      have f1 := HS.out.str.free
      have hA : Hid ((t.extract 0 k).data.toList = t.data.toList.take k) := by show _ = _; rw [Lib.extract_data]; rfl
      have hB2 : Hid ((t.extract (k + 2) t.size).data.toList = t.data.toList.drop (k + 2)) := by
        show _ = _
        rw [Lib.extract_data, List.take_of_length_le (by rw [List.length_drop, ← size_list]; exact Nat.le_refl _)]
      have hT : Hid (partsL t.data.toList = (t.extract 0 k).data.toList :: partsL (t.extract (k + 2) t.size).data.toList) := by
        show _ = _
        rw [hA.out, hB2.out]; exact parts_some _ k HI1.out
      have hz : Hid ((t.extract (k + 2) t.size).size = t.size - (k + 2)) := by show _ = _; rw [size_list, hB2.out, List.length_drop, ← size_list]
      obtain ⟨fn, tmps, assign, body, hy, hR⟩ := HY.out pre ⟨t.extract 0 k, ext_sz ht _ _⟩ _ HJ.out (pre_parts HL.out hs (by rw [hT.out]; simp))
      dsimp only at hy
      gi_wp2_with ((refine ⟨trivial, ?_⟩; gi_at_call 107; refine (callsIn_wide.2 HI.out).mono ?_; rintro e w1 ⟨rfl, rfl⟩))
      refine hR.mono ?_
      rintro e W3 (⟨rfl, hJ3, hk3⟩ | ⟨rfl, hJx3⟩)
      · have HS3 := Lib.hid (HS.out.same hk3)
        have d1 := HS3.out.str.cell
        have d2 := HS3.out.sep.cell
        have d3 := HS3.out.str.free
        have HS4 : Hid (SplitAt Bs (t.extract (k + 2) t.size) (W3.setCell ⟨Bs, 0, none⟩ (.string (t.extract (k + 2) t.size)))) := HS3.out.put HG.out _
        have HJ4 : Hid (J (pre ++ [(⟨t.extract 0 k, ext_sz ht _ _⟩ : Txt)]) (W3.setCell ⟨Bs, 0, none⟩ (.string (t.extract (k + 2) t.size)))) := BJ.out _ _ _ hJ3 (put_grown _ _ _)
        clear hy hR hk3 hJ3
        gi_wp2
        go_roundw
        case rel => exact ⟨pre ++ [(⟨t.extract 0 k, ext_sz ht _ _⟩ : Txt)], t.extract (k + 2) t.size, by rw [hz.out]; omega, HS4.out, lineq (by have h1 := HL.out; rw [hT.out] at h1; exact h1), HJ4.out⟩
        case measure => rw [HS4.out.str.left, HS.out.str.left, hz.out]; omega
      · clear hy hR
        gi_wp2
        refine bodyPost_ret (results_none rfl _ _ _) rfl ?_
        exact ⟨⟨_, rfl⟩, .inr ⟨pre ++ [(⟨t.extract 0 k, ext_sz ht _ _⟩ : Txt)], trivial, hJx3⟩⟩
end Go.Proofs.YtfmjeggomphliaaGreatDoor.Rf
