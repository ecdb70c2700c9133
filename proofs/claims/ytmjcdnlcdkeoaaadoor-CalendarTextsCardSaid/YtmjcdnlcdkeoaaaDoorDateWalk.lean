/- Walks: a date's text, whatever its numbers; a text read as a date. -/
import Derived.Test.YtmjcdnlcdkeoaaaDoorCalTextMath
import Derived.Test.YtmjcdnlcdkeoaaaDoorMinutesWalk
import Derived.Test.YtmjcdnlcdkeoaaaDoorAtoi
import Derived.Test.YtmjcdnlcdkeoaaaDoorBox
set_option linter.unusedVariables false
set_option linter.unusedSimpArgs false
namespace Go.Proofs.YtmjcdnlcdkeoaaaDoor.Cal
open Go.RowKit Go Ba

theorem show_six (y m d h i k : Int) (w : World) (hE : Env w) :
    Calls Tryd.prog 22 #[.agg #[.int .i64 y, .int .i64 m, .int .i64 d, .int .i64 h, .int .i64 i, .int .i64 k]] w fun e w' => e = .returned (.string ⟨(showT y m d h i k).toArray⟩) ∧ Below w.heap.size w w' := by
  by_cases g : Right y m d h i k
  · rw [showT_eq g]
    exact show_ok y m d h i k (mn y m d h i) w g.1 hE (fun W hL => minutes_ok y m d h i k W g.1 g.2.1 g.2.2 hL)
  · have e : showT y m d h i k = [] := if_neg g
    rw [e]
    exact show_bad y m d h i k w hE.len (minErr_of g)

/-- A number that is the text's, if the text is a number's. -/
def NumOf (l : List UInt8) (n : Int) : Prop := ∀ v, Lib.atoiAll l = .ok v → n = v
def GivesNum (l : List UInt8) (w : World) (e : Ending) (w' : World) : Prop := ∃ (n : Int) (er : Value), e = .returned (.tuple #[.int .i64 n, er]) ∧ NumOf l n ∧ Below w.heap.size w w'
theorem atoi_one (s : ByteArray) (l : List UInt8) (hl : s.data.toList = l) (hs : s.size ≤ 100) (w : World) (hR : Errs w) : Calls Tryd.prog 29 #[.string s] w (GivesNum l w) := by
  subst hl
  by_cases h : ∃ v, Lib.atoiAll s.data.toList = .ok v
  · obtain ⟨v, hv⟩ := h
    exact (atoi_yes s (by omega) v hv w).mono fun e w' ⟨he, hb⟩ => ⟨v, _, he, fun v' hv' => by rw [hv] at hv'; injection hv', hb⟩
  · exact (atoi_no s (by omega) (fun v hv => h ⟨v, hv⟩) w hR).mono fun e w' ⟨n, N, he, hb⟩ => ⟨n, _, he, fun v hv => absurd ⟨v, hv⟩ h, hb⟩
theorem piece (s : ByteArray) (a b : Nat) : (s.extract a b).data.toList = (s.data.toList.take b).drop a := by
  rw [Lib.extract_data, ← List.drop_take]
def zeroD : Value := .agg #[.int .i64 0, .int .i64 0, .int .i64 0, .int .i64 0, .int .i64 0, .int .i64 0]
/-- What a text is read as. -/
def ParsedD (l : List UInt8) (w : World) (e : Ending) (w' : World) : Prop := Below w.heap.size w w' ∧
  ((∃ y m d h i k : Int, Right y m d h i k ∧ text y m d h i = l ∧ e = .returned (.tuple #[.agg #[.int .i64 y, .int .i64 m, .int .i64 d, .int .i64 h, .int .i64 i, .int .i64 k], .int .i64 0])) ∨
   (e = .returned (.tuple #[zeroD, .int .i64 20]) ∧ ∀ y m d h i k : Int, Right y m d h i k → text y m d h i ≠ l))

theorem at0 (w : World) : (Instr.index 49 (.agg #[.int .i64 0, .int .i64 4, .int .i64 5, .int .i64 7, .int .i64 8, .int .i64 10, .int .i64 11, .int .i64 13, .int .i64 14, .int .i64 16]) (.int .i64 0)).run Tryd.prog w = .ok (.agg #[.int .i64 0, .int .i64 4]) w := by kernel_rfl
theorem at1 (w : World) : (Instr.index 49 (.agg #[.int .i64 0, .int .i64 4, .int .i64 5, .int .i64 7, .int .i64 8, .int .i64 10, .int .i64 11, .int .i64 13, .int .i64 14, .int .i64 16]) (.int .i64 1)).run Tryd.prog w = .ok (.agg #[.int .i64 5, .int .i64 7]) w := by kernel_rfl
theorem at2 (w : World) : (Instr.index 49 (.agg #[.int .i64 0, .int .i64 4, .int .i64 5, .int .i64 7, .int .i64 8, .int .i64 10, .int .i64 11, .int .i64 13, .int .i64 14, .int .i64 16]) (.int .i64 2)).run Tryd.prog w = .ok (.agg #[.int .i64 8, .int .i64 10]) w := by kernel_rfl
theorem at3 (w : World) : (Instr.index 49 (.agg #[.int .i64 0, .int .i64 4, .int .i64 5, .int .i64 7, .int .i64 8, .int .i64 10, .int .i64 11, .int .i64 13, .int .i64 14, .int .i64 16]) (.int .i64 3)).run Tryd.prog w = .ok (.agg #[.int .i64 11, .int .i64 13]) w := by kernel_rfl
theorem at4 (w : World) : (Instr.index 49 (.agg #[.int .i64 0, .int .i64 4, .int .i64 5, .int .i64 7, .int .i64 8, .int .i64 10, .int .i64 11, .int .i64 13, .int .i64 14, .int .i64 16]) (.int .i64 4)).run Tryd.prog w = .ok (.agg #[.int .i64 14, .int .i64 16]) w := by kernel_rfl
set_option maxHeartbeats 800000 in
theorem parse_short (s : ByteArray) (w : World) (hs : s.size ≠ 16) : Calls Tryd.prog 23 #[.string s] w (ParsedD s.data.toList w) := by
  have hne : ((s.size : Int) != 16) = true := by simp; omega
  have HN : Hid (∀ y m d h i k : Int, Right y m d h i k → text y m d h i ≠ s.data.toList) := fun y m d h i k r e => hs (by rw [size_list, ← e]; exact text_len r)
  clear hs
  go_enter Tryd.func23, Tryd.ntmps23
  go_wp2_with fail
  exact bodyPost_ret (v := .tuple #[zeroD, .int .i64 20]) (by simp [results, Tryd.results23, go_sem, zeroD]) rfl ⟨by go_grown, .inr ⟨rfl, HN.out⟩⟩

/-- What a box of six gives the walk. -/
theorem six {W : World} {B : Nat} {a b c d e f : Value} (h : Box W B [a, b, c, d, e, f]) : W.cell? ⟨B, 0, none⟩ = some a ∧ W.cell? ⟨B, 1, none⟩ = some b ∧ W.cell? ⟨B, 2, none⟩ = some c ∧ W.cell? ⟨B, 3, none⟩ = some d ∧ W.cell? ⟨B, 4, none⟩ = some e ∧ W.cell? ⟨B, 5, none⟩ = some f ∧ W.frozen? ⟨B, 0, none⟩ = false ∧ W.frozen? ⟨B, 1, none⟩ = false ∧ W.frozen? ⟨B, 2, none⟩ = false ∧ W.frozen? ⟨B, 3, none⟩ = false ∧ W.frozen? ⟨B, 4, none⟩ = false ∧ W.frozen? ⟨B, 5, none⟩ = false :=
  ⟨h.cl 0 _ rfl, h.cl 1 _ rfl, h.cl 2 _ rfl, h.cl 3 _ rfl, h.cl 4 _ rfl, h.cl 5 _ rfl, h.fr 0 (by simp), h.fr 1 (by simp), h.fr 2 (by simp), h.fr 3 (by simp), h.fr 4 (by simp), h.fr 5 (by simp)⟩
theorem five {W : World} {B : Nat} {a b c d e : Value} (h : Box W B [a, b, c, d, e]) : W.cell? ⟨B, 0, none⟩ = some a ∧ W.cell? ⟨B, 1, none⟩ = some b ∧ W.cell? ⟨B, 2, none⟩ = some c ∧ W.cell? ⟨B, 3, none⟩ = some d ∧ W.cell? ⟨B, 4, none⟩ = some e ∧ W.frozen? ⟨B, 0, none⟩ = false ∧ W.frozen? ⟨B, 1, none⟩ = false ∧ W.frozen? ⟨B, 2, none⟩ = false ∧ W.frozen? ⟨B, 3, none⟩ = false ∧ W.frozen? ⟨B, 4, none⟩ = false :=
  ⟨h.cl 0 _ rfl, h.cl 1 _ rfl, h.cl 2 _ rfl, h.cl 3 _ rfl, h.cl 4 _ rfl, h.fr 0 (by simp), h.fr 1 (by simp), h.fr 2 (by simp), h.fr 3 (by simp), h.fr 4 (by simp)⟩
theorem put6 {W : World} {B : Nat} {a b c d e f : Value} (h : Box W B [a, b, c, d, e, f]) (a' b' c' d' e' f' : Value) :
    Box ((((((W.setCell ⟨B, 0, none⟩ a').setCell ⟨B, 1, none⟩ b').setCell ⟨B, 2, none⟩ c').setCell ⟨B, 3, none⟩ d').setCell ⟨B, 4, none⟩ e').setCell ⟨B, 5, none⟩ f') B [a', b', c', d', e', f'] := ((((((h.put 0 a').put 1 b').put 2 c').put 3 d').put 4 e').put 5 f')
theorem bput6 {W w : World} {B C : Nat} (h : Below B w W) (hC : B ≤ C) (a' b' c' d' e' f' : Value) :
    Below B w ((((((W.setCell ⟨C, 0, none⟩ a').setCell ⟨C, 1, none⟩ b').setCell ⟨C, 2, none⟩ c').setCell ⟨C, 3, none⟩ d').setCell ⟨C, 4, none⟩ e').setCell ⟨C, 5, none⟩ f') :=
  (((((h.setCell hC _).setCell hC _).setCell hC _).setCell hC _).setCell hC _).setCell hC _
def NoneYet (n0 n1 n2 n3 n4 : Int) (l : List UInt8) (k : Nat) : Prop := ∀ j : Nat, j < k → showT n0 n1 n2 n3 n4 (j : Int) ≠ l
theorem none_snoc {n0 n1 n2 n3 n4 : Int} {l : List UInt8} {k : Nat} (h : NoneYet n0 n1 n2 n3 n4 l k) (hk : showT n0 n1 n2 n3 n4 (k : Int) ≠ l) : NoneYet n0 n1 n2 n3 n4 l (k + 1) := fun j hj => by
  by_cases e : j = k
  · subst e; exact hk
  · exact h j (by omega)
theorem none_all {n0 n1 n2 n3 n4 : Int} {l : List UInt8} (h : NoneYet n0 n1 n2 n3 n4 l 7)
    (h0 : NumOf ((l.take 4).drop 0) n0) (h1 : NumOf ((l.take 7).drop 5) n1) (h2 : NumOf ((l.take 10).drop 8) n2) (h3 : NumOf ((l.take 13).drop 11) n3) (h4 : NumOf ((l.take 16).drop 14) n4) :
    ∀ y m d h i k : Int, Right y m d h i k → text y m d h i ≠ l := by
  intro y m d hh i k r e
  subst e
  obtain ⟨a0, a1, a2, a3, a4⟩ := text_read r
  obtain rfl := h0 _ a0
  obtain rfl := h1 _ a1
  obtain rfl := h2 _ a2
  obtain rfl := h3 _ a3
  obtain rfl := h4 _ a4
  have hk := r.k
  obtain ⟨j, rfl⟩ : ∃ j : Nat, k = j := ⟨k.toNat, by omega⟩
  exact h j (by omega) (showT_eq r)
set_option maxHeartbeats 3200000 in
theorem parse_long (s : ByteArray) (w : World) (hs : s.size = 16) (hE : Env w) (hR : Errs w) : Calls Tryd.prog 23 #[.string s] w (ParsedD s.data.toList w) := by
  have HE := Lib.hid hE
  have HRR := Lib.hid hR
  have hne : ((s.size : Int) != 16) = false := by simp; omega
  have h1 : 16 ≤ s.size := by omega
  have h2 : s.size ≤ 16 := by omega
  clear hE hR hs
  go_enter Tryd.func23, Tryd.ntmps23
  go_wp2_with fail
  have R := (Box.new w [.int .i64 0, .int .i64 0, .int .i64 0, .int .i64 0, .int .i64 0, .int .i64 0] 23).alloc (.cells #[.int .i64 0, .int .i64 0, .int .i64 0, .int .i64 0, .int .i64 0] 47)
  have V := Box.new (w.alloc (.cells #[.int .i64 0, .int .i64 0, .int .i64 0, .int .i64 0, .int .i64 0, .int .i64 0] 23)) [.int .i64 0, .int .i64 0, .int .i64 0, .int .i64 0, .int .i64 0] 47
  have bw : Below w.heap.size w ((w.alloc (.cells #[.int .i64 0, .int .i64 0, .int .i64 0, .int .i64 0, .int .i64 0, .int .i64 0] 23)).alloc (.cells #[.int .i64 0, .int .i64 0, .int .i64 0, .int .i64 0, .int .i64 0] 47)) := by go_grown
  simp only [World.size_alloc] at V
  generalize ((w.alloc (.cells #[.int .i64 0, .int .i64 0, .int .i64 0, .int .i64 0, .int .i64 0, .int .i64 0] 23)).alloc (.cells #[.int .i64 0, .int .i64 0, .int .i64 0, .int .i64 0, .int .i64 0] 47)) = W0 at *
  refine wp_loop_rounds 6 ?_
  rw [rounds_succ]
  have ha := at0
  go_wp2_with fail
  clear ha
  have R := R.alloc (.cells #[.int .i64 0, .int .i64 4] 48)
  have V := V.alloc (.cells #[.int .i64 0, .int .i64 4] 48)
  have bw := bw.alloc (by have := R.lt; simp at this; have := bw.size; omega) (.cells #[.int .i64 0, .int .i64 4] 48)
  refine (atoi_one _ _ (piece s 0 4) (by simp [ByteArray.size_extract]; omega) _ (HRR.out.below bw)).mono ?_
  rintro e w0 ⟨n0, er0, rfl, hN, hb⟩
  have HN0 := Lib.hid hN
  have R := R.next hb
  have V := V.next hb
  have bw := two bw hb
  clear hN hb
  obtain ⟨v0, v1, v2, v3, v4, g0, g1, g2, g3, g4⟩ := five V
  have V' := V.put 0 (.int .i64 n0)
  have R' := R.other (C := w.heap.size + 1) (by omega) 0 (.int .i64 n0)
  have bw' := bw.setCell (p := ⟨w.heap.size + 1, 0, none⟩) (by simp) (.int .i64 n0)
  have V' : Box (w0.setCell ⟨w.heap.size + 1, 0, none⟩ (.int .i64 n0)) (w.heap.size + 1) [.int .i64 n0, .int .i64 0, .int .i64 0, .int .i64 0, .int .i64 0] := V'
  go_wp2_with fail
  clear v0 v1 v2 v3 v4 g0 g1 g2 g3 g4
  generalize w0.setCell ⟨w.heap.size + 1, 0, none⟩ (.int .i64 n0) = W1 at R' V' bw' ⊢
  clear R V bw
  have R := R'
  have V := V'
  have bw := bw'
  clear R' V' bw'
  rw [rounds_succ]
  have ha := at1
  go_wp2_with fail
  clear ha
  have R := R.alloc (.cells #[.int .i64 5, .int .i64 7] 48)
  have V := V.alloc (.cells #[.int .i64 5, .int .i64 7] 48)
  have bw := bw.alloc (by have := R.lt; simp at this; have := bw.size; omega) (.cells #[.int .i64 5, .int .i64 7] 48)
  refine (atoi_one _ _ (piece s 5 7) (by simp [ByteArray.size_extract]; omega) _ (HRR.out.below bw)).mono ?_
  rintro e w1 ⟨n1, er1, rfl, hN, hb⟩
  have HN1 := Lib.hid hN
  have R := R.next hb
  have V := V.next hb
  have bw := two bw hb
  clear hN hb
  obtain ⟨v0, v1, v2, v3, v4, g0, g1, g2, g3, g4⟩ := five V
  have V' := V.put 1 (.int .i64 n1)
  have R' := R.other (C := w.heap.size + 1) (by omega) 1 (.int .i64 n1)
  have bw' := bw.setCell (p := ⟨w.heap.size + 1, 1, none⟩) (by simp) (.int .i64 n1)
  have V' : Box (w1.setCell ⟨w.heap.size + 1, 1, none⟩ (.int .i64 n1)) (w.heap.size + 1) [.int .i64 n0, .int .i64 n1, .int .i64 0, .int .i64 0, .int .i64 0] := V'
  go_wp2_with fail
  clear v0 v1 v2 v3 v4 g0 g1 g2 g3 g4
  generalize w1.setCell ⟨w.heap.size + 1, 1, none⟩ (.int .i64 n1) = W2 at R' V' bw' ⊢
  clear R V bw
  have R := R'
  have V := V'
  have bw := bw'
  clear R' V' bw'
  rw [rounds_succ]
  have ha := at2
  go_wp2_with fail
  clear ha
  have R := R.alloc (.cells #[.int .i64 8, .int .i64 10] 48)
  have V := V.alloc (.cells #[.int .i64 8, .int .i64 10] 48)
  have bw := bw.alloc (by have := R.lt; simp at this; have := bw.size; omega) (.cells #[.int .i64 8, .int .i64 10] 48)
  refine (atoi_one _ _ (piece s 8 10) (by simp [ByteArray.size_extract]; omega) _ (HRR.out.below bw)).mono ?_
  rintro e w2 ⟨n2, er2, rfl, hN, hb⟩
  have HN2 := Lib.hid hN
  have R := R.next hb
  have V := V.next hb
  have bw := two bw hb
  clear hN hb
  obtain ⟨v0, v1, v2, v3, v4, g0, g1, g2, g3, g4⟩ := five V
  have V' := V.put 2 (.int .i64 n2)
  have R' := R.other (C := w.heap.size + 1) (by omega) 2 (.int .i64 n2)
  have bw' := bw.setCell (p := ⟨w.heap.size + 1, 2, none⟩) (by simp) (.int .i64 n2)
  have V' : Box (w2.setCell ⟨w.heap.size + 1, 2, none⟩ (.int .i64 n2)) (w.heap.size + 1) [.int .i64 n0, .int .i64 n1, .int .i64 n2, .int .i64 0, .int .i64 0] := V'
  go_wp2_with fail
  clear v0 v1 v2 v3 v4 g0 g1 g2 g3 g4
  generalize w2.setCell ⟨w.heap.size + 1, 2, none⟩ (.int .i64 n2) = W3 at R' V' bw' ⊢
  clear R V bw
  have R := R'
  have V := V'
  have bw := bw'
  clear R' V' bw'
  rw [rounds_succ]
  have ha := at3
  go_wp2_with fail
  clear ha
  have R := R.alloc (.cells #[.int .i64 11, .int .i64 13] 48)
  have V := V.alloc (.cells #[.int .i64 11, .int .i64 13] 48)
  have bw := bw.alloc (by have := R.lt; simp at this; have := bw.size; omega) (.cells #[.int .i64 11, .int .i64 13] 48)
  refine (atoi_one _ _ (piece s 11 13) (by simp [ByteArray.size_extract]; omega) _ (HRR.out.below bw)).mono ?_
  rintro e w3 ⟨n3, er3, rfl, hN, hb⟩
  have HN3 := Lib.hid hN
  have R := R.next hb
  have V := V.next hb
  have bw := two bw hb
  clear hN hb
  obtain ⟨v0, v1, v2, v3, v4, g0, g1, g2, g3, g4⟩ := five V
  have V' := V.put 3 (.int .i64 n3)
  have R' := R.other (C := w.heap.size + 1) (by omega) 3 (.int .i64 n3)
  have bw' := bw.setCell (p := ⟨w.heap.size + 1, 3, none⟩) (by simp) (.int .i64 n3)
  have V' : Box (w3.setCell ⟨w.heap.size + 1, 3, none⟩ (.int .i64 n3)) (w.heap.size + 1) [.int .i64 n0, .int .i64 n1, .int .i64 n2, .int .i64 n3, .int .i64 0] := V'
  go_wp2_with fail
  clear v0 v1 v2 v3 v4 g0 g1 g2 g3 g4
  generalize w3.setCell ⟨w.heap.size + 1, 3, none⟩ (.int .i64 n3) = W4 at R' V' bw' ⊢
  clear R V bw
  have R := R'
  have V := V'
  have bw := bw'
  clear R' V' bw'
  rw [rounds_succ]
  have ha := at4
  go_wp2_with fail
  clear ha
  have R := R.alloc (.cells #[.int .i64 14, .int .i64 16] 48)
  have V := V.alloc (.cells #[.int .i64 14, .int .i64 16] 48)
  have bw := bw.alloc (by have := R.lt; simp at this; have := bw.size; omega) (.cells #[.int .i64 14, .int .i64 16] 48)
  refine (atoi_one _ _ (piece s 14 16) (by simp [ByteArray.size_extract]; omega) _ (HRR.out.below bw)).mono ?_
  rintro e w4 ⟨n4, er4, rfl, hN, hb⟩
  have HN4 := Lib.hid hN
  have R := R.next hb
  have V := V.next hb
  have bw := two bw hb
  clear hN hb
  obtain ⟨v0, v1, v2, v3, v4, g0, g1, g2, g3, g4⟩ := five V
  have V' := V.put 4 (.int .i64 n4)
  have R' := R.other (C := w.heap.size + 1) (by omega) 4 (.int .i64 n4)
  have bw' := bw.setCell (p := ⟨w.heap.size + 1, 4, none⟩) (by simp) (.int .i64 n4)
  have V' : Box (w4.setCell ⟨w.heap.size + 1, 4, none⟩ (.int .i64 n4)) (w.heap.size + 1) [.int .i64 n0, .int .i64 n1, .int .i64 n2, .int .i64 n3, .int .i64 n4] := V'
  go_wp2_with fail
  clear v0 v1 v2 v3 v4 g0 g1 g2 g3 g4
  generalize w4.setCell ⟨w.heap.size + 1, 4, none⟩ (.int .i64 n4) = W5 at R' V' bw' ⊢
  clear R V bw
  have R := R'
  have V := V'
  have bw := bw'
  clear R' V' bw'
  rw [rounds_succ]
  go_wp2_with fail
  go_loopw [36] (fun c wr => ∃ k : Nat, k ≤ 7 ∧ c = .int .i64 k ∧ Box wr w.heap.size [.int .i64 0, .int .i64 0, .int .i64 0, .int .i64 0, .int .i64 0, .int .i64 0] ∧ Box wr (w.heap.size + 1) [.int .i64 n0, .int .i64 n1, .int .i64 n2, .int .i64 n3, .int .i64 n4] ∧ Below w.heap.size w wr ∧ NoneYet n0 n1 n2 n3 n4 s.data.toList k) (fun c _ => 7 - (intOf c).toNat)
  case atStart => exact ⟨0, by omega, rfl, R, V, bw, fun j hj => by omega⟩
  case round =>
    clear R V bw
    obtain ⟨k, hk, rfl, R, V, bw, hno⟩ := hrel
    have HNO := Lib.hid hno
    clear hno
    by_cases hlt : k < 7
    · obtain ⟨v0, v1, v2, v3, v4, g0, g1, g2, g3, g4⟩ := five V
      have D := Box.new wr [.int .i64 n0, .int .i64 n1, .int .i64 n2, .int .i64 n3, .int .i64 n4, .int .i64 k] 23
      have R := R.alloc (.cells #[.int .i64 n0, .int .i64 n1, .int .i64 n2, .int .i64 n3, .int .i64 n4, .int .i64 k] 23)
      have V := V.alloc (.cells #[.int .i64 n0, .int .i64 n1, .int .i64 n2, .int .i64 n3, .int .i64 n4, .int .i64 k] 23)
      have bw := bw.alloc bw.size (.cells #[.int .i64 n0, .int .i64 n1, .int .i64 n2, .int .i64 n3, .int .i64 n4, .int .i64 k] 23)
      go_wp2_with fail
      clear v0 v1 v2 v3 v4 g0 g1 g2 g3 g4
      refine (show_six n0 n1 n2 n3 n4 (k : Int) _ (HE.out.below bw)).mono ?_
      rintro e w6 ⟨rfl, hb⟩
      have R := R.next hb
      have V := V.next hb
      have D := D.next hb
      have bw := two bw hb
      clear hb
      obtain ⟨v0, v1, v2, v3, v4, g0, g1, g2, g3, g4⟩ := five V
      obtain ⟨d0, d1, d2, d3, d4, d5, f0, f1, f2, f3, f4, f5⟩ := six D
      obtain ⟨r0, r1, r2, r3, r4, r5, q0, q1, q2, q3, q4, q5⟩ := six R
      by_cases heq : showT n0 n1 n2 n3 n4 (k : Int) = s.data.toList
      · have HEQ := Lib.hid heq
        have hsh : (showT n0 n1 n2 n3 n4 (k : Int) == s.toList) = true := by rw [Lib.toList_data, heq]; simp
        have HSZ : Hid (s.data.toList ≠ []) := by
          show s.data.toList ≠ []
          intro hx
          rw [size_list, hx] at h1; simp at h1
        have R' := put6 R (.int .i64 n0) (.int .i64 n1) (.int .i64 n2) (.int .i64 n3) (.int .i64 n4) (.int .i64 k)
        have bw' := bput6 bw (Nat.le_refl _) (.int .i64 n0) (.int .i64 n1) (.int .i64 n2) (.int .i64 n3) (.int .i64 n4) (.int .i64 k)
        clear heq
        go_wp2_with fail
        clear r0 r1 r2 r3 r4 r5 q0 q1 q2 q3 q4 q5 v0 v1 v2 v3 v4 g0 g1 g2 g3 g4 d0 d1 d2 d3 d4 d5 f0 f1 f2 f3 f4 f5 hsh
        generalize ((((((w6.setCell ⟨w.heap.size, 0, none⟩ (.int .i64 n0)).setCell ⟨w.heap.size, 1, none⟩ (.int .i64 n1)).setCell ⟨w.heap.size, 2, none⟩ (.int .i64 n2)).setCell ⟨w.heap.size, 3, none⟩ (.int .i64 n3)).setCell ⟨w.heap.size, 4, none⟩ (.int .i64 n4)).setCell ⟨w.heap.size, 5, none⟩ (.int .i64 (k : Int))) = w7 at R' bw' ⊢
        obtain ⟨r0, r1, r2, r3, r4, r5, q0, q1, q2, q3, q4, q5⟩ := six R'
        try simp only [Exit.inBlock, Exit.then]
        refine bodyPost_ret (by simp [results, Tryd.results23, go_sem, r0, r1, r2, r3, r4, r5]; try rfl) rfl ?_
        have hr := right_of HSZ.out HEQ.out
        exact ⟨bw', .inl ⟨n0, n1, n2, n3, n4, (k : Int), hr.1, hr.2, rfl⟩⟩
      · have HEQ : Hid (NoneYet n0 n1 n2 n3 n4 s.data.toList (k + 1)) := none_snoc HNO.out heq
        have hsh : (showT n0 n1 n2 n3 n4 (k : Int) == s.toList) = false := by rw [Lib.toList_data, beq_eq_false_iff_ne]; exact heq
        clear heq
        go_wp2_with fail
        go_roundw
        case rel => exact ⟨k + 1, by omega, by go_num, R, V, bw, HEQ.out⟩
        case measure => simp [intOf]; omega
    · obtain rfl : k = 7 := by omega
      obtain ⟨r0, r1, r2, r3, r4, r5, q0, q1, q2, q3, q4, q5⟩ := six R
      have R' := put6 R (.int .i64 0) (.int .i64 0) (.int .i64 0) (.int .i64 0) (.int .i64 0) (.int .i64 0)
      have bw' := bput6 bw (Nat.le_refl _) (.int .i64 0) (.int .i64 0) (.int .i64 0) (.int .i64 0) (.int .i64 0) (.int .i64 0)
      go_wp2_with fail
      clear r0 r1 r2 r3 r4 r5 q0 q1 q2 q3 q4 q5
      generalize ((((((wr.setCell ⟨w.heap.size, 0, none⟩ (.int .i64 0)).setCell ⟨w.heap.size, 1, none⟩ (.int .i64 0)).setCell ⟨w.heap.size, 2, none⟩ (.int .i64 0)).setCell ⟨w.heap.size, 3, none⟩ (.int .i64 0)).setCell ⟨w.heap.size, 4, none⟩ (.int .i64 0)).setCell ⟨w.heap.size, 5, none⟩ (.int .i64 0)) = w7 at R' bw' ⊢
      obtain ⟨r0, r1, r2, r3, r4, r5, q0, q1, q2, q3, q4, q5⟩ := six R'
      try simp only [Exit.inBlock, Exit.then]
      refine bodyPost_ret (v := .tuple #[zeroD, .int .i64 20]) (by simp [results, Tryd.results23, go_sem, r0, r1, r2, r3, r4, r5, zeroD]) rfl ?_
      exact ⟨bw', .inr ⟨rfl, none_all HNO.out HN0.out HN1.out HN2.out HN3.out HN4.out⟩⟩
theorem parse_date (s : ByteArray) (w : World) (hE : Env w) (hR : Errs w) : Calls Tryd.prog 23 #[.string s] w (ParsedD s.data.toList w) := by
  by_cases hs : s.size = 16
  · exact parse_long s w hs hE hR
  · exact parse_short s w hs
end Go.Proofs.YtmjcdnlcdkeoaaaDoor.Cal
