/- Scheme.Within, and the law SchemeWithin. -/
import Derived.Test.YtkapkfddbdgmoaaDoorSchDelete
set_option linter.unusedVariables false
set_option linter.unusedSimpArgs false
namespace Go.Proofs.YtkapkfddbdgmoaaDoor.Wi
open Go.RowKit Go Go.Sort Ba Sc
open Cal hiding ret_int ret_bool lt_of_cell

/-- Does a partition lie within a stretch? -/
def inB (k a b x : Int) : Bool := decide (k ≠ 5 ∧ a ≤ startV k x ∧ startV k (x + 1) ≤ b)
/-- The partitions within a stretch. -/
def inL (k f l a b : Int) : List Int := (partsL f (l - f + 1).toNat).filter (inB k a b)
/-- A row of the call's own: its head, its cells. -/
theorem own_box {w : World} {base : Nat} {v : Value} {L : List Int} (h : w.ownsRow base 3 1 v L.length (L.map (Value.int .i64))) (hpos : 0 < L.length) :
    ∃ g cap, v = .slice (some ⟨g, 0, none⟩) L.length cap ∧ base ≤ g ∧ L.length ≤ cap ∧ cap ≤ maxLen ∧ Box w g (L.map (Value.int .i64)) := by
  have h' := h
  obtain ⟨h1, h2⟩ := h
  rcases h2 with ⟨_, h2⟩ | ⟨g, cap, cur, rfl, hg, hh, hc, hm, r⟩
  · omega
  · refine ⟨g, cap, rfl, hg, hc, hm, ⟨(h'.lt g rfl).2, fun i u hu => ?_, fun i _ => h'.frozenAt i⟩⟩
    have hi : i < L.length := by
      have := (List.getElem?_eq_some_iff.1 hu).1
      simpa using this
    rw [h'.cellAt i (by omega)]; exact hu
set_option maxRecDepth 20000 in
set_option maxHeartbeats 1600000 in
theorem within_is (k f l a b : Int) (w : World) (hL : Len w) (hr : rightS k f l = true) :
    Calls Tryd.prog 28 #[.agg #[.int .i64 k, .int .i64 f, .int .i64 l], .int .i64 a, .int .i64 b] w (Told (inL k f l a b) w) := by
  obtain ⟨k1, k5, f0, fl, lf, _, lfar, lend⟩ := rs_iff hr
  have bw : Below w.heap.size w (((w.alloc (.cells #[.int .i64 k, .int .i64 f, .int .i64 l] 23)).alloc (.cells #[.int .i64 a] 3)).alloc (.cells #[.int .i64 b] 3)) := by go_grown
  have S := ((Box.new w [.int .i64 k, .int .i64 f, .int .i64 l] 23).alloc (.cells #[.int .i64 a] 3)).alloc (.cells #[.int .i64 b] 3)
  have A := (Box.new (w.alloc (.cells #[.int .i64 k, .int .i64 f, .int .i64 l] 23)) [.int .i64 a] 3).alloc (.cells #[.int .i64 b] 3)
  have B := Box.new ((w.alloc (.cells #[.int .i64 k, .int .i64 f, .int .i64 l] 23)).alloc (.cells #[.int .i64 a] 3)) [.int .i64 b] 3
  simp only [World.size_alloc] at A B
  have HL := Lib.hid hL
  clear hL hr lend
  by_cases h5 : k = 5
  · subst h5
    have HB : Hid (inL 5 f l a b = []) := filt_none _ _ fun x _ _ => decide_eq_false (fun h => h.1 rfl)
    go_enter Tryd.func28, Tryd.ntmps28
    go_wp2_with fail
    go_ret
    exact told_nil HB.out bw
  have e5 : (k == 5) = false := by simpa using h5
  have H5 := Lib.hid h5
  obtain ⟨m, hm⟩ : ∃ m : Nat, (l - f + 1).toNat = m := ⟨_, rfl⟩
  have m0 : 0 < m := by omega
  have m1 : f + (m : Int) ≤ 2147483648 := by omega
  have HM := Lib.hid hm
  have hP := fun W => parts_is k f l W f0 fl lf (by omega)
  rw [hm] at hP
  have HP := Lib.hid hP
  clear h5 hm hP
  obtain ⟨x0, x1, x2, _, _, _⟩ := S.three
  go_enter Tryd.func28, Tryd.ntmps28
  go_wp2_with fail
  refine (HP.out _).mono ?_
  rintro e w1 ⟨v, rfl, hown, hb⟩
  obtain ⟨g, cap, rfl, hg, hcap, hcm, G⟩ := own_box hown (by rw [parts_len]; exact m0)
  rw [parts_len] at hcap ⊢
  simp only [World.size_alloc] at hg
  have bw := two bw hb
  have T : Three w1 w.heap.size (w.heap.size + 1) (w.heap.size + 1 + 1) k f l a b := ⟨S.next hb, A.next hb, B.next hb, Len.below HL.out bw⟩
  have HT := Lib.hid T
  have HG := Lib.hid G
  have HBW := Lib.hid bw
  clear hown hb x0 x1 x2 T G bw
  go_wp2_with fail
  refine (delete_is k f l a b m cap (inB k a b) g _ _ _ w w1 HT.out HG.out f0 m1 hcap hcm HL.out HBW.out (by omega) (by omega) (by omega) (by omega) (fun t _ => by
    unfold inB
    rw [Bool.eq_iff_iff]
    have := H5.out
    simp only [decide_eq_true_eq, Bool.not_eq_true', decide_eq_false_iff_not]
    omega)).mono ?_
  rintro e w2 ⟨hd, cap2, rfl, hcl, hb⟩
  have HCL := Lib.hid hcl
  clear hcl
  go_wp2_with fail
  go_ret
  show Told (inL k f l a b) w _ _
  unfold inL
  rw [HM.out]
  exact ⟨hd, cap2, rfl, HCL.out, hb⟩
end Go.Proofs.YtkapkfddbdgmoaaDoor.Wi
