/- Walks: the document's text of a date. -/
import Derived.Test.YtmjcdnlcdkeoaaaDoorDateWalk
import Derived.Test.YtmjcdnlcdkeoaaaDoorCalWalk8
set_option linter.unusedVariables false
set_option linter.unusedSimpArgs false
namespace Go.Proofs.YtmjcdnlcdkeoaaaDoor.Cal
open Go.RowKit Go Ba Go.Sort

theorem two_str {P : Program} (w : World) (src dst e : TypeId) (hs : P.underlying src = some (.slice e)) (he : P.underlying e = some (.int .u8)) (hd : P.underlying dst = some .string) (a b : Int) (a0 : 0 ≤ a) (a1 : a ≤ 255) (b0 : 0 ≤ b) (b1 : b ≤ 255) :
    (convert src dst (.slice (some ⟨w.heap.size, 0, none⟩) 2 2)).run P (w.alloc (.cells #[.int .u8 a, .int .u8 b] e)) = .ok (.string ⟨#[UInt8.ofNat a.toNat, UInt8.ofNat b.toNat]⟩) (w.alloc (.cells #[.int .u8 a, .int .u8 b] e)) := by
  have ha : a = ((UInt8.ofNat a.toNat).toNat : Int) := by rw [UInt8.toNat_ofNat']; omega
  have hb : b = ((UInt8.ofNat b.toNat).toNat : Int) := by rw [UInt8.toNat_ofNat']; omega
  have hcur : (#[Value.int .u8 a, Value.int .u8 b] : Array Value).toList = bcells [UInt8.ofNat a.toNat, UInt8.ofNat b.toNat] := by
    show [Value.int .u8 a, Value.int .u8 b] = [Value.int .u8 _, Value.int .u8 _]
    rw [← ha, ← hb]
  have hown := own_lit (w := w) (base := w.heap.size) (e := e) [UInt8.ofNat a.toNat, UInt8.ofNat b.toNat] #[.int .u8 a, .int .u8 b] hcur (Nat.le_refl _) (by unfold maxLen; simp only [List.length_cons, List.length_nil]; omega)
  exact run_string_of_own src dst e hs he hd hown rfl
theorem refTwo_any (n : Int) (w : World) (h0 : 0 ≤ n) (h1 : n < 100) :
    Calls Tryd.prog 30 #[.int .i64 n] w fun e w' => e = .returned (.string ⟨(two2 n).toArray⟩) ∧ Below w.heap.size w w' := by
  have hst := fun w => two_str (P := Tryd.prog) w 56 9 5 Tryd.underlying56 Tryd.underlying5 Tryd.underlying9 (48 + n / 10) (48 + n % 10) (by omega) (by omega) (by omega) (by omega)
  have HE : Hid ((⟨#[UInt8.ofNat (48 + n / 10).toNat, UInt8.ofNat (48 + n % 10).toNat]⟩ : ByteArray) = ⟨(two2 n).toArray⟩) := by
    show (⟨#[UInt8.ofNat (48 + n / 10).toNat, UInt8.ofNat (48 + n % 10).toNat]⟩ : ByteArray) = _
    rw [show (48 + n / 10).toNat = 48 + n.toNat / 10 by omega, show (48 + n % 10).toNat = 48 + n.toNat % 10 by omega]
    rfl
  go_enter Tryd.func30, Tryd.ntmps30
  go_wp2_with fail
  go_ret
  exact ⟨ret_str HE.out, by go_grown⟩
theorem text_bytes2 (a b c d e f : List UInt8) : (⟨a.toArray⟩ ++ ⟨b.toArray⟩ ++ ⟨#[45]⟩ ++ ⟨c.toArray⟩ ++ ⟨#[45]⟩ ++ ⟨d.toArray⟩ ++ ⟨#[32]⟩ ++ ⟨e.toArray⟩ ++ ⟨#[58]⟩ ++ ⟨f.toArray⟩ : ByteArray) = ⟨(a ++ b ++ [45] ++ c ++ [45] ++ d ++ [32] ++ e ++ [58] ++ f).toArray⟩ := by
  rw [show (#[45] : Array UInt8) = [45].toArray from rfl, show (#[32] : Array UInt8) = [32].toArray from rfl, show (#[58] : Array UInt8) = [58].toArray from rfl]
  simp only [ByteArray.mk_append_mk]
set_option maxHeartbeats 800000 in
theorem refShow_is (y m d h i k : Int) (w : World) (y0 : 2000 ≤ y) (y1 : y ≤ 7000) (m0 : 1 ≤ m) (m1 : m ≤ 12) (d0 : 1 ≤ d) (d1 : d ≤ 31) (h0 : 0 ≤ h) (h1 : h ≤ 23) (i0 : 0 ≤ i) (i1 : i ≤ 59) :
    Calls Tryd.prog 24 #[.agg #[.int .i64 y, .int .i64 m, .int .i64 d, .int .i64 h, .int .i64 i, .int .i64 k]] w fun e w' => e = .returned (.string ⟨(text y m d h i).toArray⟩) ∧ Below w.heap.size w w' := by
  have HT := Lib.hid (text_is y0 y1 m0 m1 d0 d1 h0 h1 i0 i1)
  have V := Box.new w [.int .i64 y, .int .i64 m, .int .i64 d, .int .i64 h, .int .i64 i, .int .i64 k] 30
  have bw : Below w.heap.size w (w.alloc (.cells #[.int .i64 y, .int .i64 m, .int .i64 d, .int .i64 h, .int .i64 i, .int .i64 k] 30)) := by go_grown
  go_enter Tryd.func24, Tryd.ntmps24
  go_wp2_with fail
  generalize w.alloc (.cells #[.int .i64 y, .int .i64 m, .int .i64 d, .int .i64 h, .int .i64 i, .int .i64 k] 30) = w3 at *
  obtain ⟨x0, x1, x2, x3, x4, x5, p0, p1, p2, p3, p4, p5⟩ := six V
  have x0 := cell_regrown x0
  have x1 := cell_regrown x1
  have x2 := cell_regrown x2
  have x3 := cell_regrown x3
  have x4 := cell_regrown x4
  have cT := fun n (h0 : 0 ≤ n) (h1 : n < 100) => qcall (w := w3) fun W' hb => refTwo_any n W' h0 h1
  have l2 : ∀ n, (two2 n).length = 2 := fun _ => rfl
  have e1 : y.tdiv 100 = y / 100 := Int.tdiv_eq_ediv_of_nonneg (by omega)
  have e2 : y.tmod 100 = y % 100 := Int.tmod_eq_emod_of_nonneg (by omega)
  have q0 : 0 ≤ y / 100 := by omega
  have q1 : y / 100 < 100 := by omega
  have q2 : 0 ≤ y % 100 := by omega
  have q3 : y % 100 < 100 := by omega
  refine wp_region_quiet_below (by kernel_rfl) (by kernel_rfl) ?_
  repeat (go_big_quiet_step (with_reducible (exact cT _ (by omega) (by omega) _ _)))
  refine wpQuiet_nil ?_
  intro _ hw'
  obtain ⟨⟨dq1, os1⟩, hw''⟩ := hw'
  subst hw''
  have bg := two bw (below_regrown w3 dq1 os1)
  clear x0 x1 x2 x3 x4 x5 p0 p1 p2 p3 p4 p5 cT l2 e1 e2
  go_wp2_with fail
  go_ret
  exact ⟨ret_str (by rw [HT.out]; exact text_bytes2 _ _ _ _ _ _), bg⟩
theorem right_n {n y m d : Int} (h0 : 0 ≤ n) (h1 : n < 2147483648) (hd : IsDay (n / 1440) y m d) : Right y m d (n % 1440 / 60) (n % 60) ((n / 1440 + 6) % 7) := by
  obtain ⟨o, e, _⟩ := ok_of h0 h1 hd
  exact ⟨o, by rw [e]; exact h1, by rw [e]⟩
end Go.Proofs.YtmjcdnlcdkeoaaaDoor.Cal
