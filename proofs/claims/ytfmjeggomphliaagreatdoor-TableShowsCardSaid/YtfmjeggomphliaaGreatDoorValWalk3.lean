/- Walks: the text of a value; two numbers reckoned. -/
import Derived.Test.YtfmjeggomphliaaGreatDoorValWalk2
set_option linter.unusedVariables false
set_option linter.unusedSimpArgs false
namespace Go.Proofs.YtfmjeggomphliaaGreatDoor.Va
open Go.RowKit Go Ba

/-- The table of powers of ten, as the program lays it. -/
def Env (w : World) : Prop := Lib.TabIs Tryz.prog w "internal/strconv.uint64pow10" .u64 Lib.pow10Tab
theorem Env.below {w w' : World} (h : Env w) (hb : Below w.heap.size w w') : Env w' := by
  have hg : Tryz.prog.globalNamed "internal/strconv.uint64pow10" = some 6 := by kernel_rfl
  have h0 := Lib.TabIs.cell h hg 0 (by decide)
  exact var?_below hb hg (lt_of_cell h0) h

/-- The text of a value. -/
def showL (k n : Int) (s : ByteArray) : List UInt8 :=
  if rightB k n s = true then (if k = 0 then [110, 117, 108, 108] else if k = 1 then Lib.itoa n else quotedL s.data.toList) else []

theorem right_is (k n : Int) (s : ByteArray) (b : Bool) (w : World) (hs : s.size ≤ 9223372036854775807) (hb : rightB k n s = b) :
    Calls Tryz.prog 86 #[.agg #[.int .i64 k, .int .i64 n, .string s]] w fun e w' => e = .returned (.bool b) ∧ Below w.heap.size w w' := by
  rw [← hb]; exact right_any k n s w hs
theorem right_text {k n : Int} {s : ByteArray} (h : rightB k n s = true) : (k = 0 ∨ k = 1 ∨ k = 2) ∧ s.size ≤ 64 := by
  unfold rightB at h
  split at h
  · rename_i hk
    simp only [Bool.and_eq_true] at h
    rw [(empty_iff s).1 h.2]
    exact ⟨.inl hk, by decide⟩
  · split at h
    · rename_i hk
      rw [(empty_iff s).1 h]
      exact ⟨.inr (.inl hk), by decide⟩
    · split at h
      · rename_i hk
        unfold plainB at h
        simp only [Bool.and_eq_true, decide_eq_true_eq] at h
        exact ⟨.inr (.inr hk), h.2.2⟩
      · cases h

set_option maxHeartbeats 400000 in
theorem show_any (k n : Int) (s : ByteArray) (w : World) (hs : s.size ≤ 9223372036854775807) (n0 : -9223372036854775808 ≤ n) (n1 : n ≤ 9223372036854775807) (hE : Env w) :
    Calls Tryz.prog 59 #[.agg #[.int .i64 k, .int .i64 n, .string s]] w fun e w' => e = .returned (.string ⟨(showL k n s).toArray⟩) ∧ Below w.heap.size w w' := by
  have HE := Lib.hid hE
  clear hE
  by_cases hr : rightB k n s = true
  · obtain ⟨hk, h64⟩ := right_text hr
    have HR := Lib.hid hr
    clear hr
    rcases hk with rfl | rfl | rfl
    · have HS : Hid (showL 0 n s = [110, 117, 108, 108]) := by show showL 0 n s = _; unfold showL; rw [if_pos HR.out, if_pos rfl]
      go_enter Tryz.func59, Tryz.ntmps59
      go_wp2_with fail
      refine (right_is 0 n s true _ hs HR.out).mono ?_
      rintro e w1 ⟨rfl, hb⟩
      have z1 := hb.size
      simp only [World.size_alloc] at z1
      have c0 : w1.cell? ⟨w.heap.size, 0, none⟩ = some (.int .i64 0) := box hb (by simp) 0
      have b1 := two (w := w) (by go_grown) hb
      clear hb
      go_wp2_with fail
      go_ret
      exact ⟨by rw [HS.out]; rfl, b1⟩
    · have HS : Hid (showL 1 n s = Lib.itoa n) := by show showL 1 n s = _; unfold showL; rw [if_pos HR.out]; simp
      go_enter Tryz.func59, Tryz.ntmps59
      go_wp2_with fail
      refine (right_is 1 n s true _ hs HR.out).mono ?_
      rintro e w1 ⟨rfl, hb⟩
      have z1 := hb.size
      simp only [World.size_alloc] at z1
      have z2 : w.heap.size < w1.heap.size := by omega
      have c0 : w1.cell? ⟨w.heap.size, 0, none⟩ = some (.int .i64 1) := box hb (by simp) 0
      have c1 : w1.cell? ⟨w.heap.size, 1, none⟩ = some (.int .i64 n) := box hb (by simp) 1
      have b1 := two (w := w) (by go_grown) hb
      clear hb
      go_wp2_with fail
      refine (Tryz.strconv_Itoa n n0 n1 _ (HE.out.below b1)).mono ?_
      rintro e w2 ⟨rfl, hw⟩
      have b2 := two b1 (below_itoa hw)
      clear hw
      go_wp2_with fail
      go_ret
      exact ⟨by rw [HS.out]; rfl, b2⟩
    · have HS : Hid (showL 2 n s = quotedL s.data.toList) := by show showL 2 n s = _; unfold showL; rw [if_pos HR.out]; simp
      go_enter Tryz.func59, Tryz.ntmps59
      go_wp2_with fail
      refine (right_is 2 n s true _ hs HR.out).mono ?_
      rintro e w1 ⟨rfl, hb⟩
      have z1 := hb.size
      simp only [World.size_alloc] at z1
      have z2 : w.heap.size < w1.heap.size := by omega
      have c0 : w1.cell? ⟨w.heap.size, 0, none⟩ = some (.int .i64 2) := box hb (by simp) 0
      have c2 : w1.cell? ⟨w.heap.size, 2, none⟩ = some (.string s) := box hb (by simp) 2
      have b1 := two (w := w) (by go_grown) hb
      clear hb
      go_wp2_with fail
      refine (quoted_any s _ (by omega)).mono ?_
      rintro e w2 ⟨rfl, hb⟩
      have b2 := two b1 hb
      clear hb
      go_wp2_with fail
      go_ret
      exact ⟨by rw [HS.out]; rfl, b2⟩
  · have hr' : rightB k n s = false := by simpa using hr
    have HS : Hid (showL k n s = []) := by show showL k n s = _; unfold showL; rw [if_neg hr]
    have HR := Lib.hid hr'
    clear hr hr'
    go_enter Tryz.func59, Tryz.ntmps59
    go_wp2_with fail
    refine (right_is k n s false _ hs HR.out).mono ?_
    rintro e w1 ⟨rfl, hb⟩
    have b1 := two (w := w) (by go_grown) hb
    clear hb
    go_wp2_with fail
    go_ret
    exact ⟨by rw [HS.out]; rfl, b1⟩
end Go.Proofs.YtfmjeggomphliaaGreatDoor.Va
