/- Walks: digests of bytes. -/
import Derived.Test.YtfmjeggomphliaaGreatDoorTblWalk13
set_option linter.unusedVariables false
set_option linter.unusedSimpArgs false
namespace Go.Proofs.YtfmjeggomphliaaGreatDoor.Tb
open Go.RowKit Go Go.Sort Ba Va Sr

def bc1 (b : UInt8) : List Value := [.int .u8 b.toNat]
/-- A slice value reads as these bytes. -/
def BytesAt (W : World) (v : Value) (l : List UInt8) : Prop := SlAt W v 1 (l.map bc1)
theorem BytesAt.below {W W' : World} {v : Value} {l : List UInt8} (h : BytesAt W v l) (hb : Below W.heap.size W W') : BytesAt W' v l := SlAt.below h hb
theorem BytesAt.len {W : World} {v : Value} {l : List UInt8} (h : BytesAt W v l) : ∃ ao cap, v = .slice ao l.length cap ∧ l.length ≤ cap ∧ cap ≤ maxLen := by
  have := SlAt.len h
  rwa [List.length_map] at this
theorem BytesAt.byte {W : World} {ao : Option Addr} {n cap k : Nat} {l : List UInt8} {b : UInt8} (h : BytesAt W (.slice ao n cap) l) (hb : l[k]? = some b) :
    ∃ B o, ao = some ⟨B, o, none⟩ ∧ B < W.heap.size ∧ W.cell? ⟨B, o + k, none⟩ = some (.int .u8 b.toNat) := by
  obtain ⟨B, o, e, hlt, hc⟩ := SlAt.cells h (i := k) (x := bc1 b) (by rw [List.getElem?_map, hb]; rfl)
  refine ⟨B, o, e, hlt, ?_⟩
  have := hc 0 (by decide)
  rwa [Nat.mul_one, Nat.add_zero] at this
/-- A digest, a byte further on. -/
def stepD (d : Int) (b : UInt8) : Int := IntKind.u64.wrap (bits BinOp.xor IntKind.u64 d (b.toNat : Int) * 1099511628211)
def digL (l : List UInt8) : Int := l.foldl stepD 14695981039346656037
theorem wrapU (x : Int) : IntKind.u64.wrap x = x % 18446744073709551616 := by
  simp [IntKind.wrap, IntKind.bits, IntKind.signed]
theorem step_range (d : Int) (b : UInt8) : 0 ≤ stepD d b ∧ stepD d b < 18446744073709551616 := by
  unfold stepD
  rw [wrapU]
  omega
theorem step_ref (x : Int) : IntKind.u64.wrap (IntKind.u64.wrap (IntKind.u64.wrap (x * 1099511627776) + IntKind.u64.wrap (x * 256)) + IntKind.u64.wrap (x * 179)) = IntKind.u64.wrap (x * 1099511628211) := by
  simp only [wrapU]
  omega
theorem dig_snoc (l : List UInt8) (k : Nat) (b : UInt8) (h : l[k]? = some b) : digL (l.take (k + 1)) = stepD (digL (l.take k)) b := by
  rw [take_one l k b h]
  unfold digL
  rw [List.foldl_append]; rfl
theorem dig_range : ∀ l : List UInt8, 0 ≤ digL l ∧ digL l < 18446744073709551616 := by
  have : ∀ (l : List UInt8) (d : Int), 0 ≤ d ∧ d < 18446744073709551616 → 0 ≤ l.foldl stepD d ∧ l.foldl stepD d < 18446744073709551616 := by
    intro l
    induction l with
    | nil => intro d h; exact h
    | cons b l ih => intro d _; exact ih _ (step_range d b)
  exact fun l => this l _ (by decide)
set_option maxHeartbeats 1600000 in
theorem digest_is (v : Value) (l : List UInt8) (w : World) (hl : l.length ≤ 100000) (hv : BytesAt w v l) :
    Calls Tryz.prog 37 #[v] w fun e w' => e = .returned (.int .u64 (digL l)) ∧ Below w.heap.size w w' := by
  obtain ⟨ao, cap, rfl, hcap, _⟩ := hv.len
  obtain ⟨n, hn⟩ : ∃ n, l.length = n := ⟨_, rfl⟩
  have HV := Lib.hid hv
  rw [hn] at hcap hl HV ⊢
  have HN := Lib.hid hn
  clear hv hn
  go_enter Tryz.func37, Tryz.ntmps37
  go_wp2_with fail
  go_loopw [3, 8] (fun vd i wr => ∃ (k : Nat) (d : Int), k ≤ n ∧ vd = .int .u64 d ∧ 0 ≤ d ∧ d < 18446744073709551616 ∧ i = .int .i64 k ∧ Hid (Below w.heap.size w wr) ∧ Hid (digL (l.take k) = d)) (fun vd i _ => n - (intOf i).toNat)
  case atStart => exact ⟨0, 14695981039346656037, Nat.zero_le _, rfl, by omega, by omega, rfl, Below.refl _ _, (rfl : digL (l.take 0) = 14695981039346656037)⟩
  case round =>
    obtain ⟨k, d, hk, rfl, d0, d1, rfl, BW, HD⟩ := hrel
    by_cases hlt : k < n
    · obtain ⟨b, hb⟩ : ∃ b, l[k]? = some b := ⟨_, List.getElem?_eq_getElem (by rw [HN.out]; exact hlt)⟩
      obtain ⟨B, o, rfl, hB, hc⟩ := BytesAt.byte HV.out hb
      replace hc := (BW.out.cell (by exact hB)).trans hc
      have hb8 : (b.toNat : Int) ≤ 255 := by have := b.toNat_lt; omega
      have HS : Hid (digL (l.take (k + 1)) = stepD d b) := by show _ = _; rw [dig_snoc l k b hb, HD.out]
      clear hb
      go_wp2_with fail
      go_roundw
      case rel => exact ⟨k + 1, stepD d b, by omega, rfl, (step_range d b).1, (step_range d b).2, by go_num, BW, HS⟩
      case measure => simp [intOf]; omega
    · obtain rfl : k = n := by omega
      have HR : Hid (d = digL l) := by show d = _; rw [← HD.out, ← HN.out, List.take_length]
      go_wp2_with fail
      go_ret
      exact ⟨by rw [HR.out]; rfl, BW.out⟩
set_option maxHeartbeats 1600000 in
theorem refDig_is (s : ByteArray) (w : World) (hl : s.size ≤ 100000) :
    Calls Tryz.prog 15 #[.string s] w fun e w' => e = .returned (.int .u64 (digL s.data.toList)) ∧ Below w.heap.size w w' := by
  go_enter Tryz.func15, Tryz.ntmps15
  go_wp2_with fail
  go_loopw [3, 4] (fun vd i wr => ∃ (k : Nat) (d : Int), k ≤ s.size ∧ vd = .int .u64 d ∧ 0 ≤ d ∧ d < 18446744073709551616 ∧ i = .int .i64 k ∧ Hid (Below w.heap.size w wr) ∧ Hid (digL (s.data.toList.take k) = d)) (fun vd i _ => s.size - (intOf i).toNat)
  case atStart => exact ⟨0, 14695981039346656037, Nat.zero_le _, rfl, by omega, by omega, rfl, Below.refl _ _, (rfl : digL (s.data.toList.take 0) = 14695981039346656037)⟩
  case round =>
    obtain ⟨k, d, hk, rfl, d0, d1, rfl, BW, HD⟩ := hrel
    by_cases hlt : k < s.size
    · obtain ⟨b, hb⟩ := bat s k hlt
      have hz := str_at hlt hb
      have hb8 : (b.toNat : Int) ≤ 255 := by have := b.toNat_lt; omega
      have HS : Hid (digL (s.data.toList.take (k + 1)) = stepD d b) := by show _ = _; rw [dig_snoc _ k b hb, HD.out]
      clear hb
      go_wp2_with fail
      go_roundw
      case rel => exact ⟨k + 1, stepD d b, by omega, by rw [step_ref]; rfl, (step_range d b).1, (step_range d b).2, by go_num, BW, HS⟩
      case measure => simp [intOf]; omega
    · have HR : Hid (d = digL s.data.toList) := by show d = _; rw [← HD.out, show k = s.size by omega, size_list, List.take_length]
      go_wp2_with fail
      go_ret
      exact ⟨by rw [HR.out]; rfl, BW.out⟩
theorem conv_zero {P : Program} (w : World) (src dst e : TypeId) (p : Addr) (cap : Nat) (hs : P.underlying src = some (.slice e)) (he : P.underlying e = some (.int .u8)) (hd : P.underlying dst = some .string) : (convert src dst (.slice (some p) 0 cap)).run P w = .ok (.string ⟨#[]⟩) w := by
  rw [run_convert_bytes_string w src dst e _ 0 cap hs he hd]
  have hl : (loadCells p 0).run P w = .ok #[] w := by
    have := run_loadCells_list (P := P) w p [] (fun j v hj => by simp at hj)
    simpa using this
  simp [Conv.bytesToString, hl]
  rfl
theorem conv_bytes {w : World} {ao : Option Addr} {n cap : Nat} {l : List UInt8} (hn : l.length = n) (h : BytesAt w (.slice ao n cap) l) : (convert 75 9 (.slice ao n cap)).run Tryz.prog w = .ok (.string ⟨l.toArray⟩) w := by
  cases ao with
  | none =>
    have hl : l = [] := by
      cases l with
      | nil => rfl
      | cons x r => obtain ⟨b, o, e, _⟩ := BytesAt.byte h (k := 0) rfl; cases e
    subst hl
    rw [run_convert_bytes_nil w 75 5 Tryz.underlying75 Tryz.underlying5 n cap 9 Tryz.underlying9]
    rfl
  | some p =>
    cases l with
    | nil =>
      simp only [List.length_nil] at hn
      subst hn
      exact conv_zero w _ _ 5 p cap Tryz.underlying75 Tryz.underlying5 Tryz.underlying9
    | cons x r =>
      obtain ⟨b, o, e, _⟩ := BytesAt.byte h (k := 0) rfl
      cases e
      rw [run_convert_bytes_arg w 75 5 Tryz.underlying75 Tryz.underlying5 b o n cap ((x :: r).map fun c => ((c.toNat : Nat) : Int)) (by rw [List.length_map]; exact hn) (fun i hi => ?_) 9 Tryz.underlying9]
      · have e1 : strOfNums ((x :: r).map fun c => ((c.toNat : Nat) : Int)) = ⟨(x :: r).toArray⟩ := by
          unfold strOfNums
          rw [toNat_byte]
        rw [e1]
      · have hi2 : i < (x :: r).length := by rw [hn]; exact hi
        obtain ⟨b', o', e', _, hc⟩ := BytesAt.byte h (List.getElem?_eq_getElem hi2)
        cases e'
        rw [hc, List.getD_eq_getElem?_getD, List.getElem?_map, List.getElem?_eq_getElem hi2]
        rfl
end Go.Proofs.YtfmjeggomphliaaGreatDoor.Tb
