/- Walks: a number in decimal digits, in the document's word; texts put together. -/
import Derived.Test.YtkapkfddbdgmoaaDoorNumMath
import Derived.Test.YtkapkfddbdgmoaaDoorAtoi
set_option linter.unusedVariables false
set_option linter.unusedSimpArgs false
namespace Go.Proofs.YtkapkfddbdgmoaaDoor.Ba
open Go.RowKit Go

theorem byte_str {P : Program} (w : World) (src dst e : TypeId) (hs : P.underlying src = some (.slice e)) (he : P.underlying e = some (.int .u8)) (hd : P.underlying dst = some .string) (c : Int) (h0 : 0 ≤ c) (h1 : c ≤ 255) :
    (convert src dst (.slice (some ⟨w.heap.size, 0, none⟩) 1 1)).run P (w.alloc (.cells #[.int .u8 c] e)) = .ok (.string ⟨#[UInt8.ofNat c.toNat]⟩) (w.alloc (.cells #[.int .u8 c] e)) := by
  have hc : c = ((UInt8.ofNat c.toNat).toNat : Int) := by rw [UInt8.toNat_ofNat']; omega
  have hcur : (#[Value.int .u8 c] : Array Value).toList = bcells [UInt8.ofNat c.toNat] := by
    rw [bcells_one]
    exact congrArg (fun x => [Value.int .u8 x]) hc
  have hown := own_lit (w := w) (base := w.heap.size) (e := e) [UInt8.ofNat c.toNat] #[.int .u8 c] hcur (Nat.le_refl _) (by unfold maxLen; simp only [List.length_cons, List.length_nil]; omega)
  exact run_string_of_own src dst e hs he hd hown rfl
theorem str_add (a b : List UInt8) : (⟨a.toArray⟩ : ByteArray) ++ ⟨b.toArray⟩ = ⟨(a ++ b).toArray⟩ := by rw [ByteArray.mk_append_mk]
theorem str_size (a : List UInt8) : (⟨a.toArray⟩ : ByteArray).size = a.length := by simp [ByteArray.size]
theorem dec_len (n : Int) (h0 : 0 ≤ n) (h1 : n ≤ 9223372036854775807) : (Lib.decDigits n.toNat).length ≤ 20 := by
  rw [Lib.decDigits_length]; exact Lib.nDigits_le20 _ (by omega)
/-- The digits of a number that is not below nothing. -/
theorem number_pos (d : Nat) : ∀ (n : Int) (w : World), 0 ≤ n → n < 10 ^ d → n ≤ 9223372036854775807 →
    Calls Tryd.prog 46 #[.int .i64 n] w fun e w' => e = .returned (.string ⟨(Lib.decDigits n.toNat).toArray⟩) ∧ Below w.heap.size w w' := by
  induction d with
  | zero =>
    intro n w h0 h1 h2
    obtain rfl : n = 0 := by omega
    have HD : Hid (Lib.decDigits (0 : Int).toNat = [48]) := by show Lib.decDigits 0 = [48]; decide +kernel
    have hst := fun w => byte_str (P := Tryd.prog) w 81 9 5 Tryd.underlying81 Tryd.underlying5 Tryd.underlying9 48 (by omega) (by omega)
    go_enter Tryd.func46, Tryd.ntmps46
    go_wp2_with fail
    go_ret
    exact ⟨by rw [HD.out]; rfl, by go_grown⟩
  | succ d ih =>
    intro n w h0 h1 h2
    have hst := fun w => byte_str (P := Tryd.prog) w 81 9 5 Tryd.underlying81 Tryd.underlying5 Tryd.underlying9 (48 + n % 10) (by omega) (by omega)
    by_cases h10 : n < 10
    · have HD : Hid (Lib.decDigits n.toNat = [UInt8.ofNat (48 + n % 10).toNat]) := by
        show Lib.decDigits n.toNat = _
        rw [Lib.decDigits_one (by omega)]
        congr 2
        omega
      clear h1
      go_enter Tryd.func46, Tryd.ntmps46
      go_wp2_with fail
      go_ret
      exact ⟨by rw [HD.out]; rfl, by go_grown⟩
    · have hq : n / 10 < 10 ^ d := by rw [Int.pow_succ] at h1; omega
      have hl := dec_len (n / 10) (by omega) (by omega)
      have HD : Hid (Lib.decDigits n.toNat = Lib.decDigits (n / 10).toNat ++ [UInt8.ofNat (48 + n % 10).toNat]) := by
        show Lib.decDigits n.toNat = _
        rw [Lib.decDigits, dif_neg (by omega)]
        congr 2
        · omega
        · congr 2; omega
      have HI := Lib.hid (fun w => ih (n / 10) w (by omega) hq (by omega))
      obtain ⟨X, hX⟩ : ∃ X : ByteArray, X = ⟨(Lib.decDigits (n / 10).toNat).toArray⟩ := ⟨_, rfl⟩
      have hXs : X.size ≤ 20 := by rw [hX, str_size]; exact hl
      rw [← hX] at HI
      have HX := Lib.hid hX
      clear hX hl h1 hq ih
      go_enter Tryd.func46, Tryd.ntmps46
      go_wp2_with fail
      refine (HI.out _).mono ?_
      rintro e w1 ⟨rfl, hb⟩
      have b1 := two (w := w) (by go_grown) hb
      clear hb
      go_wp2_with fail
      go_ret
      refine ⟨ret_str ?_, b1⟩
      rw [HD.out, HX.out]
      exact str_add _ _
theorem tmod_m {n m : Int} (h : n = -m) (h0 : 0 ≤ m) : n.tmod 10 = -(m % 10) := by
  subst h; rw [Int.neg_tmod, Int.tmod_eq_emod_of_nonneg h0]
theorem tdiv_m {n m : Int} (h : n = -m) (h0 : 0 ≤ m) : n.tdiv 10 = -(m / 10) := by
  subst h; rw [Int.neg_tdiv, Int.tdiv_eq_ediv_of_nonneg h0]
/-- A number in decimal digits. -/
theorem number_any (n : Int) (w : World) (n0 : -9223372036854775808 ≤ n) (n1 : n ≤ 9223372036854775807) :
    Calls Tryd.prog 46 #[.int .i64 n] w fun e w' => e = .returned (.string ⟨(Lib.itoa n).toArray⟩) ∧ Below w.heap.size w w' := by
  by_cases h0 : 0 ≤ n
  · have e : Lib.itoa n = Lib.decDigits n.toNat := by unfold Lib.itoa; rw [if_neg (by omega)]
    rw [e]
    exact number_pos 19 n w h0 (by omega) n1
  · obtain ⟨m, hm⟩ : ∃ m : Int, n = -m := ⟨-n, by omega⟩
    have hm1 : 1 ≤ m := by omega
    have hm2 : m ≤ 9223372036854775808 := by omega
    have e : Lib.itoa n = 45 :: Lib.decDigits m.toNat := by
      unfold Lib.itoa; rw [if_pos (by omega)]
      congr 2; omega
    have ht := tmod_m hm (by omega)
    have hd := tdiv_m hm (by omega)
    have hst := fun w => byte_str (P := Tryd.prog) w 81 9 5 Tryd.underlying81 Tryd.underlying5 Tryd.underlying9 (48 + m % 10) (by omega) (by omega)
    have hs := fun w => byte_str (P := Tryd.prog) w 81 9 5 Tryd.underlying81 Tryd.underlying5 Tryd.underlying9 (48 - n.tmod 10) (by rw [ht]; omega) (by rw [ht]; omega)
    have he : 48 - n.tmod 10 = 48 + m % 10 := by rw [ht]; omega
    have hlo : 0 ≤ 48 - n.tmod 10 := by rw [ht]; omega
    have hhi : 48 - n.tmod 10 ≤ 255 := by rw [ht]; omega
    by_cases h10 : n ≤ -10
    · have HI := Lib.hid (fun w => number_pos 19 (m / 10) w (by omega) (by omega) (by omega))
      have HD : Hid (Lib.decDigits m.toNat = Lib.decDigits (m / 10).toNat ++ [UInt8.ofNat (48 - n.tmod 10).toNat]) := by
        show Lib.decDigits m.toNat = _
        rw [he, Lib.decDigits, dif_neg (by omega)]
        congr 2
        · omega
        · congr 2; omega
      have hl := dec_len (m / 10) (by omega) (by omega)
      obtain ⟨X, hX⟩ : ∃ X : ByteArray, X = ⟨(Lib.decDigits (m / 10).toNat).toArray⟩ := ⟨_, rfl⟩
      have hXs : X.size ≤ 20 := by rw [hX, str_size]; exact hl
      rw [← hX] at HI
      have HX := Lib.hid hX
      have hneg : -(n.tdiv 10) = m / 10 := by rw [hd]; omega
      have hr0 : 0 ≤ -(n.tdiv 10) := by rw [hneg]; omega
      have hr1 : -(n.tdiv 10) ≤ 9223372036854775807 := by rw [hneg]; omega
      rw [← hneg] at HI
      have HE := Lib.hid e
      clear hX hl e ht hd he hst hneg hm
      go_enter Tryd.func46, Tryd.ntmps46
      go_wp2_with fail
      refine (HI.out _).mono ?_
      rintro e w1 ⟨rfl, hb⟩
      have b1 := two (w := w) (by go_grown) hb
      clear hb
      go_wp2_with fail
      go_ret
      refine ⟨ret_str ?_, b1⟩
      rw [HE.out, HD.out, HX.out]
      exact (congrArg (fun x => (⟨#[45]⟩ : ByteArray) ++ x) (str_add _ _)).trans (str_add _ _)
    · have HD : Hid (Lib.decDigits m.toNat = [UInt8.ofNat (48 - n.tmod 10).toNat]) := by
        show Lib.decDigits m.toNat = _
        rw [he, Lib.decDigits_one (by omega)]
        congr 2
        omega
      have HE := Lib.hid e
      clear e ht hd he hst hm
      go_enter Tryd.func46, Tryd.ntmps46
      go_wp2_with fail
      go_ret
      refine ⟨ret_str ?_, by go_grown⟩
      rw [HE.out, HD.out]
      exact str_add _ _
theorem add_data (a b : ByteArray) : (a ++ b).data.toList = a.data.toList ++ b.data.toList := by simp
theorem size_data (a : ByteArray) : a.size = a.data.toList.length := size_list a
theorem str_of {a : ByteArray} {l : List UInt8} (h : a.data.toList = l) : a = ⟨l.toArray⟩ := by subst h; simp
theorem one_data (s : ByteArray) (k : Nat) (b : UInt8) (h : s.data.toList[k]? = some b) : (s.extract k (k + 1)).data.toList = [b] := by
  rw [Lib.extract_data]
  obtain ⟨hk, he⟩ := List.getElem?_eq_some_iff.1 h
  rw [show k + 1 - k = 1 from by omega, List.drop_eq_getElem_cons hk, he]
  simp
theorem list_of (s : ByteArray) : s.toList = s.data.toList := Lib.toList_data s
theorem list_eta (s : ByteArray) : (⟨s.data.toList.toArray⟩ : ByteArray) = s := by simp
theorem eqs {s : ByteArray} {l : List UInt8} (b : Bool) (h : decide (s.data.toList = l) = b) : (s.toList == l) = b := by
  rw [list_of, ← h, Bool.eq_iff_iff]; simp
theorem empty_iff (s : ByteArray) : s.toList.isEmpty = true ↔ s = ⟨#[]⟩ := by
  rw [List.isEmpty_iff, toList_nil_iff_emptyBytes]; rfl
theorem str_at {s : ByteArray} {j : Nat} {b : UInt8} (hj : j < s.size) (h : s.data.toList[j]? = some b) : s[j] = b := by
  have : s.data[j]? = some b := by simpa using h
  obtain ⟨_, h2⟩ := Array.getElem?_eq_some_iff.1 this
  exact h2
/-- strconv.Atoi, whatever the text: some int, the right one if there is one; and something beside it. -/
def AnyNum (s : ByteArray) (w : World) (e : Ending) (w' : World) : Prop := ∃ (n : Int) (v : Value), e = .returned (.tuple #[.int .i64 n, v]) ∧ -9223372036854775808 ≤ n ∧ n ≤ 9223372036854775807 ∧ (∀ m, Lib.atoiAll s.data.toList = .ok m → n = m) ∧ Below w.heap.size w w'
theorem atoi_any (s : ByteArray) (hlim : s.size ≤ 281474976710656) (w : World) (hE : Errs w) : Calls Tryd.prog 45 #[.string s] w (AnyNum s w) := by
  obtain ⟨⟨tp, p, h1⟩, ⟨tq, q, h2⟩⟩ := hE
  by_cases hr : Lib.atoiAll s.data.toList = .range
  · have c : Calls Tryd.prog 45 #[.string s] w fun e w' => ∃ N, e = .returned (.tuple #[.int .i64 (Lib.atoiSat s.data.toList), .iface 89 (.pointer (some ⟨N, 0, none⟩))]) ∧ w.heap.size ≤ N ∧ w'.heap[N]? = some (.cells #[.string ⟨#[65, 116, 111, 105]⟩, .string s, .iface tq q] 103 (0, 0)) ∧ Below w.heap.size w w' := Any.strconv_Atoi_range_var Tryd.laysC172 s hlim hr tq q w h2
    obtain ⟨a, b⟩ := Lib.atoiSat_bounds s.data.toList
    exact c.mono fun e w' ⟨N, he, _, _, hb⟩ => ⟨_, _, he, a, b, fun m hm => (by rw [hr] at hm; cases hm), hb⟩
  · by_cases hk : ∃ v, Lib.atoiAll s.data.toList = .ok v
    · obtain ⟨v, hv⟩ := hk
      obtain ⟨a, b⟩ := Lib.atoiAll_bounds hv
      exact (atoi_yes s (by omega) v hv w).mono fun e w' ⟨he, hb⟩ => ⟨_, _, he, a, b, fun m hm => (by rw [hv] at hm; injection hm), hb⟩
    · have hs := Any.strconv_Atoi_syntax_var Tryd.laysC172 s hlim (by revert hk hr; cases Lib.atoiAll s.data.toList <;> simp) tp p w h1
      have c : Calls Tryd.prog 45 #[.string s] w fun e w' => ∃ N, e = .returned (.tuple #[.int .i64 0, .iface 89 (.pointer (some ⟨N, 0, none⟩))]) ∧ w.heap.size ≤ N ∧ w'.heap[N]? = some (.cells #[.string ⟨#[65, 116, 111, 105]⟩, .string s, .iface tp p] 103 (0, 0)) ∧ Below w.heap.size w w' := hs
      exact c.mono fun e w' ⟨N, he, _, _, hb⟩ => ⟨_, _, he, by decide, by decide, fun m hm => absurd ⟨m, hm⟩ hk, hb⟩
end Go.Proofs.YtkapkfddbdgmoaaDoor.Ba
