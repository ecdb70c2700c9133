/- Walks: the fixed answer; where a byte stands; the law on lines. -/
import Derived.Test.YtpfgfejcaofjiaaDoorLexWalk4
import Derived.Lib.LastIndexByte
set_option linter.unusedVariables false
set_option linter.unusedSimpArgs false
namespace Go.Proofs.YtpfgfejcaofjiaaDoor.Lx
open Go.RowKit Go Ba Va

theorem row_shape {w : World} {base size : Nat} {e : TypeId} {v : Value} {n : Nat} {xs : List Value} (h : w.ownsRow base e size v n xs) (hn : 0 < n) :
    ∃ g cap, v = .slice (some ⟨g, 0, none⟩) n cap ∧ base ≤ g ∧ n ≤ cap ∧ cap ≤ maxLen ∧ g < w.heap.size ∧ ∀ j, j < n * size → w.cell? ⟨g, j, none⟩ = xs[j]? := by
  have h0 := h
  rcases h.2 with ⟨rfl, h2⟩ | ⟨g, cap, cur, rfl, hg, hh, h3, h4, h5, h6⟩
  · omega
  · exact ⟨g, cap, rfl, hg, h3, h4, (h0.lt g rfl).2, fun j hj => h0.cellAt j hj⟩
theorem awake_lex : lexS [97, 60, 61, 49, 48, 35, 120] = ([⟨1, [97], 0, 0⟩, ⟨4, [60, 61], 0, 1⟩, ⟨2, [], 10, 3⟩], 7, 0) := by kernel_rfl
set_option maxHeartbeats 800000 in
theorem awake_any (w : World) (hE : EnvL w) :
    Calls Tryd.prog 8 #[] w fun e w' => e = .returned (.bool true) ∧ Below w.heap.size w w' := by
  have hl := lex_any ⟨#[97, 60, 61, 49, 48, 35, 120]⟩ w (by decide) hE
  rw [show (⟨#[97, 60, 61, 49, 48, 35, 120]⟩ : ByteArray).data.toList = [97, 60, 61, 49, 48, 35, 120] from rfl, awake_lex] at hl
  have HL := Lib.hid hl
  clear hl hE
  go_enter Tryd.func8, Tryd.ntmps8
  go_wp2_with fail
  refine HL.out.mono ?_
  rintro e w1 ⟨v, rfl, hown, hb⟩
  obtain ⟨g, cap, rfl, h1, h2, h3, h4, h5⟩ := row_shape hown (by decide)
  have c5 : w1.cell? ⟨g, 5, none⟩ = some (.string ⟨#[60, 61]⟩) := h5 5 (by decide)
  have c10 : w1.cell? ⟨g, 10, none⟩ = some (.int .i64 10) := h5 10 (by decide)
  have c11 : w1.cell? ⟨g, 11, none⟩ = some (.int .i64 3) := h5 11 (by decide)
  clear hown h5
  dsimp only [List.length_cons, List.length_nil]
  go_wp2_with fail
  go_ret
  exact ⟨rfl, hb⟩

theorem lastIdx_zero (s : ByteArray) (c : Int) : Lib.lastIdx s c 0 = -1 := rfl
theorem lastIdx_succ (s : ByteArray) (c : Int) (k : Nat) : Lib.lastIdx s c (k + 1) = if ((s.data[k]!).toNat : Int) = c then (k : Int) else Lib.lastIdx s c k := rfl
theorem bang_at {s : ByteArray} {k : Nat} {b : UInt8} (h : s.data.toList[k]? = some b) : s.data[k]! = b := by
  have h' : s.data[k]? = some b := by rw [← Array.getElem?_toList]; exact h
  rw [getElem!_def, h']
theorem lastIdx_ext {s t : ByteArray} {c : Int} : ∀ k : Nat, (∀ j, j < k → s.data[j]! = t.data[j]!) → Lib.lastIdx s c k = Lib.lastIdx t c k
  | 0, _ => rfl
  | k + 1, h => by rw [lastIdx_succ, lastIdx_succ, h k (by omega), lastIdx_ext k fun j hj => h j (by omega)]
theorem last_take (s : ByteArray) (k : Nat) (hk : k ≤ s.size) (c : Int) : Lib.lastIndexByte (s.extract 0 k) c = Lib.lastIdx s c k := by
  have hsz : (s.extract 0 k).size = k := by rw [ByteArray.size_extract]; omega
  unfold Lib.lastIndexByte
  rw [hsz]
  refine lastIdx_ext k fun j hj => ?_
  obtain ⟨b, hb⟩ := bat s j (by omega)
  rw [bang_at hb]
  refine bang_at ?_
  rw [Lib.extract_data, List.drop_zero, List.getElem?_take_of_lt (by omega)]
  exact hb
theorem lastIdx_bd (s : ByteArray) (c : Int) : ∀ k : Nat, -1 ≤ Lib.lastIdx s c k ∧ Lib.lastIdx s c k ≤ k
  | 0 => by rw [lastIdx_zero]; omega
  | k + 1 => by
    have := lastIdx_bd s c k
    rw [lastIdx_succ]
    split <;> omega
theorem count_bd (l : List UInt8) (k : Nat) (c : UInt8) : Lib.countByte (l.take k) c ≤ k := by
  unfold Lib.countByte
  have := List.count_le_length (a := c) (l := l.take k)
  have : (l.take k).length ≤ k := List.length_take_le _ _
  omega
/-- The line of a place, and where it stands in it. -/
def lineL (s : ByteArray) (k : Nat) : Int := ((Lib.countByte (s.data.toList.take k) 10 : Nat) : Int) + 1
def colL (s : ByteArray) (k : Nat) : Int := (k : Int) - Lib.lastIdx s 10 k
theorem line_zero (s : ByteArray) : lineL s 0 = 1 ∧ colL s 0 = 1 := ⟨rfl, rfl⟩
theorem line_nl {s : ByteArray} {k : Nat} (h : s.data.toList[k]? = some 10) : lineL s (k + 1) = lineL s k + 1 ∧ colL s (k + 1) = 1 := by
  unfold lineL colL
  rw [lastIdx_succ, bang_at h, if_pos (by decide), take_one _ k 10 h]
  unfold Lib.countByte
  rw [List.count_append, List.count_singleton_self]
  omega
theorem line_else {s : ByteArray} {k : Nat} {b : UInt8} (h : s.data.toList[k]? = some b) (hb : b ≠ 10) : lineL s (k + 1) = lineL s k ∧ colL s (k + 1) = colL s k + 1 := by
  unfold lineL colL
  have h1 : ¬ (b.toNat : Int) = 10 := fun e => hb (byte_eq (by rw [e]; rfl))
  rw [lastIdx_succ, bang_at h, if_neg h1, take_one _ k b h]
  unfold Lib.countByte
  rw [List.count_append, List.count_singleton]
  have : (b == 10) = false := by simpa using hb
  rw [this]
  simp only [Bool.false_eq_true, if_false]
  omega
theorem line_bd (s : ByteArray) (k : Nat) : 1 ≤ lineL s k ∧ lineL s k ≤ k + 1 ∧ 0 ≤ colL s k ∧ colL s k ≤ k + 1 := by
  have h1 := lastIdx_bd s 10 k
  have h2 := count_bd s.data.toList k 10
  unfold lineL colL
  omega
theorem count_is (s : ByteArray) (w : World) : Calls Tryd.prog 23 #[.string s, .string ⟨#[10]⟩] w fun e w' => e = .returned (.int .i64 ((Lib.countByte s.data.toList 10 : Nat) : Int)) ∧ w = w' :=
  (Tryd.strings_Count_one s 10 w).mono fun _ _ ⟨h1, h2⟩ => ⟨h1, h2.symm⟩
theorem last_is (s : ByteArray) (hs : s.size ≤ 1000000) (w : World) : Calls Tryd.prog 24 #[.string s, .int .u8 10] w fun e w' => e = .returned (.int .i64 (Lib.lastIndexByte s 10)) ∧ w = w' :=
  (Tryd.strings_LastIndexByte s 10 (by omega) w).mono fun _ _ ⟨h1, h2⟩ => ⟨h1, h2.symm⟩
set_option maxHeartbeats 800000 in
theorem line_at (s : ByteArray) (k : Nat) (w : World) (hk : k ≤ s.size) (hs : s.size ≤ 20000) :
    Calls Tryd.prog 13 #[.string s, .int .i64 (k : Int)] w fun e w' => e = .returned (.tuple #[.int .i64 (lineL s k), .int .i64 (colL s k)]) ∧ w = w' := by
  have hsz : (s.extract 0 k).size ≤ 20000 := by rw [ByteArray.size_extract]; omega
  have hlx := last_take s k hk 10
  have hd : (s.extract 0 k).data.toList = s.data.toList.take k := by rw [Lib.extract_data]; simp
  have h1 := lastIdx_bd s 10 k
  have h2 := count_bd s.data.toList k 10
  have hcc := fun W => count_is (s.extract 0 k) W
  have hll := fun W => last_is (s.extract 0 k) (by omega) W
  rw [hd] at hcc
  rw [hlx] at hll
  have HCC := Lib.hid hcc
  have HLL := Lib.hid hll
  have HLN : Hid (lineL s k = ((Lib.countByte (s.data.toList.take k) 10 : Nat) : Int) + 1) := rfl
  have HCL : Hid (colL s k = (k : Int) - Lib.lastIdx s 10 k) := rfl
  obtain ⟨C, hC⟩ : ∃ C, Lib.countByte (s.data.toList.take k) 10 = C := ⟨_, rfl⟩
  obtain ⟨I, hI⟩ : ∃ I, Lib.lastIdx s 10 k = I := ⟨_, rfl⟩
  rw [hC] at HCC HLN h2
  rw [hI] at HLL HCL h1
  obtain ⟨i0, i1⟩ := h1
  clear hcc hll hlx hd hC hI
  go_enter Tryd.func13, Tryd.ntmps13
  go_wp2_with (first | (go_at_call 23; refine (HCC.out _).mono ?_; rintro e w' ⟨rfl, rfl⟩) | (go_at_call 24; refine (HLL.out _).mono ?_; rintro e w' ⟨rfl, rfl⟩))
  refine bodyPost_ret (v := .tuple #[.int .i64 ((C : Int) + 1), .int .i64 ((k : Int) - I)]) (by simp [results, Tryd.results13, go_sem]) rfl ?_
  exact ⟨by rw [HLN.out, HCL.out], rfl⟩
theorem line_no (s : ByteArray) (k : Int) (w : World) (hk : k < 0 ∨ (s.size : Int) < k) :
    Calls Tryd.prog 13 #[.string s, .int .i64 k] w fun e w' => e = .returned (.tuple #[.int .i64 0, .int .i64 0]) ∧ w = w' := by
  by_cases h : k < 0
  · clear hk
    go_enter Tryd.func13, Tryd.ntmps13
    go_wp2_with fail
    refine bodyPost_ret (v := .tuple #[.int .i64 0, .int .i64 0]) (by simp [results, Tryd.results13, go_sem]) rfl ?_
    exact ⟨rfl, rfl⟩
  · have h2 : (s.size : Int) < k := by omega
    clear hk
    go_enter Tryd.func13, Tryd.ntmps13
    go_wp2_with fail
    refine bodyPost_ret (v := .tuple #[.int .i64 0, .int .i64 0]) (by simp [results, Tryd.results13, go_sem]) rfl ?_
    exact ⟨rfl, rfl⟩
set_option maxHeartbeats 1600000 in
theorem lines_law (s : ByteArray) (at' : Int) (w : World) (hE : EnvL w) :
    Calls Tryd.prog 7 #[.string s, .int .i64 at'] w fun e w' => e = .returned (.bool true) ∧ Below w.heap.size w w' := by
  have HE := Lib.hid hE
  clear hE
  by_cases hs : 5000 < s.size
  · go_enter Tryd.func7, Tryd.ntmps7
    go_wp2_with fail
    refine (awake_any _ HE.out).mono ?_
    rintro e w9 ⟨rfl, hb⟩
    go_wp2_with fail
    go_ret
    exact ⟨rfl, hb⟩
  by_cases h0 : at' < 0
  · go_enter Tryd.func7, Tryd.ntmps7
    go_wp2_with (first | (go_at_call 13; refine (line_no s at' _ (Or.inl h0)).mono ?_; rintro e w' ⟨rfl, rfl⟩) | (go_at_call 8; refine (awake_any _ HE.out).mono ?_; rintro e w9 ⟨rfl, hb⟩))
    go_ret
    exact ⟨rfl, hb⟩
  by_cases h1 : (s.size : Int) < at'
  · go_enter Tryd.func7, Tryd.ntmps7
    go_wp2_with (first | (go_at_call 13; refine (line_no s at' _ (Or.inr h1)).mono ?_; rintro e w' ⟨rfl, rfl⟩) | (go_at_call 8; refine (awake_any _ HE.out).mono ?_; rintro e w9 ⟨rfl, hb⟩))
    go_ret
    exact ⟨rfl, hb⟩
  obtain ⟨n, rfl⟩ : ∃ n : Nat, at' = n := ⟨at'.toNat, by omega⟩
  have hn : n ≤ s.size := by omega
  obtain ⟨l0, l1, c0, c1⟩ := line_bd s n
  obtain ⟨L, hL⟩ : ∃ L, lineL s n = L := ⟨_, rfl⟩
  obtain ⟨C, hC⟩ : ∃ C, colL s n = C := ⟨_, rfl⟩
  have HLA := Lib.hid (fun W => line_at s n W hn (by omega))
  rw [hL, hC] at HLA
  rw [hL] at l0 l1
  rw [hC] at c0 c1
  have HL := Lib.hid hL
  have HC := Lib.hid hC
  clear hL hC
  go_enter Tryd.func7, Tryd.ntmps7
  go_wp2_with (go_at_call 13; refine (HLA.out _).mono ?_; rintro e w' ⟨rfl, rfl⟩)
  go_loop [7, 8, 38] (fun a b i => ∃ k : Nat, k ≤ n ∧ i = .int .i64 k ∧ a = .int .i64 (lineL s k) ∧ b = .int .i64 (colL s k)) (fun _ _ i => n - (intOf i).toNat)
  case atStart => exact ⟨0, by omega, rfl, rfl, rfl⟩
  case round =>
    obtain ⟨k, hk, rfl, rfl, rfl⟩ := hrel
    obtain ⟨m0, m1, d0, d1⟩ := line_bd s k
    by_cases hlt : k < n
    · obtain ⟨b, hbk⟩ := bat s k (by omega)
      have hat := str_at (by omega) hbk
      by_cases hb : b = 10
      · subst hb
        have HN := Lib.hid (line_nl hbk)
        clear hbk
        go_wp2_with fail
        go_round
        case rel => exact ⟨k + 1, by omega, by go_num, by rw [HN.out.1], by rw [HN.out.2]⟩
        case measure => simp [intOf]; omega
      · have HN := Lib.hid (line_else hbk hb)
        have t10 : ((b.toNat : Int) == 10) = false := bne_byte (n := 10) (by decide) hb
        clear hbk hb
        go_wp2_with fail
        go_round
        case rel => exact ⟨k + 1, by omega, by go_num, by rw [HN.out.1], by rw [HN.out.2]⟩
        case measure => simp [intOf]; omega
    · have ek : k = n := by omega
      subst ek
      rw [HL.out, HC.out]
      go_wp2_with fail
      refine (awake_any _ HE.out).mono ?_
      rintro e w9 ⟨rfl, hb⟩
      go_wp2_with fail
      go_ret
      exact ⟨rfl, hb⟩
end Go.Proofs.YtpfgfejcaofjiaaDoor.Lx
