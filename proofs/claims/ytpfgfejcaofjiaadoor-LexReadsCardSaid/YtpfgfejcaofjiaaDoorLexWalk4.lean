/- Walks: the tokens of a text. -/
import Derived.Test.YtpfgfejcaofjiaaDoorLexWalk3
import Derived.Test.YtpfgfejcaofjiaaDoorTokRow
set_option linter.unusedVariables false
set_option linter.unusedSimpArgs false
namespace Go.Proofs.YtpfgfejcaofjiaaDoor.Lx
open Go.RowKit Go Ba Va

def SomeTok (c : UInt8) : Prop := tokB c = true
set_option maxRecDepth 100000 in
set_option maxHeartbeats 3200000 in
theorem lex_any (s : ByteArray) (w : World) (hs : s.size ≤ 20000) (hE : EnvL w) :
    Calls Tryd.prog 9 #[.string s] w (LexTo (lexS s.data.toList) 33 w) := by
  have HE := Lib.hid hE
  clear hE
  by_cases h16 : 16384 < s.size
  · have HX : Hid (lexS s.data.toList = ([], 0, 31)) := by
      show lexS s.data.toList = _
      unfold lexS
      rw [if_pos (by rw [← size_list]; exact h16)]
    go_enter Tryd.func9, Tryd.ntmps9
    go_wp2_with fail
    refine bodyPost_ret (v := .tuple #[.slice none 0 0, .int .i64 0, .int .i64 31]) (by simp [results, Tryd.results9, go_sem]) rfl ?_
    rw [HX.out]
    exact ⟨_, rfl, World.ownsRow_nil _ _ _ _, Below.refl _ _⟩
  have HX : Hid (lexS s.data.toList = lexL s.data.toList 0) := by
    show lexS s.data.toList = _
    unfold lexS
    rw [if_neg (by rw [← size_list]; exact h16)]
  obtain ⟨i0, hi, hz0, hz1, hz2⟩ := info_parts infoTok
  have hls : s.data.toList.length = s.size := (size_list s).symm
  have hg0 := gap_bd s.data.toList 0 (by omega)
  rw [hls] at hg0
  have hG0 := fun W => gap_any s 0 W (by omega) (by omega)
  rw [show ((0 : Nat) : Int) = 0 from rfl] at hG0
  have HG0 := Lib.hid hG0
  clear hG0
  have HST : Hid (lexL s.data.toList 0 = pre [] (lexL (s.data.toList.drop (0 + gapN (s.data.toList.drop 0))) (0 + gapN (s.data.toList.drop 0)))) := by
    have := step_start s.data.toList
    rw [Nat.zero_add] at this
    rw [List.drop_zero, Nat.zero_add]
    exact this
  have HTK : Hid (∀ c, s.data.toList[0 + gapN (s.data.toList.drop 0)]? = some c → SomeTok c) := fun c hc => gap_tokB hc
  obtain ⟨k0, hk0⟩ : ∃ k0, 0 + gapN (s.data.toList.drop 0) = k0 := ⟨_, rfl⟩
  rw [hk0] at hg0 HG0 HST HTK
  clear hk0
  have HLS := Lib.hid hls
  clear hls
  go_enter Tryd.func9, Tryd.ntmps9
  go_wp2_with (go_at_call 14; refine (HG0.out _).mono ?_; rintro e w' ⟨rfl, rfl⟩)
  go_loopw [2, 3] (fun v i wr => ∃ (k : Nat) (acc : List Tok), k ≤ s.size ∧ i = .int .i64 k ∧ wr.ownsRow w.heap.size 33 4 v acc.length (cellsT acc) ∧ Below w.heap.size w wr ∧ Hid (lexL s.data.toList 0 = pre acc (lexL (s.data.toList.drop k) k)) ∧ Hid (∀ c, s.data.toList[k]? = some c → SomeTok c) ∧ acc.length ≤ k) (fun _ i _ => s.size - (intOf i).toNat)
  case atStart => exact ⟨k0, [], hg0, rfl, World.ownsRow_nil _ _ _ _, Below.refl _ _, HST, HTK, Nat.zero_le _⟩
  case round =>
    clear HST HTK hg0 HG0
    obtain ⟨k, acc, hk, rfl, hown, hbel, HST, HTK, hacc⟩ := hrel
    have HOWN := Lib.hid hown
    clear hown
    by_cases hlt : k < s.size
    · obtain ⟨c, hc⟩ := bat s k hlt
      have HN := Lib.hid (fun W hW => next_is s k c W hlt hs hc hW)
      have HC := Lib.hid hc
      cases ht : tok1 (s.data.toList.drop k) with
      | err er =>
        have HSE := Lib.hid (step_err hc (HTK.out c hc) ht HST.out)
        have her : ((er : Int) != 0) = true := by
          have := HSE.out.2
          simpa using this
        have her2 : ((er : Int) == 0) = false := by
          have := HSE.out.2
          simpa using this
        rw [ht] at HN
        unfold nextV at HN
        dsimp only at HN
        clear ht hc HST HTK
        go_wp2_with (go_at_call 15; refine (HN.out _ (HE.out.below hbel)).mono ?_; rintro e w1 ⟨rfl, hb⟩)
        try simp only [Exit.inBlock, Exit.then]
        refine bodyPost_ret (v := .tuple #[.slice none 0 0, .int .i64 (k : Int), .int .i64 er]) (by simp [results, Tryd.results9, go_sem]) rfl ?_
        rw [HX.out, HSE.out.1]
        exact ⟨_, rfl, World.ownsRow_nil _ _ _ _, (two hbel hb).alloc (by have := hbel.size; have := hb.size; omega) _⟩
      | ok kk t n m =>
        have HSO := Lib.hid (step_ok hc (HTK.out c hc) ht HST.out)
        have hmb := tok1_bd hc ht
        rw [HLS.out] at hmb
        obtain ⟨hm1, hm2⟩ := hmb
        have hgb := gap_bd s.data.toList (k + m) (by rw [HLS.out]; exact hm2)
        rw [HLS.out] at hgb
        have HG := Lib.hid (fun W => gap_any s (k + m) W hm2 (by omega))
        have HTK2 : Hid (∀ c, s.data.toList[k + m + gapN (s.data.toList.drop (k + m))]? = some c → SomeTok c) := fun c hc => gap_tokB hc
        have hle : k + m ≤ k + m + gapN (s.data.toList.drop (k + m)) := by omega
        obtain ⟨z, hz⟩ : ∃ z, k + m = z := ⟨_, rfl⟩
        rw [ht] at HN
        unfold nextV at HN
        dsimp only at HN
        rw [hz] at HSO hm2 hgb HG HTK2 hle HN
        obtain ⟨k', hk'⟩ : ∃ k', z + gapN (s.data.toList.drop z) = k' := ⟨_, rfl⟩
        rw [hk'] at HSO hgb HG HTK2 hle
        have hkz : k < z := by omega
        obtain ⟨X, hX⟩ : ∃ X : ByteArray, (⟨t.toArray⟩ : ByteArray) = X := ⟨_, rfl⟩
        rw [hX] at HN
        have HXX := Lib.hid hX
        have HTC : Hid ([Value.int .i64 kk, .string X, .int .i64 n, .int .i64 (k : Int)] = tokCells ⟨kk, t, n, k⟩) := by
          show [Value.int .i64 kk, .string X, .int .i64 n, .int .i64 (k : Int)] = _
          rw [← hX]; rfl
        clear ht hc HST HTK hz hk' hX
        go_wp2_with (first | (go_at_call 15; refine (HN.out _ (HE.out.below hbel)).mono ?_; rintro e w1 ⟨rfl, hb⟩; have hbw := (two hbel hb).alloc (Nat.le_trans hbel.size hb.size) (.cells #[.int .i64 kk, .string X, .int .i64 n, .int .i64 (k : Int)] 33); have HO1 := Lib.hid ((own_below HOWN.out hb (Nat.le_refl _)).alloc (.cells #[.int .i64 kk, .string X, .int .i64 n, .int .i64 (k : Int)] 33)); have hz1s := hbw.size; clear hb) | (at_builtin; refine app_tok rfl (.tmp 31) (.tmp 33) 23 33 rfl Tryd.underlying23 hi hz0 hz1 hz2 w.heap.size u2 acc ⟨kk, t, n, k⟩ _ _ _ _ HTC.out ?_ ?_ ?_ ?_ ?_ ?_; rfl; exact HO1.out; (show Value.slice (some ⟨w1.heap.size + 1, 0, none⟩) 1 1 = _; rw [World.size_alloc]); omega; exact hz1s; intro v1 w2 hown1 hg1) | (go_at_call 14; refine (HG.out _).mono ?_; rintro e w' ⟨rfl, rfl⟩))
        go_roundw
        case rel => exact ⟨k', acc ++ [⟨kk, t, n, k⟩], hgb, rfl, hown1, grown_below hbw HO1.out hg1 (Nat.le_refl _) hz1s, HSO, HTK2, by rw [List.length_append]; simp only [List.length_singleton]; omega⟩
        case measure => simp [intOf]; omega
    · have HEND := Lib.hid (step_end (by rw [HLS.out]; omega) HST.out)
      clear HST HTK
      go_wp2_with fail
      try simp only [Exit.inBlock, Exit.then]
      refine bodyPost_ret (by simp [results, Tryd.results9, go_sem]; try rfl) rfl ?_
      rw [HX.out, HEND.out]
      exact ⟨_, rfl, HOWN.out, hbel⟩
end Go.Proofs.YtpfgfejcaofjiaaDoor.Lx
