/- Walks: the law on what texts are cut into. -/
import Derived.Test.YtpfgfejcaofjiaaDoorTokAt
import Derived.Test.YtpfgfejcaofjiaaDoorRefLex2
import Derived.Test.YtpfgfejcaofjiaaDoorLexMath4
set_option linter.unusedVariables false
set_option linter.unusedSimpArgs false
namespace Go.Proofs.YtpfgfejcaofjiaaDoor.Lx
open Go.RowKit Go Ba Va

theorem lexS_len (l : List UInt8) : (lexS l).1.length ≤ l.length := by
  unfold lexS
  split
  · simp
  · exact (lex_toks l.length l 0 (Nat.le_refl _)).2.2
set_option maxHeartbeats 800000 in
theorem reads_law (s : ByteArray) (w : World) (hE : EnvL w) :
    Calls Tryd.prog 3 #[.string s] w fun e w' => e = .returned (.bool true) ∧ Below w.heap.size w w' := by
  have HE := Lib.hid hE
  clear hE
  by_cases hs : 20000 < s.size
  · go_enter Tryd.func3, Tryd.ntmps3
    go_wp2_with fail
    refine (awake_any _ HE.out).mono ?_
    rintro e w9 ⟨rfl, hb⟩
    go_wp2_with fail
    go_ret
    exact ⟨rfl, hb⟩
  have hsl := lexS_len s.data.toList
  rw [← size_list] at hsl
  have H1 := Lib.hid (fun W hW => lex_any s W (by omega) hW)
  have H2 := Lib.hid (fun W => refLex_any s W (by omega))
  obtain ⟨x, hx⟩ : ∃ x, lexS s.data.toList = x := ⟨_, rfl⟩
  rw [hx] at H1 H2 hsl
  obtain ⟨ts, q, er⟩ := x
  clear hx
  dsimp only at hsl
  go_enter Tryd.func3, Tryd.ntmps3
  go_wp2_with fail
  refine (H1.out _ HE.out).mono ?_
  rintro e w1 ⟨v, rfl, ho1, b1⟩
  have T1 := TokAt.of ho1
  clear ho1
  go_wp2_with fail
  refine (H2.out _).mono ?_
  rintro e w2 ⟨x, rfl, ho2, b2⟩
  have T2 := TokAt.of ho2
  replace T1 := T1.below b2
  have bw := two b1 b2
  clear ho2 b1 b2
  go_wp2_with fail
  refine (same_yes ts v x _ (by omega) T1 T2).mono ?_
  rintro e w3 ⟨rfl, b3⟩
  replace bw := two bw b3
  clear b3 T1 T2
  go_wp2_with fail
  refine (awake_any _ (HE.out.below bw)).mono ?_
  rintro e w9 ⟨rfl, hb⟩
  go_wp2_with fail
  go_ret
  exact ⟨rfl, two bw hb⟩
end Go.Proofs.YtpfgfejcaofjiaaDoor.Lx
