/- The walk of the law on what is made. -/
import Derived.Test.YtedpgeilamhipaaDoorValWalk7
set_option linter.unusedVariables false
set_option linter.unusedSimpArgs false
namespace Go.Proofs.YtedpgeilamhipaaDoor.Va
open Go.RowKit Go Ba

theorem right_num {n : Int} : rightB 1 n ⟨#[]⟩ = true := by
  unfold rightB
  rw [if_neg (by decide), if_pos rfl]
  exact (empty_iff _).2 rfl
set_option maxHeartbeats 800000 in
theorem makes_law (n : Int) (s : ByteArray) (w : World) (hE : Env w) :
    Calls Tryd.prog 3 #[.int .i64 n, .string s] w fun e w' => e = .returned (.bool true) ∧ Below w.heap.size w w' := by
  have HE := Lib.hid hE
  clear hE
  go_enter Tryd.func3, Tryd.ntmps3
  go_wp2_with fail
  refine (null_any _).mono ?_
  rintro e w1 ⟨rfl, hb⟩
  have b1 := hb
  clear hb
  go_wp2_with fail
  refine (of_any n _).mono ?_
  rintro e w2 ⟨rfl, hb⟩
  have b2 := two b1 hb
  clear hb
  go_wp2_with fail
  refine (text_any s _).mono ?_
  rintro e w3 ⟨rfl, hb⟩
  have b3 := two b2 hb
  clear hb
  go_wp2_with fail
  refine (of_any n _).mono ?_
  rintro e w4 ⟨rfl, hb⟩
  have b4 := two b3 hb
  clear hb
  go_wp2_with fail
  refine (right_is 1 n ⟨#[]⟩ true _ (by decide) right_num).mono ?_
  rintro e w5 ⟨rfl, hb⟩
  have b5 := two b4 hb
  clear hb
  go_wp2_with fail
  refine (awake_any _ (HE.out.below b5)).mono ?_
  rintro e w6 ⟨rfl, hb⟩
  have b6 := two b5 hb
  clear hb
  go_wp2_with fail
  go_ret
  exact ⟨rfl, b6⟩
end Go.Proofs.YtedpgeilamhipaaDoor.Va
