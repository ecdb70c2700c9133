/- Walks: the fixed answer; the law on what is made. -/
import Derived.Test.YtedpgeilamhipaaDoorValWalk5
set_option linter.unusedVariables false
set_option linter.unusedSimpArgs false
namespace Go.Proofs.YtedpgeilamhipaaDoor.Va
open Go.RowKit Go Ba

theorem quo7 : Numbers 47 1 (-7) ⟨#[]⟩ 1 2 ⟨#[]⟩ (-3) :=
  arith_ok 47 1 (-7) ⟨#[]⟩ 1 2 ⟨#[]⟩ (-3) (by decide) (by decide) (.inr (.inr (.inr (.inl rfl)))) (by decide) (by decide) (by decide) (by decide) (fun h => by cases h)
    (by have := quo_ok (a := -7) (b := 2) ⟨by decide, by decide⟩ ⟨by decide, by decide⟩ (by decide) (by decide); rwa [show (-7 : Int).tdiv 2 = -3 from by decide] at this)
theorem showAB : showL 2 0 ⟨#[97, 34, 98]⟩ = [34, 97, 92, 34, 98, 34] := by decide +kernel
theorem show60 (w : World) (hE : Env w) :
    Calls Tryd.prog 28 #[.agg #[.int .i64 2, .int .i64 0, .string ⟨#[97, 34, 98]⟩]] w fun e w' => e = .returned (.string ⟨#[34, 97, 92, 34, 98, 34]⟩) ∧ Below w.heap.size w w' := by
  have := show_any 2 0 ⟨#[97, 34, 98]⟩ w (by decide) (by decide) (by decide) hE
  rw [showAB] at this
  exact this
set_option maxHeartbeats 400000 in
theorem awake_any (w : World) (hE : Env w) :
    Calls Tryd.prog 16 #[] w fun e w' => e = .returned (.bool true) ∧ Below w.heap.size w w' := by
  have HE := Lib.hid hE
  clear hE
  go_enter Tryd.func16, Tryd.ntmps16
  go_wp2_with fail
  refine (of_any (-7) _).mono ?_
  rintro e w1 ⟨rfl, b1⟩
  go_wp2_with fail
  refine (of_any 2 _).mono ?_
  rintro e w2 ⟨rfl, hb⟩
  have b2 := two b1 hb
  clear hb
  go_wp2_with fail
  refine (quo7 _).mono ?_
  rintro e w3 ⟨rfl, hb⟩
  have b3 := two b2 hb
  have z3 := b3.size
  clear hb
  go_wp2_with fail
  refine (text_any ⟨#[97, 34, 98]⟩ _).mono ?_
  rintro e w4 ⟨rfl, hb⟩
  have b4 := two (b3.alloc z3 _) hb
  clear hb
  go_wp2_with fail
  refine (show60 _ (HE.out.below b4)).mono ?_
  rintro e w5 ⟨rfl, hb⟩
  have b5 := two b4 hb
  clear hb
  go_wp2_with fail
  go_ret
  exact ⟨rfl, b5⟩
end Go.Proofs.YtedpgeilamhipaaDoor.Va
