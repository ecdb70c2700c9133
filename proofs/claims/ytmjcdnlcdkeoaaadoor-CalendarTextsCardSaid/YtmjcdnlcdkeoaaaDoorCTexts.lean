/- CalendarTexts: whatever the input, the call returns true, and each argument reads behind it as before: the law's card, out of its walk. Conditions: the listed package variables hold what the program's text lays in them (tied); Go's own sizes. -/
import Derived.Test.YtmjcdnlcdkeoaaaDoorTextsWalk
import Derived.Test.YtmjcdnlcdkeoaaaDoorCalEnv2
import Derived.Test.YtmjcdnlcdkeoaaaDoorFrame
set_option linter.unusedVariables false
namespace Go.Proofs.YtmjcdnlcdkeoaaaDoor.CalendarTextsLaw
open Go.ChangeShapes Go.WideShapes Go.ChangeAt Go.RowKit Go

set_option maxRecDepth 100000 in
/-- What the walk gives, for every argument and every world that holds the listed variables. -/
theorem contract (H : Type) (enc : TypeId × Value → H) (W : World) (base : Nat) (args : Array Value) (ds gs : List (DataW H)) (before : List MemPlace)
    (hval : ∀ (j : Nat) t v, Tryd.f8.params[j]? = some t → args[j]? = some v → Value.okWide Tryd.prog W .any base t v)
    (hW : DataW.Whole enc Tryd.prog Tryd.f8.params.toList Rows.calendarTextsSpec.vars false W args.toList ds gs before)
    (hsz0 : (DataW.weightsEach Tryd.prog (Tryd.f8.params.toList ++ (OpenSpec.ofChange Rows.calendarTextsSpec).bare.plain.varTypes Tryd.prog) (ds ++ gs)).all (· ≤ reachBytes) = true)
    (hL : laidMetH Tryd.prog Rows.calendarTextsRow.laid W) (hS : W.ShapedOpen Tryd.prog) :
    Calls Tryd.prog 8 args W fun e W' => ∃ v, e = .returned v ∧ Rows.calendarTextsSpec.post enc Tryd.prog Tryd.f8 false true false false W args v W' := by
  have hW' := hW
  obtain ⟨p, q, hA0, hV, rfl, hfz, hnd⟩ := hW
  obtain ⟨rfl, rfl⟩ := trodVars_none hV
  have hA : DataW.TrodAll enc Tryd.prog W 0 (fun _ => true) true Tryd.f8.params.toList args.toList ds p := hA0
  rw [Tryd.params8] at hA hval
  obtain ⟨v0, vs0, d0, ds0, p0, q0, hargs, rfl, rfl, h0, r0⟩ := trodAll_cons hA
  obtain ⟨v1, vs1, d1, ds1, p1, q1, rfl, rfl, rfl, h1, r1⟩ := trodAll_cons r0
  obtain ⟨rfl, rfl, rfl⟩ := trodAll_nil r1
  obtain rfl : args = #[v0, v1] := by cases args; simp_all
  clear hA0
  obtain ⟨n, rfl, rfl, rfl, w_n⟩ := open_int Tryd.underlying3 (hval 0 3 v0 rfl rfl) h0
  obtain ⟨dcs, dn, rfl, dlen, dh⟩ := Fr.open_fields Tryd.underlying23 (by kernel_rfl) (by kernel_rfl : Tryd.prog.cellsOf 23 = 6) (hval 1 23 v1 rfl rfl) h1
  obtain ⟨dc0, dc1, dc2, dc3, dc4, dc5, rfl⟩ : ∃ dc0 dc1 dc2 dc3 dc4 dc5, dcs = [dc0, dc1, dc2, dc3, dc4, dc5] := by
    match dcs, dlen with
    | [dc0, dc1, dc2, dc3, dc4, dc5], _ => exact ⟨_, _, _, _, _, _, rfl⟩
  obtain ⟨dx0, dy0, e_d0, dt0⟩ := dh 0 _ rfl
  obtain rfl : dc0 = dx0 := by simpa using e_d0
  obtain ⟨d0, g_d0, _, w_d0⟩ := DataW.trod_int Tryd.underlying3 dt0
  simp only [List.cons.injEq, and_true] at g_d0
  subst g_d0
  obtain ⟨dx1, dy1, e_d1, dt1⟩ := dh 1 _ rfl
  obtain rfl : dc1 = dx1 := by simpa using e_d1
  obtain ⟨d1, g_d1, _, w_d1⟩ := DataW.trod_int Tryd.underlying3 dt1
  simp only [List.cons.injEq, and_true] at g_d1
  subst g_d1
  obtain ⟨dx2, dy2, e_d2, dt2⟩ := dh 2 _ rfl
  obtain rfl : dc2 = dx2 := by simpa using e_d2
  obtain ⟨d2, g_d2, _, w_d2⟩ := DataW.trod_int Tryd.underlying3 dt2
  simp only [List.cons.injEq, and_true] at g_d2
  subst g_d2
  obtain ⟨dx3, dy3, e_d3, dt3⟩ := dh 3 _ rfl
  obtain rfl : dc3 = dx3 := by simpa using e_d3
  obtain ⟨d3, g_d3, _, w_d3⟩ := DataW.trod_int Tryd.underlying3 dt3
  simp only [List.cons.injEq, and_true] at g_d3
  subst g_d3
  obtain ⟨dx4, dy4, e_d4, dt4⟩ := dh 4 _ rfl
  obtain rfl : dc4 = dx4 := by simpa using e_d4
  obtain ⟨d4, g_d4, _, w_d4⟩ := DataW.trod_int Tryd.underlying3 dt4
  simp only [List.cons.injEq, and_true] at g_d4
  subst g_d4
  obtain ⟨dx5, dy5, e_d5, dt5⟩ := dh 5 _ rfl
  obtain rfl : dc5 = dx5 := by simpa using e_d5
  obtain ⟨d5, g_d5, _, w_d5⟩ := DataW.trod_int Tryd.underlying3 dt5
  simp only [List.cons.injEq, and_true] at g_d5
  subst g_d5
  have walk := Cal.texts_law n d0 d1 d2 d3 d4 d5 W (Cal.Env.of6 hL).1 (Cal.Env.of6 hL).2
  refine walk.mono fun e W' ⟨he, hb⟩ => ?_
  subst he
  exact ⟨_, rfl, Fr.post_true (tb := 4) (by rw [Tryd.params8]; intro t ht; simp only [List.mem_cons, List.not_mem_nil, or_false] at ht; rcases ht with rfl | rfl <;> exact ⟨by kernel_rfl, of_decide_eq_true (by kernel_rfl)⟩) rfl Tryd.underlying4 rfl hW' (fun gs hg => by subst hg; exact ⟨rfl, rfl, rfl⟩) hb⟩

theorem laid_met (os : Os) : laidMet Tryd.prog Rows.calendarTextsRow.laid ((World.doorLaid Tryd.prog 200 os).forCall (fun _ _ => 0) ⟨#[], #[.int .i64 0, .agg #[.int .i64 0, .int .i64 0, .int .i64 0, .int .i64 0, .int .i64 0, .int .i64 0]], []⟩).memory :=
  laidMet_of_run' 8 (by kernel_rfl) (by kernel_rfl)
theorem reads (os : Os) {H : Type} (enc : TypeId × Value → H) : ∃ places, DataW.whole enc Tryd.prog ((World.doorLaid Tryd.prog 200 os).forCall (fun _ _ => 0) ⟨#[], #[.int .i64 0, .agg #[.int .i64 0, .int .i64 0, .int .i64 0, .int .i64 0, .int .i64 0, .int .i64 0]], []⟩).memory Tryd.f8.params.toList Rows.calendarTextsSpec.vars false (#[.int .i64 0, .agg #[.int .i64 0, .int .i64 0, .int .i64 0, .int .i64 0, .int .i64 0, .int .i64 0]] : Array Value).toList 8 = some ([.lit (.int .i64 0), .agg [.lit (.int .i64 0), .lit (.int .i64 0), .lit (.int .i64 0), .lit (.int .i64 0), .lit (.int .i64 0), .lit (.int .i64 0)]], [], places) :=
  ⟨[], by kernel_rfl⟩

set_option maxRecDepth 100000 in
theorem lifted (os : Os) (started : os.Started) (H : Type) (enc : TypeId × Value → H) (F : Stop.Interp) :
    ReturnsInHanded {} Tryd.checked os 8 .any ((OpenSpec.ofChange Rows.calendarTextsSpec).preRow enc Tryd.prog Tryd.f8 Rows.calendarTextsRow.domain false Rows.calendarTextsRow.laid) (((OpenSpec.ofChange Rows.calendarTextsSpec).at F).post enc Tryd.prog Tryd.f8 false true false false) := by
  obtain ⟨places, hx⟩ := reads os enc
  refine returnsInHanded_of_row (C := Tryd.checked) (s := OpenSpec.ofChange Rows.calendarTextsSpec) Fr.own started (by kernel_rfl) Tryd.func8
    (witness_row_atRef (enc := enc) (C := Tryd.checked) false (World.doorLaid Tryd.prog 200 os) #[.int .i64 0, .agg #[.int .i64 0, .int .i64 0, .int .i64 0, .int .i64 0, .int .i64 0, .int .i64 0]] rfl (by kernel_rfl) (by kernel_rfl) (by kernel_rfl)
      (OpenSpec.preRow_of_cond 8 hx (by kernel_rfl) (fun k hk => by cases hk) (by kernel_rfl) (laid_met os))) ?_
  intro W base args ds gs before hval hW _ _ hsz hL hS _
  exact contract H enc W base args ds gs before hval hW hsz hL hS

theorem said : Rows.CalendarTextsSaid :=
  OpenClaim.holds_of_cond 8 Tryd.f8 rfl rfl rfl rfl rfl rfl rfl ⟨rfl, rfl, rfl, rfl, rfl⟩ rfl rfl rfl rfl rfl (by kernel_rfl) Tryd.func8 (by kernel_rfl)
    (of_decide_eq_true (by kernel_rfl)) (by unfold Func.isWrapper; first | (rw [if_pos (by decide +kernel)]; kernel_rfl) | (rw [if_neg (by decide +kernel)]; exact ⟨rfl, rfl⟩))
    (fun os started H enc _ F => by rw [OpenClaim.pre_eq_preRow]; exact lifted os started H enc F)

/-- No parameter wants a stand-in. -/
theorem plain (f : FuncId) (fn : Func) (hf : Tryd.pinned.checked.prog.funcNamed "bywash/bywashlaw09.CalendarTexts" = some f) (hfn : Tryd.pinned.checked.prog.funcs[f]? = some fn) :
    true = Tryd.pinned.checked.prog.looks [] ∧ ∀ (j : Nat) t, fn.params[j]? = some t → Tryd.pinned.checked.prog.wantsStandIn t = false := by
  obtain rfl : f = 8 := Option.some.inj ((show Tryd.prog.funcNamed "bywash/bywashlaw09.CalendarTexts" = some 8 by kernel_rfl).symm.trans hf) |>.symm
  obtain rfl : fn = Tryd.f8 := (Option.some.inj (Tryd.func8.symm.trans hfn)).symm
  refine ⟨by kernel_rfl, fun j t ht => ?_⟩
  rw [Tryd.params8] at ht
  have hm := Array.mem_of_getElem? ht
  simp only [List.mem_toArray, List.mem_cons, List.not_mem_nil, or_false] at hm
  rcases hm with rfl | rfl <;> exact (show Tryd.prog.wantsStandIn _ = false by kernel_rfl)

/-- The law's card. -/
theorem card : Rows.CalendarTextsCardSaid :=
  Claim7.holds_tied_plain_at .later [] _ _ _ _ said (fun _ h => by cases h) (by kernel_rfl) (fun _ h => by cases h) calendarTexts_row_tie rfl ⟨rfl, rfl⟩ (by kernel_rfl) rfl plain (by kernel_rfl)
end Go.Proofs.YtmjcdnlcdkeoaaaDoor.CalendarTextsLaw
