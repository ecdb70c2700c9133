/- ParseTexts: whatever the input, the call returns true, and each argument reads behind it as before: the law's card, out of its walk. Conditions: the listed package variables hold what the program's text lays in them (tied); Go's own sizes. -/
import Derived.Test.YtonkjhmkppeagaaGreatDoorTShEnv
import Derived.Test.YtonkjhmkppeagaaGreatDoorTLt
import Derived.Test.YtonkjhmkppeagaaGreatDoorTFrame
set_option linter.unusedVariables false
namespace Go.Proofs.YtonkjhmkppeagaaGreatDoor.ParseTextsLaw
open Go.ChangeShapes Go.WideShapes Go.ChangeAt Go.RowKit Go
set_option maxRecDepth 100000 in
theorem contract (H:Type) (enc:TypeId × Value→H) (W:World) (base:Nat) (args:Array Value) (ds gs:List (DataW H)) (before:List MemPlace)
 (hval:∀ (j:Nat) t v,Tryz.f6.params[j]?=some t→args[j]?=some v→Value.okWide Tryz.prog W .any base t v)
 (hW:DataW.Whole enc Tryz.prog Tryz.f6.params.toList Rows.parseTextsSpec.vars false W args.toList ds gs before)
 (hsz0:(DataW.weightsEach Tryz.prog (Tryz.f6.params.toList++(OpenSpec.ofChange Rows.parseTextsSpec).bare.plain.varTypes Tryz.prog) (ds++gs)).all (·≤reachBytes)=true)
 (hL:laidMetH Tryz.prog Rows.parseTextsRow.laid W) (hS:W.ShapedOpen Tryz.prog) :
 Calls Tryz.prog 6 args W fun e W'=>∃ v,e=.returned v∧Rows.parseTextsSpec.post enc Tryz.prog Tryz.f6 false true false false W args v W':=by
 have hW':=hW
 obtain ⟨p,q,hA0,hV,rfl,hfz,hnd⟩:=hW
 obtain ⟨rfl,rfl⟩:=trodVars_none hV
 have hA:DataW.TrodAll enc Tryz.prog W 0 (fun _=>true) true Tryz.f6.params.toList args.toList ds p:=hA0
 rw [Tryz.params6] at hA hval
 obtain ⟨v0,vs0,d0,ds0,p0,q0,hargs,rfl,rfl,h0,r0⟩:=trodAll_cons hA
 obtain ⟨v1,vs1,d1,ds1,p1,q1,rfl,rfl,rfl,h1,r1⟩:=trodAll_cons r0
 obtain ⟨rfl,rfl,rfl⟩:=trodAll_nil r1
 obtain rfl:args=#[v0,v1]:=by cases args;simp_all
 clear hA0
 obtain ⟨a,rfl,rfl,rfl,w_a⟩:=Go.ChangeMaps.open_string Tryz.underlying9 (hval 0 9 v0 rfl rfl) h0
 obtain ⟨b,rfl,rfl,rfl,w_b⟩:=Go.ChangeMaps.open_string Tryz.underlying9 (hval 1 9 v1 rfl rfl) h1
 have walk:=Pz.parseTexts_law a b W (Pz.EnvL.of hL)
 refine walk.mono fun e W' ⟨he,hb⟩=>?_
 subst he
 exact ⟨_,rfl,Fr.post_true (tb:=4) (by rw [Tryz.params6];intro t ht;simp only [List.mem_cons,List.not_mem_nil,or_false] at ht;rcases ht with rfl|rfl<;>exact ⟨by kernel_rfl,of_decide_eq_true (by kernel_rfl)⟩) rfl Tryz.underlying4 rfl hW' (fun gs hg=>by subst hg;exact ⟨rfl,rfl,rfl⟩) hb⟩
theorem laid_met (os:Os):laidMet Tryz.prog Rows.parseTextsRow.laid ((World.doorLaid Tryz.prog 200 os).forCall (fun _ _=>0) ⟨#[],#[.string ⟨#[]⟩,.string ⟨#[]⟩],[]⟩).memory :=
 laidMet_of_run' 8 (by kernel_rfl) (by kernel_rfl)
theorem reads (os:Os) {H:Type} (enc:TypeId × Value→H):∃ places,DataW.whole enc Tryz.prog ((World.doorLaid Tryz.prog 200 os).forCall (fun _ _=>0) ⟨#[],#[.string ⟨#[]⟩,.string ⟨#[]⟩],[]⟩).memory Tryz.f6.params.toList Rows.parseTextsSpec.vars false (#[.string ⟨#[]⟩,.string ⟨#[]⟩]:Array Value).toList 8=some ([.lit (.string []),.lit (.string [])],[],places) :=
 ⟨[],by kernel_rfl⟩
set_option maxRecDepth 100000 in
theorem lifted (os:Os) (started:os.Started) (H:Type) (enc:TypeId × Value→H) (F:Stop.Interp) :
 ReturnsInHanded {} Tryz.checked os 6 .any ((OpenSpec.ofChange Rows.parseTextsSpec).preRow enc Tryz.prog Tryz.f6 Rows.parseTextsRow.domain false Rows.parseTextsRow.laid) (((OpenSpec.ofChange Rows.parseTextsSpec).at F).post enc Tryz.prog Tryz.f6 false true false false):=by
 obtain ⟨places,hx⟩:=reads os enc
 refine returnsInHanded_of_row (C:=Tryz.checked) (s:=OpenSpec.ofChange Rows.parseTextsSpec) Fr.own started (by kernel_rfl) Tryz.func6
  (witness_row_atRef (enc:=enc) (C:=Tryz.checked) false (World.doorLaid Tryz.prog 200 os) #[.string ⟨#[]⟩,.string ⟨#[]⟩] rfl (by kernel_rfl) (by kernel_rfl) (by kernel_rfl)
   (OpenSpec.preRow_of_cond 8 hx (by kernel_rfl) (fun k hk=>by cases hk) (by kernel_rfl) (laid_met os))) ?_
 intro W base args ds gs before hval hW _ _ hsz hL hS _
 exact contract H enc W base args ds gs before hval hW hsz hL hS
theorem said:Rows.ParseTextsSaid :=
 OpenClaim.holds_of_cond 6 Tryz.f6 rfl rfl rfl rfl rfl rfl rfl ⟨rfl,rfl,rfl,rfl,rfl⟩ rfl rfl rfl rfl rfl (by kernel_rfl) Tryz.func6 (by kernel_rfl)
  (of_decide_eq_true (by kernel_rfl)) (by unfold Func.isWrapper;first|(rw [if_pos (by decide +kernel)];kernel_rfl)|(rw [if_neg (by decide +kernel)];exact ⟨rfl,rfl⟩))
  (fun os started H enc _ F=>by rw [OpenClaim.pre_eq_preRow];exact lifted os started H enc F)
theorem plain (f:FuncId) (fn:Func) (hf:Tryz.pinned.checked.prog.funcNamed "bywash/bywashlaw14.ParseTexts"=some f) (hfn:Tryz.pinned.checked.prog.funcs[f]?=some fn) :
 true=Tryz.pinned.checked.prog.looks []∧∀ (j:Nat) t,fn.params[j]?=some t→Tryz.pinned.checked.prog.wantsStandIn t=false:=by
 obtain rfl:f=6:=Option.some.inj ((show Tryz.prog.funcNamed "bywash/bywashlaw14.ParseTexts"=some 6 by kernel_rfl).symm.trans hf) |>.symm
 obtain rfl:fn=Tryz.f6:=(Option.some.inj (Tryz.func6.symm.trans hfn)).symm
 refine ⟨by kernel_rfl,fun j t ht=>?_⟩
 rw [Tryz.params6] at ht
 have hm:=Array.mem_of_getElem? ht
 simp only [List.mem_toArray,List.mem_cons,List.not_mem_nil,or_false] at hm
 rcases hm with rfl|rfl<;>exact (show Tryz.prog.wantsStandIn _=false by kernel_rfl)
theorem card:Rows.ParseTextsCardSaid :=
 Claim7.holds_tied_plain_at .later [] _ _ _ _ said (fun _ h=>by cases h) (by kernel_rfl) (fun _ h=>by cases h) parseTexts_row_tie rfl ⟨rfl,rfl⟩ (by kernel_rfl) rfl plain (by kernel_rfl)
end Go.Proofs.YtonkjhmkppeagaaGreatDoor.ParseTextsLaw
