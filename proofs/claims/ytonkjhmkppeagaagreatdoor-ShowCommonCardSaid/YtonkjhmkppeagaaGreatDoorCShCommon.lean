/- ShowCommon: whatever the input, the call returns true, and each argument reads behind it as before: the law's card, out of its walk. Conditions: the listed package variables hold what the program's text lays in them (tied); Go's own sizes. -/
import Derived.Test.YtonkjhmkppeagaaGreatDoorCShEnv
import Derived.Test.YtonkjhmkppeagaaGreatDoorCCmWalk
import Derived.Test.YtonkjhmkppeagaaGreatDoorCCmSz
import Derived.Test.YtonkjhmkppeagaaGreatDoorUFrame
set_option maxRecDepth 100000
set_option linter.unusedVariables false
namespace Go.Proofs.YtonkjhmkppeagaaGreatDoor.ShowCommonLaw
open Go.Proofs.Tryz
open Go.ChangeShapes Go.WideShapes Go.ChangeAt Go.RowKit Go
theorem contract (H:Type) (enc:TypeId×Value→H) (W:World) (base:Nat) (args:Array Value) (ds gs:List (DataW H)) (before:List MemPlace)
 (hval:∀ (j:Nat) t v,Tryz.f11.params[j]?=some t→args[j]?=some v→Value.okWide Tryz.prog W .any base t v)
 (hW:DataW.Whole enc Tryz.prog Tryz.f11.params.toList Rows.showCommonSpec.vars false W args.toList ds gs before)
 (hsz0:(DataW.weightsEach Tryz.prog (Tryz.f11.params.toList++(OpenSpec.ofChange Rows.showCommonSpec).bare.plain.varTypes Tryz.prog) (ds++gs)).all (·≤reachBytes)=true)
 (hL:laidMetH Tryz.prog Rows.showCommonRow.laid W) (hS:W.ShapedOpen Tryz.prog) :
 Calls Tryz.prog 11 args W fun e W'=>∃ v,e=.returned v∧Rows.showCommonSpec.post enc Tryz.prog Tryz.f11 false true false false W args v W':=by
 have hW':=hW;obtain ⟨p,q,hA0,hV,rfl,hfz,hnd⟩:=hW;obtain ⟨rfl,rfl⟩:=trodVars_none hV;have hA:DataW.TrodAll enc Tryz.prog W 0 (fun _=>true) true Tryz.f11.params.toList args.toList ds p:=hA0;rw[Tryz.params11]at hA hval;obtain ⟨v0,vs0,d0,ds0,p0,q0,hargs,rfl,rfl,h0,r0⟩:=trodAll_cons hA;obtain ⟨v1,vs1,d1,ds1,p1,q1,rfl,rfl,rfl,h1,r1⟩:=trodAll_cons r0;obtain ⟨v2,vs2,d2,ds2,p2,q2,rfl,rfl,rfl,h2,r2⟩:=trodAll_cons r1;obtain ⟨rfl,rfl,rfl⟩:=trodAll_nil r2;obtain rfl:args=#[v0,v1,v2]:=by cases args;simp_all
 clear hA0;obtain ⟨n,rfl,rfl,rfl,w_n⟩:=open_int underlying3 (hval 0 3 v0 rfl rfl) h0;obtain ⟨a,rfl,rfl,rfl,w_a⟩:=Go.ChangeMaps.open_string underlying9 (hval 1 9 v1 rfl rfl) h1;obtain ⟨b,rfl,rfl,rfl,w_b⟩:=Go.ChangeMaps.open_string underlying9 (hval 2 9 v2 rfl rfl) h2;rw[Tryz.params11]at hsz0;have hab:a.size≤140737488355328∧b.size≤140737488355328:=Pz.two_sizes hsz0;have walk:= Pz.showCommon_law n a b (bounds_i64 w_n).1 (bounds_i64 w_n).2 hab.1 hab.2 W (Pz.EnvX.of hL);refine walk.mono fun e W' ⟨he,hb⟩=>?_
 subst he;exact ⟨_,rfl,Fr.post_true (tb:=4) (by rw[Tryz.params11];intro t ht;simp only[List.mem_cons,List.not_mem_nil,or_false]at ht;rcases ht with rfl|rfl|rfl<;>exact ⟨by kernel_rfl,of_decide_eq_true (by kernel_rfl)⟩) rfl underlying4 rfl hW' (fun gs hg=>by subst hg;exact ⟨rfl,rfl,rfl⟩) hb⟩
theorem laid_met (os:Os):laidMet Tryz.prog Rows.showCommonRow.laid ((World.doorLaid Tryz.prog 200 os).forCall (fun _ _=>0) ⟨#[],#[.int .i64 0,.string ⟨#[]⟩,.string ⟨#[]⟩],[]⟩).memory :=
 laidMet_of_run' 8 (by kernel_rfl) (by kernel_rfl)
theorem reads (os:Os) {H:Type} (enc:TypeId×Value→H):∃ places,DataW.whole enc Tryz.prog ((World.doorLaid Tryz.prog 200 os).forCall (fun _ _=>0) ⟨#[],#[.int .i64 0,.string ⟨#[]⟩,.string ⟨#[]⟩],[]⟩).memory Tryz.f11.params.toList Rows.showCommonSpec.vars false (#[.int .i64 0,.string ⟨#[]⟩,.string ⟨#[]⟩]:Array Value).toList 8=some ([.lit (.int .i64 0),.lit (.string []),.lit (.string [])],[],places) :=
 ⟨[],by kernel_rfl⟩
theorem lifted (os:Os) (started:os.Started) (H:Type) (enc:TypeId×Value→H) (F:Stop.Interp) :
 ReturnsInHanded {} Tryz.checked os 11 .any ((OpenSpec.ofChange Rows.showCommonSpec).preRow enc Tryz.prog Tryz.f11 Rows.showCommonRow.domain false Rows.showCommonRow.laid) (((OpenSpec.ofChange Rows.showCommonSpec).at F).post enc Tryz.prog Tryz.f11 false true false false):=by
 obtain ⟨places,hx⟩:=reads os enc;refine returnsInHanded_of_row (C:=Tryz.checked) (s:=OpenSpec.ofChange Rows.showCommonSpec) Fr.own started (by kernel_rfl) func11
  (witness_row_atRef (enc:=enc) (C:=Tryz.checked) false (World.doorLaid Tryz.prog 200 os) #[.int .i64 0,.string ⟨#[]⟩,.string ⟨#[]⟩] rfl (by kernel_rfl) (by kernel_rfl) (by kernel_rfl)
   (OpenSpec.preRow_of_cond 8 hx (by kernel_rfl) (fun k hk=>by cases hk) (by kernel_rfl) (laid_met os))) ?_
 intro W base args ds gs before hval hW _ _ hsz hL hS _;exact contract H enc W base args ds gs before hval hW hsz hL hS
theorem said:Rows.ShowCommonSaid :=
 OpenClaim.holds_of_cond 11 Tryz.f11 rfl rfl rfl rfl rfl rfl rfl ⟨rfl,rfl,rfl,rfl,rfl⟩ rfl rfl rfl rfl rfl (by kernel_rfl) func11 (by kernel_rfl)
  (of_decide_eq_true (by kernel_rfl)) (by unfold Func.isWrapper;first|(rw[if_pos (by decide +kernel)];kernel_rfl)|(rw[if_neg (by decide +kernel)];exact ⟨rfl,rfl⟩))
  (fun os started H enc _ F=>by rw[OpenClaim.pre_eq_preRow];exact lifted os started H enc F)
theorem plain (f:FuncId) (fn:Func) (hf:Tryz.pinned.checked.prog.funcNamed "bywash/bywashlaw15.ShowCommon"=some f) (hfn:Tryz.pinned.checked.prog.funcs[f]?=some fn) :
 true=Tryz.pinned.checked.prog.looks []∧∀ (j:Nat) t,fn.params[j]?=some t→Tryz.pinned.checked.prog.wantsStandIn t=false:=by
 obtain rfl:f=11:=Option.some.inj ((show Tryz.prog.funcNamed "bywash/bywashlaw15.ShowCommon"=some 11 by kernel_rfl).symm.trans hf) |>.symm;obtain rfl:fn=Tryz.f11:=(Option.some.inj (func11.symm.trans hfn)).symm;refine ⟨by kernel_rfl,fun j t ht=>?_⟩;rw[Tryz.params11]at ht;have hm:=Array.mem_of_getElem? ht;simp only[List.mem_toArray,List.mem_cons,List.not_mem_nil,or_false]at hm;rcases hm with rfl|rfl|rfl<;>exact (show Tryz.prog.wantsStandIn _=false by kernel_rfl)
theorem card:Rows.ShowCommonCardSaid :=
 Claim7.holds_tied_plain_at .later [] _ _ _ _ said (fun _ h=>by cases h) (by kernel_rfl) (fun _ h=>by cases h) showCommon_row_tie rfl ⟨rfl,rfl⟩ (by kernel_rfl) rfl plain (by kernel_rfl)
end Go.Proofs.YtonkjhmkppeagaaGreatDoor.ShowCommonLaw
