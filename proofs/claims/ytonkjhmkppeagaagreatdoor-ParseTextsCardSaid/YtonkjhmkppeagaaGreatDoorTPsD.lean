/- Walks: expressions, from the loosest rank on. Walks: a minus; brackets; arguments; what is tightest. -/
import Derived.Test.YtonkjhmkppeagaaGreatDoorTPsC
set_option linter.unusedVariables false
set_option linter.unusedSimpArgs false
namespace Go.Proofs.YtonkjhmkppeagaaGreatDoor.Pz
open Go.RowKit Go Go.Sort Ba Lx
def FnOk (F:FuncId) (f:PE) (B d:Nat):Prop:=∀ W s,PAt W B d s→Calls Tryz.prog F #[.pointer (some ⟨B,0,none⟩)] W (ExTo W B d (f s).1 (f s).2)
def DpOk (F:FuncId) (f:PE) (B d:Nat):Prop:=∀ W s,PAt W B d s→Calls Tryz.prog 79 #[.pointer (some ⟨B,0,none⟩),.func (.func F) #[.pointer (some ⟨B,0,none⟩)] #[]] W (ExTo W B d (f s).1 (f s).2)
theorem dp_zero (F:FuncId) (B:Nat):DpOk F tooDeep B 32:=fun W s h=>deeperX_no F _ _ s W B h
theorem dp_succ {F:FuncId} (hF:Enters Tryz.prog F) {f:PE} {B d:Nat} (hd:d < 32) (h:FnOk F f B (d+1)):DpOk F f B d:=fun W s hp =>
 deeperX_any F hF _ _ s (f s).1 (f s).2 W B d hd hp fun W' _ hp'=>h W' s hp'
theorem ops_lit {V:World} {B:Nat} {t:TypeId} (ws:List Str) (ca:Array Value) (hca:ca.toList=ws.map fun x=>.string ⟨x.toArray⟩) (hB:B < V.heap.size) (hl:ws.length≤100):OpsAt (V.alloc (.cells ca t)) B (.slice (some ⟨V.heap.size,0,none⟩) ws.length ws.length) ws :=
 ⟨_,_,rfl,Nat.le_refl _,by unfold maxLen;omega,hB,by simp,fun i x hx=>by rw [World.cell?_alloc_at _ _ _ _ rfl,← Array.getElem?_toList,hca,List.getElem?_map,hx];rfl⟩
set_option maxRecDepth 100000 in
set_option maxHeartbeats 3200000 in
theorem or_any (D:Dp) (B d:Nat) (hG:GoesE (anL D)) (h:FnOk 105 (anL D) B d):FnOk 80 (orL D) B d:=fun w s hp=>by
 have hlt:=hp.lt
 have bw:Below w.heap.size w ((w.alloc (.cells #[.int .i64 0,.string ⟨#[]⟩,.int .i64 0,.int .i64 0,.string ⟨#[]⟩,.string ⟨#[]⟩,.slice none 0 0] 27)).alloc (.cells #[.string ⟨#[111,114]⟩] 9)):=((Below.refl _ w).alloc (Nat.le_refl _) _).alloc (by simp) _
 have R0:=(Box.new w [.int .i64 0,.string ⟨#[]⟩,.int .i64 0,.int .i64 0,.string ⟨#[]⟩,.string ⟨#[]⟩,.slice none 0 0] 27).alloc (.cells #[.string ⟨#[111,114]⟩] 9)
 have hz:w.heap.size+2≤((w.alloc (.cells #[.int .i64 0,.string ⟨#[]⟩,.int .i64 0,.int .i64 0,.string ⟨#[]⟩,.string ⟨#[]⟩,.slice none 0 0] 27)).alloc (.cells #[.string ⟨#[111,114]⟩] 9)).heap.size:=by simp
 have hO:=ops_lit (V:=w.alloc (.cells #[.int .i64 0,.string ⟨#[]⟩,.int .i64 0,.int .i64 0,.string ⟨#[]⟩,.string ⟨#[]⟩,.slice none 0 0] 27)) (B:=B) (t:=9) [sOr] #[.string ⟨#[111,114]⟩] rfl (by simp;omega) (by decide)
 have hC:=chain_any 105 (enters_of Tryz.func105 (by kernel_rfl) rfl) #[.pointer (some ⟨B,0,none⟩)] #[] (anL D) hG [sOr] B d h s _ _ (by decide) (hp.below bw) hO
 rw [World.size_alloc] at hC
 have HC:=Lib.hid hC
 have HZ:=Lib.hid hz
 clear hC hO hz h hp
 go_enter Tryz.func80,Tryz.ntmps80
 go_wp2_with (go_at_call 104;refine HC.out.mono ?_;rintro e w1 ⟨ao,cp,rfl,hA,hK,hP⟩;have R1:=R0.kept hK (by show ¬ w.heap.size=B;omega);obtain ⟨z0,z1,z2,z3,z4,z5,z6⟩:=(R1).seven;obtain ⟨f0,f1,f2,f3,f4,f5,f6⟩:=(R1).free7)
 have SP:=(R1).setN (vs:=[.int .i64 (chainP (anL D) [sOr] s).1.k,.string ⟨(chainP (anL D) [sOr] s).1.nm.toArray⟩,.int .i64 (chainP (anL D) [sOr] s).1.v.k,.int .i64 (chainP (anL D) [sOr] s).1.v.n,.string ⟨(chainP (anL D) [sOr] s).1.v.t.toArray⟩,.string ⟨(chainP (anL D) [sOr] s).1.op.toArray⟩,.slice ao (chainP (anL D) [sOr] s).1.xs.length cp]) rfl
 have K9:=Kept.setN (S:=fun b=>b=w.heap.size) (B:=w.heap.size) (.inl rfl) [.int .i64 (chainP (anL D) [sOr] s).1.k,.string ⟨(chainP (anL D) [sOr] s).1.nm.toArray⟩,.int .i64 (chainP (anL D) [sOr] s).1.v.k,.int .i64 (chainP (anL D) [sOr] s).1.v.n,.string ⟨(chainP (anL D) [sOr] s).1.v.t.toArray⟩,.string ⟨(chainP (anL D) [sOr] s).1.op.toArray⟩,.slice ao (chainP (anL D) [sOr] s).1.xs.length cp] 0 (Kept.refl _ w1)
 dsimp only [setN] at SP K9
 obtain ⟨p0,p1,p2,p3,p4,p5,p6⟩:=SP.seven
 refine bodyPost_ret (by simp [results,Tryz.results80,go_sem,p0,p1,p2,p3,p4,p5,p6];try rfl) rfl ?_
 exact ⟨_,_,rfl,(hA).both K9 (fun b _ hb e=>by have e':b=w.heap.size:=e;have:=HZ.out;omega) (fun b _ hb=>by have:=HZ.out;omega),((Kept.of_below bw).trans hK).then K9 (fun k hk e=>by have e':k=w.heap.size:=e;omega),(hP).apart K9 (by omega)⟩
set_option maxRecDepth 100000 in
set_option maxHeartbeats 3200000 in
theorem and_any (D:Dp) (B d:Nat) (hG:GoesE (ntL D)) (h:FnOk 141 (ntL D) B d):FnOk 105 (anL D) B d:=fun w s hp=>by
 have hlt:=hp.lt
 have bw:Below w.heap.size w ((w.alloc (.cells #[.int .i64 0,.string ⟨#[]⟩,.int .i64 0,.int .i64 0,.string ⟨#[]⟩,.string ⟨#[]⟩,.slice none 0 0] 27)).alloc (.cells #[.string ⟨#[97,110,100]⟩] 9)):=((Below.refl _ w).alloc (Nat.le_refl _) _).alloc (by simp) _
 have R0:=(Box.new w [.int .i64 0,.string ⟨#[]⟩,.int .i64 0,.int .i64 0,.string ⟨#[]⟩,.string ⟨#[]⟩,.slice none 0 0] 27).alloc (.cells #[.string ⟨#[97,110,100]⟩] 9)
 have hz:w.heap.size+2≤((w.alloc (.cells #[.int .i64 0,.string ⟨#[]⟩,.int .i64 0,.int .i64 0,.string ⟨#[]⟩,.string ⟨#[]⟩,.slice none 0 0] 27)).alloc (.cells #[.string ⟨#[97,110,100]⟩] 9)).heap.size:=by simp
 have hO:=ops_lit (V:=w.alloc (.cells #[.int .i64 0,.string ⟨#[]⟩,.int .i64 0,.int .i64 0,.string ⟨#[]⟩,.string ⟨#[]⟩,.slice none 0 0] 27)) (B:=B) (t:=9) [sAnd] #[.string ⟨#[97,110,100]⟩] rfl (by simp;omega) (by decide)
 have hC:=chain_any 141 (enters_of Tryz.func141 (by kernel_rfl) rfl) #[.pointer (some ⟨B,0,none⟩)] #[] (ntL D) hG [sAnd] B d h s _ _ (by decide) (hp.below bw) hO
 rw [World.size_alloc] at hC
 have HC:=Lib.hid hC
 have HZ:=Lib.hid hz
 clear hC hO hz h hp
 go_enter Tryz.func105,Tryz.ntmps105
 go_wp2_with (go_at_call 104;refine HC.out.mono ?_;rintro e w1 ⟨ao,cp,rfl,hA,hK,hP⟩;have R1:=R0.kept hK (by show ¬ w.heap.size=B;omega);obtain ⟨z0,z1,z2,z3,z4,z5,z6⟩:=(R1).seven;obtain ⟨f0,f1,f2,f3,f4,f5,f6⟩:=(R1).free7)
 have SP:=(R1).setN (vs:=[.int .i64 (chainP (ntL D) [sAnd] s).1.k,.string ⟨(chainP (ntL D) [sAnd] s).1.nm.toArray⟩,.int .i64 (chainP (ntL D) [sAnd] s).1.v.k,.int .i64 (chainP (ntL D) [sAnd] s).1.v.n,.string ⟨(chainP (ntL D) [sAnd] s).1.v.t.toArray⟩,.string ⟨(chainP (ntL D) [sAnd] s).1.op.toArray⟩,.slice ao (chainP (ntL D) [sAnd] s).1.xs.length cp]) rfl
 have K9:=Kept.setN (S:=fun b=>b=w.heap.size) (B:=w.heap.size) (.inl rfl) [.int .i64 (chainP (ntL D) [sAnd] s).1.k,.string ⟨(chainP (ntL D) [sAnd] s).1.nm.toArray⟩,.int .i64 (chainP (ntL D) [sAnd] s).1.v.k,.int .i64 (chainP (ntL D) [sAnd] s).1.v.n,.string ⟨(chainP (ntL D) [sAnd] s).1.v.t.toArray⟩,.string ⟨(chainP (ntL D) [sAnd] s).1.op.toArray⟩,.slice ao (chainP (ntL D) [sAnd] s).1.xs.length cp] 0 (Kept.refl _ w1)
 dsimp only [setN] at SP K9
 obtain ⟨p0,p1,p2,p3,p4,p5,p6⟩:=SP.seven
 refine bodyPost_ret (by simp [results,Tryz.results105,go_sem,p0,p1,p2,p3,p4,p5,p6];try rfl) rfl ?_
 exact ⟨_,_,rfl,(hA).both K9 (fun b _ hb e=>by have e':b=w.heap.size:=e;have:=HZ.out;omega) (fun b _ hb=>by have:=HZ.out;omega),((Kept.of_below bw).trans hK).then K9 (fun k hk e=>by have e':k=w.heap.size:=e;omega),(hP).apart K9 (by omega)⟩
set_option maxRecDepth 100000 in
set_option maxHeartbeats 3200000 in
theorem sum_any (D:Dp) (B d:Nat) (hG:GoesE (pdL D)) (h:FnOk 176 (pdL D) B d):FnOk 170 (smL D) B d:=fun w s hp=>by
 have hlt:=hp.lt
 have bw:Below w.heap.size w ((w.alloc (.cells #[.int .i64 0,.string ⟨#[]⟩,.int .i64 0,.int .i64 0,.string ⟨#[]⟩,.string ⟨#[]⟩,.slice none 0 0] 27)).alloc (.cells #[.string ⟨#[43]⟩,.string ⟨#[45]⟩] 9)):=((Below.refl _ w).alloc (Nat.le_refl _) _).alloc (by simp) _
 have R0:=(Box.new w [.int .i64 0,.string ⟨#[]⟩,.int .i64 0,.int .i64 0,.string ⟨#[]⟩,.string ⟨#[]⟩,.slice none 0 0] 27).alloc (.cells #[.string ⟨#[43]⟩,.string ⟨#[45]⟩] 9)
 have hz:w.heap.size+2≤((w.alloc (.cells #[.int .i64 0,.string ⟨#[]⟩,.int .i64 0,.int .i64 0,.string ⟨#[]⟩,.string ⟨#[]⟩,.slice none 0 0] 27)).alloc (.cells #[.string ⟨#[43]⟩,.string ⟨#[45]⟩] 9)).heap.size:=by simp
 have hO:=ops_lit (V:=w.alloc (.cells #[.int .i64 0,.string ⟨#[]⟩,.int .i64 0,.int .i64 0,.string ⟨#[]⟩,.string ⟨#[]⟩,.slice none 0 0] 27)) (B:=B) (t:=9) sumOps #[.string ⟨#[43]⟩,.string ⟨#[45]⟩] rfl (by simp;omega) (by decide)
 have hC:=chain_any 176 (enters_of Tryz.func176 (by kernel_rfl) rfl) #[.pointer (some ⟨B,0,none⟩)] #[] (pdL D) hG sumOps B d h s _ _ (by decide) (hp.below bw) hO
 rw [World.size_alloc] at hC
 have HC:=Lib.hid hC
 have HZ:=Lib.hid hz
 clear hC hO hz h hp
 go_enter Tryz.func170,Tryz.ntmps170
 go_wp2_with (go_at_call 104;refine HC.out.mono ?_;rintro e w1 ⟨ao,cp,rfl,hA,hK,hP⟩;have R1:=R0.kept hK (by show ¬ w.heap.size=B;omega);obtain ⟨z0,z1,z2,z3,z4,z5,z6⟩:=(R1).seven;obtain ⟨f0,f1,f2,f3,f4,f5,f6⟩:=(R1).free7)
 have SP:=(R1).setN (vs:=[.int .i64 (chainP (pdL D) sumOps s).1.k,.string ⟨(chainP (pdL D) sumOps s).1.nm.toArray⟩,.int .i64 (chainP (pdL D) sumOps s).1.v.k,.int .i64 (chainP (pdL D) sumOps s).1.v.n,.string ⟨(chainP (pdL D) sumOps s).1.v.t.toArray⟩,.string ⟨(chainP (pdL D) sumOps s).1.op.toArray⟩,.slice ao (chainP (pdL D) sumOps s).1.xs.length cp]) rfl
 have K9:=Kept.setN (S:=fun b=>b=w.heap.size) (B:=w.heap.size) (.inl rfl) [.int .i64 (chainP (pdL D) sumOps s).1.k,.string ⟨(chainP (pdL D) sumOps s).1.nm.toArray⟩,.int .i64 (chainP (pdL D) sumOps s).1.v.k,.int .i64 (chainP (pdL D) sumOps s).1.v.n,.string ⟨(chainP (pdL D) sumOps s).1.v.t.toArray⟩,.string ⟨(chainP (pdL D) sumOps s).1.op.toArray⟩,.slice ao (chainP (pdL D) sumOps s).1.xs.length cp] 0 (Kept.refl _ w1)
 dsimp only [setN] at SP K9
 obtain ⟨p0,p1,p2,p3,p4,p5,p6⟩:=SP.seven
 refine bodyPost_ret (by simp [results,Tryz.results170,go_sem,p0,p1,p2,p3,p4,p5,p6];try rfl) rfl ?_
 exact ⟨_,_,rfl,(hA).both K9 (fun b _ hb e=>by have e':b=w.heap.size:=e;have:=HZ.out;omega) (fun b _ hb=>by have:=HZ.out;omega),((Kept.of_below bw).trans hK).then K9 (fun k hk e=>by have e':k=w.heap.size:=e;omega),(hP).apart K9 (by omega)⟩
set_option maxRecDepth 100000 in
set_option maxHeartbeats 3200000 in
theorem product_any (D:Dp) (B d:Nat) (hG:GoesE (mnL D)) (h:FnOk 179 (mnL D) B d):FnOk 176 (pdL D) B d:=fun w s hp=>by
 have hlt:=hp.lt
 have bw:Below w.heap.size w ((w.alloc (.cells #[.int .i64 0,.string ⟨#[]⟩,.int .i64 0,.int .i64 0,.string ⟨#[]⟩,.string ⟨#[]⟩,.slice none 0 0] 27)).alloc (.cells #[.string ⟨#[42]⟩,.string ⟨#[47]⟩,.string ⟨#[37]⟩] 9)):=((Below.refl _ w).alloc (Nat.le_refl _) _).alloc (by simp) _
 have R0:=(Box.new w [.int .i64 0,.string ⟨#[]⟩,.int .i64 0,.int .i64 0,.string ⟨#[]⟩,.string ⟨#[]⟩,.slice none 0 0] 27).alloc (.cells #[.string ⟨#[42]⟩,.string ⟨#[47]⟩,.string ⟨#[37]⟩] 9)
 have hz:w.heap.size+2≤((w.alloc (.cells #[.int .i64 0,.string ⟨#[]⟩,.int .i64 0,.int .i64 0,.string ⟨#[]⟩,.string ⟨#[]⟩,.slice none 0 0] 27)).alloc (.cells #[.string ⟨#[42]⟩,.string ⟨#[47]⟩,.string ⟨#[37]⟩] 9)).heap.size:=by simp
 have hO:=ops_lit (V:=w.alloc (.cells #[.int .i64 0,.string ⟨#[]⟩,.int .i64 0,.int .i64 0,.string ⟨#[]⟩,.string ⟨#[]⟩,.slice none 0 0] 27)) (B:=B) (t:=9) prodOps #[.string ⟨#[42]⟩,.string ⟨#[47]⟩,.string ⟨#[37]⟩] rfl (by simp;omega) (by decide)
 have hC:=chain_any 179 (enters_of Tryz.func179 (by kernel_rfl) rfl) #[.pointer (some ⟨B,0,none⟩)] #[] (mnL D) hG prodOps B d h s _ _ (by decide) (hp.below bw) hO
 rw [World.size_alloc] at hC
 have HC:=Lib.hid hC
 have HZ:=Lib.hid hz
 clear hC hO hz h hp
 go_enter Tryz.func176,Tryz.ntmps176
 go_wp2_with (go_at_call 104;refine HC.out.mono ?_;rintro e w1 ⟨ao,cp,rfl,hA,hK,hP⟩;have R1:=R0.kept hK (by show ¬ w.heap.size=B;omega);obtain ⟨z0,z1,z2,z3,z4,z5,z6⟩:=(R1).seven;obtain ⟨f0,f1,f2,f3,f4,f5,f6⟩:=(R1).free7)
 have SP:=(R1).setN (vs:=[.int .i64 (chainP (mnL D) prodOps s).1.k,.string ⟨(chainP (mnL D) prodOps s).1.nm.toArray⟩,.int .i64 (chainP (mnL D) prodOps s).1.v.k,.int .i64 (chainP (mnL D) prodOps s).1.v.n,.string ⟨(chainP (mnL D) prodOps s).1.v.t.toArray⟩,.string ⟨(chainP (mnL D) prodOps s).1.op.toArray⟩,.slice ao (chainP (mnL D) prodOps s).1.xs.length cp]) rfl
 have K9:=Kept.setN (S:=fun b=>b=w.heap.size) (B:=w.heap.size) (.inl rfl) [.int .i64 (chainP (mnL D) prodOps s).1.k,.string ⟨(chainP (mnL D) prodOps s).1.nm.toArray⟩,.int .i64 (chainP (mnL D) prodOps s).1.v.k,.int .i64 (chainP (mnL D) prodOps s).1.v.n,.string ⟨(chainP (mnL D) prodOps s).1.v.t.toArray⟩,.string ⟨(chainP (mnL D) prodOps s).1.op.toArray⟩,.slice ao (chainP (mnL D) prodOps s).1.xs.length cp] 0 (Kept.refl _ w1)
 dsimp only [setN] at SP K9
 obtain ⟨p0,p1,p2,p3,p4,p5,p6⟩:=SP.seven
 refine bodyPost_ret (by simp [results,Tryz.results176,go_sem,p0,p1,p2,p3,p4,p5,p6];try rfl) rfl ?_
 exact ⟨_,_,rfl,(hA).both K9 (fun b _ hb e=>by have e':b=w.heap.size:=e;have:=HZ.out;omega) (fun b _ hb=>by have:=HZ.out;omega),((Kept.of_below bw).trans hK).then K9 (fun k hk e=>by have e':k=w.heap.size:=e;omega),(hP).apart K9 (by omega)⟩
set_option maxRecDepth 100000 in
set_option maxHeartbeats 3200000 in
theorem not_any (D:Dp) (B d:Nat) (hd:DpOk 141 D.dnot B d) (hc:FnOk 158 (cmL D) B d):FnOk 141 (ntL D) B d:=fun w s hp=>by
 have hlt:=hp.lt
 have bw:Below w.heap.size w (w.alloc (.cells #[.int .i64 0,.string ⟨#[]⟩,.int .i64 0,.int .i64 0,.string ⟨#[]⟩,.string ⟨#[]⟩,.slice none 0 0] 27)):=(Below.refl _ w).alloc (Nat.le_refl _) _
 have R0:=Box.new w [.int .i64 0,.string ⟨#[]⟩,.int .i64 0,.int .i64 0,.string ⟨#[]⟩,.string ⟨#[]⟩,.slice none 0 0] 27
 have HZ:Hid (w.heap.size+1≤(w.alloc (.cells #[.int .i64 0,.string ⟨#[]⟩,.int .i64 0,.int .i64 0,.string ⟨#[]⟩,.string ⟨#[]⟩,.slice none 0 0] 27)).heap.size):=by show _≤_;simp
 have HD:=Lib.hid hd
 have HC:=Lib.hid hc
 cases hx:isP s sNot with
 | true =>
  have HE:Hid (ntL D s=(unaryE sNot (D.dnot (advP s)).1,(D.dnot (advP s)).2)):=by show notP _ _ s=_;unfold notP;rw [if_pos hx]
  have HM:=Lib.hid (maybe_yes s sNot hx _ B d (hp.below bw))
  clear hx hd hc hp
  go_enter Tryz.func141,Tryz.ntmps141
  go_wp2_with (first|(go_at_call 88;refine HM.out.mono ?_;rintro e w1 ⟨rfl,hK1,hP1⟩)|(go_at_call 79;refine (HD.out _ _ hP1).mono ?_;rintro e w2 ⟨ao,cp,rfl,hA,hK,hP⟩)|(go_at_call 157;refine (unary_any sNot (D.dnot (advP s)).1 _ w2 (fun b=>w1.heap.size≤b) hA).mono ?_;rintro e w3 ⟨ao3,cp3,rfl,hA3,hb3⟩;have R3:=((R0.kept hK1 (by show ¬ w.heap.size=B;omega)).kept hK (by show ¬ w.heap.size=B;omega)).next hb3;obtain ⟨z0,z1,z2,z3,z4,z5,z6⟩:=(R3).seven;obtain ⟨f0,f1,f2,f3,f4,f5,f6⟩:=(R3).free7))
  have SP:=(R3).setN (vs:=[.int .i64 (unaryE sNot (D.dnot (advP s)).1).k,.string ⟨(unaryE sNot (D.dnot (advP s)).1).nm.toArray⟩,.int .i64 (unaryE sNot (D.dnot (advP s)).1).v.k,.int .i64 (unaryE sNot (D.dnot (advP s)).1).v.n,.string ⟨(unaryE sNot (D.dnot (advP s)).1).v.t.toArray⟩,.string ⟨(unaryE sNot (D.dnot (advP s)).1).op.toArray⟩,.slice ao3 (unaryE sNot (D.dnot (advP s)).1).xs.length cp3]) rfl
  have K9:=Kept.setN (S:=fun b=>b=w.heap.size) (B:=w.heap.size) (.inl rfl) [.int .i64 (unaryE sNot (D.dnot (advP s)).1).k,.string ⟨(unaryE sNot (D.dnot (advP s)).1).nm.toArray⟩,.int .i64 (unaryE sNot (D.dnot (advP s)).1).v.k,.int .i64 (unaryE sNot (D.dnot (advP s)).1).v.n,.string ⟨(unaryE sNot (D.dnot (advP s)).1).v.t.toArray⟩,.string ⟨(unaryE sNot (D.dnot (advP s)).1).op.toArray⟩,.slice ao3 (unaryE sNot (D.dnot (advP s)).1).xs.length cp3] 0 (Kept.refl _ w3)
  dsimp only [setN] at SP K9
  obtain ⟨p0,p1,p2,p3,p4,p5,p6⟩:=SP.seven
  refine bodyPost_ret (by simp [results,Tryz.results141,go_sem,p0,p1,p2,p3,p4,p5,p6];try rfl) rfl ?_
  rw [HE.out]
  exact ⟨_,_,rfl,(hA3).both K9 (fun b _ hb e=>by have e':b=w.heap.size:=e;have:=HZ.out;have:=hK1.size;have:=hK.size;omega) (fun b _ hb=>by have:=HZ.out;have:=hK1.size;have:=hK.size;omega),((((Kept.of_below bw).trans hK1).trans hK).behind hb3).then K9 (fun k hk e=>by have e':k=w.heap.size:=e;omega),(hP.below hb3).apart K9 (by omega)⟩
 | false =>
  have HE:Hid (ntL D s=cmL D s):=by show notP _ _ s=_;unfold notP;rw [if_neg (by rw [hx];decide)]
  have HM:=Lib.hid (maybe_no s sNot hx _ B d (hp.below bw))
  clear hx hd hc hp
  go_enter Tryz.func141,Tryz.ntmps141
  go_wp2_with (first|(go_at_call 88;refine HM.out.mono ?_;rintro e w1 ⟨rfl,hK1,hP1⟩)|(go_at_call 158;refine (HC.out _ _ hP1).mono ?_;rintro e w2 ⟨ao,cp,rfl,hA,hK,hP⟩;have R3:=(R0.kept hK1 (by show ¬ w.heap.size=B;omega)).kept hK (by show ¬ w.heap.size=B;omega);obtain ⟨z0,z1,z2,z3,z4,z5,z6⟩:=(R3).seven;obtain ⟨f0,f1,f2,f3,f4,f5,f6⟩:=(R3).free7))
  have SP:=(R3).setN (vs:=[.int .i64 (cmL D s).1.k,.string ⟨(cmL D s).1.nm.toArray⟩,.int .i64 (cmL D s).1.v.k,.int .i64 (cmL D s).1.v.n,.string ⟨(cmL D s).1.v.t.toArray⟩,.string ⟨(cmL D s).1.op.toArray⟩,.slice ao (cmL D s).1.xs.length cp]) rfl
  have K9:=Kept.setN (S:=fun b=>b=w.heap.size) (B:=w.heap.size) (.inl rfl) [.int .i64 (cmL D s).1.k,.string ⟨(cmL D s).1.nm.toArray⟩,.int .i64 (cmL D s).1.v.k,.int .i64 (cmL D s).1.v.n,.string ⟨(cmL D s).1.v.t.toArray⟩,.string ⟨(cmL D s).1.op.toArray⟩,.slice ao (cmL D s).1.xs.length cp] 0 (Kept.refl _ w2)
  dsimp only [setN] at SP K9
  obtain ⟨p0,p1,p2,p3,p4,p5,p6⟩:=SP.seven
  refine bodyPost_ret (by simp [results,Tryz.results141,go_sem,p0,p1,p2,p3,p4,p5,p6];try rfl) rfl ?_
  rw [HE.out]
  exact ⟨_,_,rfl,(hA).both K9 (fun b _ hb e=>by have e':b=w.heap.size:=e;have:=HZ.out;have:=hK1.size;omega) (fun b _ hb=>by have:=HZ.out;have:=hK1.size;omega),(((Kept.of_below bw).trans hK1).trans hK).then K9 (fun k hk e=>by have e':k=w.heap.size:=e;omega),(hP).apart K9 (by omega)⟩
set_option maxRecDepth 100000 in
set_option maxHeartbeats 6400000 in
theorem compare_any (D:Dp) (B d:Nat) (hG:GoesE (smL D)) (h:FnOk 170 (smL D) B d):FnOk 158 (cmL D) B d:=fun w s hp=>by
 have hlt:=hp.lt
 have bw:Below w.heap.size w (w.alloc (.cells #[.int .i64 0,.string ⟨#[]⟩,.int .i64 0,.int .i64 0,.string ⟨#[]⟩,.string ⟨#[]⟩,.slice none 0 0] 27)):=(Below.refl _ w).alloc (Nat.le_refl _) _
 have R0:=Box.new w [.int .i64 0,.string ⟨#[]⟩,.int .i64 0,.int .i64 0,.string ⟨#[]⟩,.string ⟨#[]⟩,.slice none 0 0] 27
 have HZ:Hid (w.heap.size+1≤(w.alloc (.cells #[.int .i64 0,.string ⟨#[]⟩,.int .i64 0,.int .i64 0,.string ⟨#[]⟩,.string ⟨#[]⟩,.slice none 0 0] 27)).heap.size):=by show _≤_;simp
 have HS:=Lib.hid h
 have HP0:=Lib.hid (hp.below bw)
 clear h hp
 go_enter Tryz.func158,Tryz.ntmps158
 go_wp2_with fail
 generalize w.alloc (.cells #[.int .i64 0,.string ⟨#[]⟩,.int .i64 0,.int .i64 0,.string ⟨#[]⟩,.string ⟨#[]⟩,.slice none 0 0] 27)=W0 at *
 refine (HS.out W0 s HP0.out).mono ?_
 rintro e w1 ⟨ao,cp,rfl,hA,hK,hP⟩
 have hz1:w.heap.size+1≤w1.heap.size:=by have:=HZ.out;have:=hK.size;omega
 have R1:=((R0.kept hK (by show ¬ w.heap.size=B;omega)).alloc (.cells #[.int .i64 (smL D s).1.k,.string ⟨(smL D s).1.nm.toArray⟩,.int .i64 (smL D s).1.v.k,.int .i64 (smL D s).1.v.n,.string ⟨(smL D s).1.v.t.toArray⟩,.string ⟨(smL D s).1.op.toArray⟩,.slice ao (smL D s).1.xs.length cp] 27)).alloc (.cells #[.string ⟨#[61]⟩,.string ⟨#[33,61]⟩,.string ⟨#[60]⟩,.string ⟨#[60,61]⟩,.string ⟨#[62]⟩,.string ⟨#[62,61]⟩] 9)
 have X1:=(Box.new w1 [.int .i64 (smL D s).1.k,.string ⟨(smL D s).1.nm.toArray⟩,.int .i64 (smL D s).1.v.k,.int .i64 (smL D s).1.v.n,.string ⟨(smL D s).1.v.t.toArray⟩,.string ⟨(smL D s).1.op.toArray⟩,.slice ao (smL D s).1.xs.length cp] 27).alloc (.cells #[.string ⟨#[61]⟩,.string ⟨#[33,61]⟩,.string ⟨#[60]⟩,.string ⟨#[60,61]⟩,.string ⟨#[62]⟩,.string ⟨#[62,61]⟩] 9)
 have bw1:Below w1.heap.size w1 ((w1.alloc (.cells #[.int .i64 (smL D s).1.k,.string ⟨(smL D s).1.nm.toArray⟩,.int .i64 (smL D s).1.v.k,.int .i64 (smL D s).1.v.n,.string ⟨(smL D s).1.v.t.toArray⟩,.string ⟨(smL D s).1.op.toArray⟩,.slice ao (smL D s).1.xs.length cp] 27)).alloc (.cells #[.string ⟨#[61]⟩,.string ⟨#[33,61]⟩,.string ⟨#[60]⟩,.string ⟨#[60,61]⟩,.string ⟨#[62]⟩,.string ⟨#[62,61]⟩] 9)):=((Below.refl _ w1).alloc (Nat.le_refl _) _).alloc (by simp) _
 have hO:=ops_lit (V:=w1.alloc (.cells #[.int .i64 (smL D s).1.k,.string ⟨(smL D s).1.nm.toArray⟩,.int .i64 (smL D s).1.v.k,.int .i64 (smL D s).1.v.n,.string ⟨(smL D s).1.v.t.toArray⟩,.string ⟨(smL D s).1.op.toArray⟩,.slice ao (smL D s).1.xs.length cp] 27)) (B:=B) (t:=9) cmpOps #[.string ⟨#[61]⟩,.string ⟨#[33,61]⟩,.string ⟨#[60]⟩,.string ⟨#[60,61]⟩,.string ⟨#[62]⟩,.string ⟨#[62,61]⟩] rfl (by simp;omega) (by decide)
 rw [World.size_alloc] at hO
 have XA1:=hA.both (Kept.of_below (S:=fun _=>False) bw1) (fun _ _ _ h=>h) (ok':=fun b=>w.heap.size < b∧b≠w1.heap.size) (fun b hb hb2=>⟨by have:=HZ.out;omega,by omega⟩)
 have KW1:=((Kept.of_below bw).trans hK).behind bw1
 have P1:=hP.below bw1
 have HX1:=Lib.hid XA1
 have HK1:=Lib.hid KW1
 have HP1:=Lib.hid P1
 have HO1:=Lib.hid hO
 have hz2:w1.heap.size+1 < ((w1.alloc (.cells #[.int .i64 (smL D s).1.k,.string ⟨(smL D s).1.nm.toArray⟩,.int .i64 (smL D s).1.v.k,.int .i64 (smL D s).1.v.n,.string ⟨(smL D s).1.v.t.toArray⟩,.string ⟨(smL D s).1.op.toArray⟩,.slice ao (smL D s).1.xs.length cp] 27)).alloc (.cells #[.string ⟨#[61]⟩,.string ⟨#[33,61]⟩,.string ⟨#[60]⟩,.string ⟨#[60,61]⟩,.string ⟨#[62]⟩,.string ⟨#[62,61]⟩] 9)).heap.size:=by simp
 have HZ2:=Lib.hid hz2
 clear hA hK hP bw1 hO XA1 KW1 P1 hz2
 go_upto_region 3 with (fail)
 generalize (w1.alloc (.cells #[.int .i64 (smL D s).1.k,.string ⟨(smL D s).1.nm.toArray⟩,.int .i64 (smL D s).1.v.k,.int .i64 (smL D s).1.v.n,.string ⟨(smL D s).1.v.t.toArray⟩,.string ⟨(smL D s).1.op.toArray⟩,.slice ao (smL D s).1.xs.length cp] 27)).alloc (.cells #[.string ⟨#[61]⟩,.string ⟨#[33,61]⟩,.string ⟨#[60]⟩,.string ⟨#[60,61]⟩,.string ⟨#[62]⟩,.string ⟨#[62,61]⟩] 9)=W1 at *
 obtain ⟨T,hT⟩:∃ T,w1.heap.size=T:=⟨_,rfl⟩
 rw [hT] at X1 HX1 HO1 HZ2 hz1
 try rw [hT]
 clear hT
 have hTlt:=X1.lt
 cases hf:firstOp cmpOps (smL D s).2 with
 | none =>
  have HE:Hid (cmL D s=smL D s):=by show compareP _ s=_;unfold compareP;rw [hf]
  have hidx:=index_any cmpOps (smL D s).2 none hf _ _ B d (by decide) HP1.out HO1.out
  unfold FirstTo at hidx
  dsimp only at hidx
  have HM:=Lib.hid hidx
  clear hf hidx
  go_wp2_with (go_at_call 139;refine HM.out.mono ?_;rintro e w2 ⟨rfl,hK2,hP2⟩;have X2:=X1.kept hK2 (by show ¬ T=B;omega);have R2:=R1.kept hK2 (by show ¬ w.heap.size=B;omega);obtain ⟨y0,y1,y2,y3,y4,y5,y6⟩:=X2.seven;obtain ⟨z0,z1,z2,z3,z4,z5,z6⟩:=(R2).seven;obtain ⟨f0,f1,f2,f3,f4,f5,f6⟩:=(R2).free7)
  have SP:=(R2).setN (vs:=[.int .i64 (smL D s).1.k,.string ⟨(smL D s).1.nm.toArray⟩,.int .i64 (smL D s).1.v.k,.int .i64 (smL D s).1.v.n,.string ⟨(smL D s).1.v.t.toArray⟩,.string ⟨(smL D s).1.op.toArray⟩,.slice ao (smL D s).1.xs.length cp]) rfl
  have K9:=Kept.setN (S:=fun b=>b=w.heap.size) (B:=w.heap.size) (.inl rfl) [.int .i64 (smL D s).1.k,.string ⟨(smL D s).1.nm.toArray⟩,.int .i64 (smL D s).1.v.k,.int .i64 (smL D s).1.v.n,.string ⟨(smL D s).1.v.t.toArray⟩,.string ⟨(smL D s).1.op.toArray⟩,.slice ao (smL D s).1.xs.length cp] 0 (Kept.refl _ w2)
  dsimp only [setN] at SP K9
  obtain ⟨p0,p1,p2,p3,p4,p5,p6⟩:=SP.seven
  refine bodyPost_ret (by simp [results,Tryz.results158,go_sem,p0,p1,p2,p3,p4,p5,p6];try rfl) rfl ?_
  rw [HE.out]
  exact ⟨_,_,rfl,(HX1.out.kept hK2 (fun b _ hb e=>by have e':b=B:=e;omega)).both K9 (fun b _ hb e=>by have e':b=w.heap.size:=e;omega) (fun b _ hb=>by omega),(HK1.out.trans hK2).then K9 (fun k hk e=>by have e':k=w.heap.size:=e;omega),(hP2).apart K9 (by omega)⟩
 | some k =>
  obtain ⟨oo,hoo,hox⟩:=firstOp_is hf
  have hk:=(firstOp_some hf).1
  have hk6:k < 6:=hk
  have hk6i:(k:Int) < 6:=by omega
  have HE:Hid (cmL D s=((binaryE oo (smL D s).1 (smL D (advP (smL D s).2)).1),(smL D (advP (smL D s).2)).2)):=by
   show compareP _ s=_
   unfold compareP
   rw [hf]
   simp only
   rw [List.getD_eq_getElem?_getD,hoo];rfl
  have hidx:=index_any cmpOps (smL D s).2 (some k) hf _ _ B d (by decide) HP1.out HO1.out
  unfold FirstTo at hidx
  dsimp only at hidx
  have HM:=Lib.hid hidx
  obtain ⟨g',cp',hv,_,_,_,hg5,hg6⟩:=HO1.out
  obtain ⟨rfl,rfl⟩:g'=T+1∧cp'=6:=by injection hv with h1 h2 h3;injection h1 with h1;injection h1 with h1;exact ⟨h1.symm,h3.symm⟩
  have HOK:=Lib.hid (hg6 k oo hoo)
  clear hf hidx hoo hox hk hv hg6
  go_wp2_with (go_at_call 139;refine HM.out.mono ?_;rintro e w2 ⟨rfl,hK2,hP2⟩)
  have R2':=(X1.kept hK2 (by show ¬ T=B;omega)).drew
  have Z2':=(R1.kept hK2 (by show ¬ w.heap.size=B;omega)).drew
  have XA2':=(HX1.out.kept hK2 (fun b _ hb e=>by have e':b=B:=e;omega)).kept (S:=fun _=>False) (Kept.refl _ w2).drew (fun _ _ _ h=>h)
  have KW2':=(HK1.out.trans hK2).drew
  have P2':=hP2.drew
  have og':w2.drew.cell? ⟨T+1,k,none⟩=some (.string ⟨oo.toArray⟩):=(kcell (hK2.drew) hg5 (by show ¬ T+1=B;omega)).trans HOK.out
  have hgl':T+1 < w2.drew.heap.size:=Nat.lt_of_lt_of_le hg5 hK2.drew.size
  refine wp_region_M_drew 8 (S:=fun W=>(W.cell? ⟨T+1,k,none⟩=some (.string ⟨oo.toArray⟩)∧W.cell? ⟨T,0,none⟩=some (.int .i64 (smL D s).1.k)∧W.cell? ⟨T,1,none⟩=some (.string ⟨(smL D s).1.nm.toArray⟩)∧W.cell? ⟨T,2,none⟩=some (.int .i64 (smL D s).1.v.k)∧W.cell? ⟨T,3,none⟩=some (.int .i64 (smL D s).1.v.n)∧W.cell? ⟨T,4,none⟩=some (.string ⟨(smL D s).1.v.t.toArray⟩)∧W.cell? ⟨T,5,none⟩=some (.string ⟨(smL D s).1.op.toArray⟩)∧W.cell? ⟨T,6,none⟩=some (.slice ao (smL D s).1.xs.length cp))) (by kernel_rfl) (by exact ⟨og',R2'.seven⟩) (fun hHeld=>?_)
  generalize w2.drew=W2 at *
  have R2:=R2'
  have XA2:=Lib.hid XA2'
  have KW2:=Lib.hid KW2'
  have P2:=Lib.hid P2'
  have Z2:=Lib.hid Z2'
  have og:=og'
  have hgl:=hgl'
  clear hK2 hP2 R2' Z2' XA2' KW2' P2' og' hgl' HM hg5
  refine tkM 0 rfl (by kernel_rfl) hHeld (Or.inl ⟨by rfl,by intro w hSw;(try dsimp only at hSw);go_simp<;>with_reducible rfl⟩) ?_
  try simp only [Array.reduceGetElem,zs]
  refine tkM 1 rfl (by kernel_rfl) hHeld (Or.inl ⟨by rfl,by intro w hSw;(try dsimp only at hSw);go_simp<;>with_reducible rfl⟩) ?_
  try simp only [Array.reduceGetElem,zs]
  refine tkM 2 rfl (by kernel_rfl) hHeld (Or.inl ⟨by rfl,by intro w hSw;(try dsimp only at hSw);go_simp<;>with_reducible rfl⟩) ?_
  try simp only [Array.reduceGetElem,zs]
  refine tkM 3 rfl (by kernel_rfl) hHeld (Or.inl ⟨by rfl,by intro w hSw;(try dsimp only at hSw);go_simp<;>with_reducible rfl⟩) ?_
  try simp only [Array.reduceGetElem,zs]
  refine tkM 4 rfl (by kernel_rfl) hHeld (Or.inl ⟨by rfl,by intro w hSw;(try dsimp only at hSw);go_simp<;>with_reducible rfl⟩) ?_
  try simp only [Array.reduceGetElem,zs]
  refine tkM 5 rfl (by kernel_rfl) hHeld (Or.inl ⟨by rfl,by intro w hSw;(try dsimp only at hSw);go_simp<;>with_reducible rfl⟩) ?_
  try simp only [Array.reduceGetElem,zs]
  refine wpAnyM_ready (rs:=[6]) (by kernel_rfl) (by simp) ?_
  refine AllReadyM.cons rfl (fun K hK=>?_) AllReadyM.nil
  go_simp
  go_at_call 170
  refine (HS.out _ _ P2.out).mono ?_
  rintro e w3 ⟨ao3,cp3,rfl,hA3,hK3,hP3⟩
  have R3:=R2.kept hK3 (by show ¬ T=B;omega)
  have O3:=kcell (o:=k) hK3 hgl (by show ¬ T+1=B;omega)
  try dsimp only
  refine hK.out _ _ ?_ (fun hHeld2=>?_)
  ·exact ⟨O3.trans og,R3.seven⟩
  clear hK K hHeld
  have hHeld:=hHeld2
  clear hHeld2
  try simp only [Array.reduceGetElem,zs]
  refine wpAnyM_ready (rs:=[7]) (by kernel_rfl) (by simp) ?_
  refine AllReadyM.cons rfl (fun K hK=>?_) AllReadyM.nil
  go_simp
  go_at_call 140
  refine (binary_any oo (smL D s).1 (smL D (advP (smL D s).2)).1 (.slice ao (smL D s).1.xs.length cp) (.slice ao3 (smL D (advP (smL D s).2)).1.xs.length cp3) w3 (fun b=>w.heap.size < b∧b≠T) (XA2.out.kept hK3 (fun b _ hb e=>by have e':b=B:=e;omega)) (hA3.weak fun b hb hb2=>⟨by have:=R2.lt;omega,by have:=R2.lt;omega⟩)).mono ?_
  rintro e w4 ⟨ao4,cp4,rfl,hA4,hb4⟩
  have R4:=R3.next hb4
  have O4:=hb4.cell (p:=⟨T+1,k,none⟩) (Nat.lt_of_lt_of_le hgl hK3.size)
  obtain ⟨y0,y1,y2,y3,y4,y5,y6⟩:=R4.seven
  obtain ⟨f0,f1,f2,f3,f4,f5,f6⟩:=R4.free7
  try dsimp only
  refine hK.out _ _ ?_ (fun hHeld2=>?_)
  ·exact ⟨O4.trans (O3.trans og),R4.seven⟩
  clear hK K hHeld
  have hHeld:=hHeld2
  clear hHeld2
  try simp only [Array.reduceGetElem,zs]
  refine wpAnyM_ready (rs:=[8]) (by kernel_rfl) (by simp) ?_
  refine AllReadyM.last rfl (by kernel_rfl) (fun K hK=>?_) AllReadyM.nil
  go_simp
  try dsimp only
  refine hK.out _ _ ?_
  clear hK K
  try simp only [Array.reduceGetElem,zs]
  refine wpAnyM_done (by kernel_rfl) ?_ _
  have SP4:=R4.setN (vs:=[.int .i64 (binaryE oo (smL D s).1 (smL D (advP (smL D s).2)).1).k,.string ⟨(binaryE oo (smL D s).1 (smL D (advP (smL D s).2)).1).nm.toArray⟩,.int .i64 (binaryE oo (smL D s).1 (smL D (advP (smL D s).2)).1).v.k,.int .i64 (binaryE oo (smL D s).1 (smL D (advP (smL D s).2)).1).v.n,.string ⟨(binaryE oo (smL D s).1 (smL D (advP (smL D s).2)).1).v.t.toArray⟩,.string ⟨(binaryE oo (smL D s).1 (smL D (advP (smL D s).2)).1).op.toArray⟩,.slice ao4 (binaryE oo (smL D s).1 (smL D (advP (smL D s).2)).1).xs.length cp4]) rfl
  have K5:=Kept.setN (S:=fun b=>b=T) (B:=T) (.inl rfl) [.int .i64 (binaryE oo (smL D s).1 (smL D (advP (smL D s).2)).1).k,.string ⟨(binaryE oo (smL D s).1 (smL D (advP (smL D s).2)).1).nm.toArray⟩,.int .i64 (binaryE oo (smL D s).1 (smL D (advP (smL D s).2)).1).v.k,.int .i64 (binaryE oo (smL D s).1 (smL D (advP (smL D s).2)).1).v.n,.string ⟨(binaryE oo (smL D s).1 (smL D (advP (smL D s).2)).1).v.t.toArray⟩,.string ⟨(binaryE oo (smL D s).1 (smL D (advP (smL D s).2)).1).op.toArray⟩,.slice ao4 (binaryE oo (smL D s).1 (smL D (advP (smL D s).2)).1).xs.length cp4] 0 (Kept.refl _ w4)
  have Z4:=((Box.kept Z2.out hK3 (by show ¬ w.heap.size=B;omega)).next hb4).otherN (C:=T) (by omega) [.int .i64 (binaryE oo (smL D s).1 (smL D (advP (smL D s).2)).1).k,.string ⟨(binaryE oo (smL D s).1 (smL D (advP (smL D s).2)).1).nm.toArray⟩,.int .i64 (binaryE oo (smL D s).1 (smL D (advP (smL D s).2)).1).v.k,.int .i64 (binaryE oo (smL D s).1 (smL D (advP (smL D s).2)).1).v.n,.string ⟨(binaryE oo (smL D s).1 (smL D (advP (smL D s).2)).1).v.t.toArray⟩,.string ⟨(binaryE oo (smL D s).1 (smL D (advP (smL D s).2)).1).op.toArray⟩,.slice ao4 (binaryE oo (smL D s).1 (smL D (advP (smL D s).2)).1).xs.length cp4] 0
  dsimp only [setN] at SP4 K5 Z4
  have Z4':Box _ w.heap.size [.int .i64 0,.string ⟨#[]⟩,.int .i64 0,.int .i64 0,.string ⟨#[]⟩,.string ⟨#[]⟩,.slice none 0 0]:=Z4
  obtain ⟨q0,q1,q2,q3,q4,q5,q6⟩:=SP4.seven
  obtain ⟨z0,z1,z2,z3,z4,z5,z6⟩:=(Z4').seven
  obtain ⟨f0,f1,f2,f3,f4,f5,f6⟩:=(Z4').free7
  have XA5:=hA4.both K5 (fun b hb ho e=>by have e':b=T:=e;rcases ho with ho|ho;exact ho.2 e';have:=R3.lt;omega) (ok':=fun b=>w.heap.size < b∧b≠T) (fun b hb ho=>by rcases ho with ho|ho;exact ho;have:=R3.lt;have:=hK3.size;exact ⟨by omega,by omega⟩)
  have KW5:=((KW2.out.trans hK3).behind hb4).then K5 (fun k hk e=>by have e':k=T:=e;omega)
  have P5:=(hP3.below hb4).apart K5 (by omega)
  clear y0 y1 y2 y3 y4 y5 y6 hHeld
  generalize (((((((w4.setCell ⟨T,0,none⟩ (.int .i64 (binaryE oo (smL D s).1 (smL D (advP (smL D s).2)).1).k)).setCell ⟨T,1,none⟩ (.string ⟨(binaryE oo (smL D s).1 (smL D (advP (smL D s).2)).1).nm.toArray⟩)).setCell ⟨T,2,none⟩ (.int .i64 (binaryE oo (smL D s).1 (smL D (advP (smL D s).2)).1).v.k)).setCell ⟨T,3,none⟩ (.int .i64 (binaryE oo (smL D s).1 (smL D (advP (smL D s).2)).1).v.n)).setCell ⟨T,4,none⟩ (.string ⟨(binaryE oo (smL D s).1 (smL D (advP (smL D s).2)).1).v.t.toArray⟩)).setCell ⟨T,5,none⟩ (.string ⟨(binaryE oo (smL D s).1 (smL D (advP (smL D s).2)).1).op.toArray⟩)).setCell ⟨T,6,none⟩ (.slice ao4 (binaryE oo (smL D s).1 (smL D (advP (smL D s).2)).1).xs.length cp4))=w5 at *
  go_wp2_with fail
  have SP:=(Z4').setN (vs:=[.int .i64 (binaryE oo (smL D s).1 (smL D (advP (smL D s).2)).1).k,.string ⟨(binaryE oo (smL D s).1 (smL D (advP (smL D s).2)).1).nm.toArray⟩,.int .i64 (binaryE oo (smL D s).1 (smL D (advP (smL D s).2)).1).v.k,.int .i64 (binaryE oo (smL D s).1 (smL D (advP (smL D s).2)).1).v.n,.string ⟨(binaryE oo (smL D s).1 (smL D (advP (smL D s).2)).1).v.t.toArray⟩,.string ⟨(binaryE oo (smL D s).1 (smL D (advP (smL D s).2)).1).op.toArray⟩,.slice ao4 (binaryE oo (smL D s).1 (smL D (advP (smL D s).2)).1).xs.length cp4]) rfl
  have K9:=Kept.setN (S:=fun b=>b=w.heap.size) (B:=w.heap.size) (.inl rfl) [.int .i64 (binaryE oo (smL D s).1 (smL D (advP (smL D s).2)).1).k,.string ⟨(binaryE oo (smL D s).1 (smL D (advP (smL D s).2)).1).nm.toArray⟩,.int .i64 (binaryE oo (smL D s).1 (smL D (advP (smL D s).2)).1).v.k,.int .i64 (binaryE oo (smL D s).1 (smL D (advP (smL D s).2)).1).v.n,.string ⟨(binaryE oo (smL D s).1 (smL D (advP (smL D s).2)).1).v.t.toArray⟩,.string ⟨(binaryE oo (smL D s).1 (smL D (advP (smL D s).2)).1).op.toArray⟩,.slice ao4 (binaryE oo (smL D s).1 (smL D (advP (smL D s).2)).1).xs.length cp4] 0 (Kept.refl _ w5)
  dsimp only [setN] at SP K9
  obtain ⟨p0,p1,p2,p3,p4,p5,p6⟩:=SP.seven
  refine bodyPost_ret (by simp [results,Tryz.results158,go_sem,p0,p1,p2,p3,p4,p5,p6];try rfl) rfl ?_
  rw [HE.out]
  exact ⟨_,_,rfl,(XA5).both K9 (fun b _ hb e=>by have e':b=w.heap.size:=e;omega) (fun b _ hb=>by omega),(KW5).then K9 (fun k hk e=>by have e':k=w.heap.size:=e;omega),(P5).apart K9 (by omega)⟩
end Go.Proofs.YtonkjhmkppeagaaGreatDoor.Pz
namespace Go.Proofs.YtonkjhmkppeagaaGreatDoor.Pz
open Go.RowKit Go Go.Sort Ba Lx
theorem peek_bd {s:Ps} (h:∀ t ∈ s.T,0≤t.n∧t.n≤9223372036854775807):0≤(peekP s).n∧(peekP s).n≤9223372036854775807:=by
 unfold peekP
 split
 ·rw [List.getD_eq_getElem?_getD]
  cases ht:s.T[s.i]? with
  | none=>exact ⟨Int.le_refl _,by decide⟩
  | some t=>exact h t (List.mem_of_getElem? ht)
 ·exact ⟨Int.le_refl _,by decide⟩
theorem PAt.next {W W':World} {B d:Nat} {s:Ps} (h:PAt W B d s) (hi:s.i < s.T.length) (K:Kept (fun b=>b=B) W W') (hb:∀ sl,Box W B [sl,.int .i64 (s.i:Int),.int .i64 (s.E:Int),.int .i64 (d:Int),.int .i64 s.e,.int .i64 (s.a:Int)]→Box W' B [sl,.int .i64 ((s.i:Int)+1),.int .i64 (s.E:Int),.int .i64 (d:Int),.int .i64 s.e,.int .i64 (s.a:Int)]):PAt W' B d (advP s):=by
 have h0:=h
 obtain ⟨_,_,hd,_,sl,hbx,ht⟩:=h
 have:=hb sl hbx
 rw [show (s.i:Int)+1=((s.i+1:Nat):Int) by omega] at this
 exact h0.turn ht K (by omega) hd this
set_option maxRecDepth 100000 in
set_option maxHeartbeats 6400000 in
theorem minus_any (D:Dp) (B d:Nat) (hd:DpOk 179 D.dminus B d) (hc:FnOk 180 (prL D) B d):FnOk 179 (mnL D) B d:=fun w s hp=>by
 have hlt:=hp.lt
 have bw:Below w.heap.size w (w.alloc (.cells #[.int .i64 0,.string ⟨#[]⟩,.int .i64 0,.int .i64 0,.string ⟨#[]⟩,.string ⟨#[]⟩,.slice none 0 0] 27)):=(Below.refl _ w).alloc (Nat.le_refl _) _
 have R0:=Box.new w [.int .i64 0,.string ⟨#[]⟩,.int .i64 0,.int .i64 0,.string ⟨#[]⟩,.string ⟨#[]⟩,.slice none 0 0] 27
 have HZ:Hid (w.heap.size+1≤(w.alloc (.cells #[.int .i64 0,.string ⟨#[]⟩,.int .i64 0,.int .i64 0,.string ⟨#[]⟩,.string ⟨#[]⟩,.slice none 0 0] 27)).heap.size):=by show _≤_;simp
 have HD:=Lib.hid hd
 have HC:=Lib.hid hc
 cases hx:isP s [45] with
 | false =>
  have HE:Hid (mnL D s=prL D s):=by show minusP _ _ s=_;unfold minusP;rw [if_neg (by rw [hx];decide)]
  have HM:=Lib.hid (maybe_no s [45] hx _ B d (hp.below bw))
  clear hx hd hc hp
  go_enter Tryz.func179,Tryz.ntmps179
  go_wp2_with (first|(go_at_call 88;refine HM.out.mono ?_;rintro e w1 ⟨rfl,hK1,hP1⟩)|(go_at_call 180;refine (HC.out _ _ hP1).mono ?_;rintro e w2 ⟨ao,cp,rfl,hA,hK,hP⟩;have R3:=(R0.kept hK1 (by show ¬ w.heap.size=B;omega)).kept hK (by show ¬ w.heap.size=B;omega);obtain ⟨z0,z1,z2,z3,z4,z5,z6⟩:=(R3).seven;obtain ⟨f0,f1,f2,f3,f4,f5,f6⟩:=(R3).free7))
  have SP:=(R3).setN (vs:=[.int .i64 (prL D s).1.k,.string ⟨(prL D s).1.nm.toArray⟩,.int .i64 (prL D s).1.v.k,.int .i64 (prL D s).1.v.n,.string ⟨(prL D s).1.v.t.toArray⟩,.string ⟨(prL D s).1.op.toArray⟩,.slice ao (prL D s).1.xs.length cp]) rfl
  have K9:=Kept.setN (S:=fun b=>b=w.heap.size) (B:=w.heap.size) (.inl rfl) [.int .i64 (prL D s).1.k,.string ⟨(prL D s).1.nm.toArray⟩,.int .i64 (prL D s).1.v.k,.int .i64 (prL D s).1.v.n,.string ⟨(prL D s).1.v.t.toArray⟩,.string ⟨(prL D s).1.op.toArray⟩,.slice ao (prL D s).1.xs.length cp] 0 (Kept.refl _ w2)
  dsimp only [setN] at SP K9
  obtain ⟨p0,p1,p2,p3,p4,p5,p6⟩:=SP.seven
  refine bodyPost_ret (by simp [results,Tryz.results179,go_sem,p0,p1,p2,p3,p4,p5,p6];try rfl) rfl ?_
  rw [HE.out]
  exact ⟨_,_,rfl,(hA).both K9 (fun b _ hb e=>by have e':b=w.heap.size:=e;have:=HZ.out;have:=hK1.size;omega) (fun b _ hb=>by have:=HZ.out;have:=hK1.size;omega),(((Kept.of_below bw).trans hK1).trans hK).then K9 (fun k hk e=>by have e':k=w.heap.size:=e;omega),(hP).apart K9 (by omega)⟩
 | true =>
  have HM:=Lib.hid (maybe_yes s [45] hx _ B d (hp.below bw))
  obtain ⟨t,ht⟩:∃ t,peekP (advP s)=t:=⟨_,rfl⟩
  obtain ⟨Y,hY⟩:∃ Y:ByteArray,(⟨t.t.toArray⟩:ByteArray)=Y:=⟨_,rfl⟩
  have HPK:=Lib.hid (fun W hW=>peek_to (advP s) t Y ht hY W B d hW)
  have hbd:0≤t.n∧t.n≤9223372036854775807:=by rw [← ht];exact peek_bd (s:=advP s) hp.2.2.2.1
  by_cases h2:t.k=2∧0 < t.n
  ·have hi2:=(peek_some (s:=advP s) (by rw [ht,h2.1];decide)).2.1
   obtain ⟨h2k,hpos⟩:=h2
   obtain ⟨n0,hn0⟩:∃ n0,t.n=n0:=⟨_,rfl⟩
   rw [hn0] at hpos hbd HPK
   rw [h2k] at HPK
   have HE:Hid (mnL D s=((constE ⟨1,-n0,[]⟩),advP (advP s))):=by
    show minusP _ _ s=_
    unfold minusP
    rw [if_pos hx,if_pos (by rw [ht];exact ⟨h2k,by rw [hn0];exact hpos⟩),ht,hn0]
   have HCO:Hid (∀ W,Calls Tryz.prog 26 #[.agg #[.int .i64 1,.int .i64 (-n0),.string ⟨#[]⟩]] W (MadeTo W (fun _=>False) (constE ⟨1,-n0,[]⟩))):=fun W=>const_any 1 (-n0) [] W _
   have HI2:=Lib.hid hi2
   have htl:=hp.tl
   obtain ⟨ii,hii⟩:∃ ii,(advP s).i=ii:=⟨_,rfl⟩
   have hil2:ii≤20000:=by rw [← hii];have:(advP s).T.length=s.T.length:=rfl;omega
   have HII:=Lib.hid hii
   obtain ⟨hb0,hb9⟩:=hbd
   clear hx hd hc hp ht hY h2k hn0 hi2 htl hii
   go_enter Tryz.func179,Tryz.ntmps179
   go_wp2_with fail
   generalize w.alloc (.cells #[.int .i64 0,.string ⟨#[]⟩,.int .i64 0,.int .i64 0,.string ⟨#[]⟩,.string ⟨#[]⟩,.slice none 0 0] 27)=W0 at *
   refine HM.out.mono ?_
   rintro e w1 ⟨rfl,hK1,hP1⟩
   have HP1:=Lib.hid hP1
   have KW1:=Lib.hid ((Kept.of_below bw).trans hK1)
   have R1:=R0.kept hK1 (by show ¬ w.heap.size=B;omega)
   have hz1:=hK1.size
   clear hK1 R0 hP1 bw
   go_upto_region 5 with (go_at_call 143;refine (HPK.out _ HP1.out).mono ?_;rintro e w2 ⟨rfl,hb2⟩)
   have bw3:=hb2.alloc hb2.size (.cells #[.int .i64 2,.string Y,.int .i64 n0,.int .i64 (t.p:Int)] 169)
   have X3:=Box.new w2 [.int .i64 2,.string Y,.int .i64 n0,.int .i64 (t.p:Int)] 169
   have R3:=(R1.next hb2).alloc (.cells #[.int .i64 2,.string Y,.int .i64 n0,.int .i64 (t.p:Int)] 169)
   have P3:=HP1.out.below bw3
   have HP3:=Lib.hid P3
   have hz3:=bw3.size
   have hz2:=hb2.size
   obtain ⟨_,_,_,_,sl,hbx,_⟩:=P3
   rw [HII.out] at hbx
   generalize w2.alloc (.cells #[.int .i64 2,.string Y,.int .i64 n0,.int .i64 (t.p:Int)] 169)=W3 at *
   obtain ⟨b0,b1,b2,b3,b4,b5,g1,g3,g4,g5⟩:=hbx.six
   obtain ⟨T,hT⟩:∃ T,w2.heap.size=T:=⟨_,rfl⟩
   have hBT:B < T:=by have:=(R1.lt);omega
   have hRT:w.heap.size < T:=by have:=R1.lt;omega
   rw [hT] at X3
   try rw [hT]
   go_upto_region 6 with (fail)
   have X4:=X3.other (C:=B) (by omega) 1 (.int .i64 ((ii:Int)+1))
   have R4:=R3.other (C:=B) (by omega) 1 (.int .i64 ((ii:Int)+1))
   have K4:=(Kept.refl (fun b=>b=B) W3).set ⟨B,1,none⟩ (.inl rfl) (.int .i64 ((ii:Int)+1))
   have P4:PAt (W3.setCell ⟨B,1,none⟩ (.int .i64 ((ii:Int)+1))) B d (advP (advP s)):=HP3.out.next HI2.out K4 (fun sl h=>by have:=h.put 1 (.int .i64 (((advP s).i:Int)+1));rw [HII.out] at this ⊢;exact this)
   have HP4:=Lib.hid P4
   have KW4:=Lib.hid ((KW1.out.behind bw3).trans K4)
   have hz4:W3.heap.size≤(W3.setCell ⟨B,1,none⟩ (.int .i64 ((ii:Int)+1))).heap.size:=K4.size
   clear b0 b1 b2 b3 b4 b5 g1 g3 g4 g5 hbx X3 R3 K4 P4
   generalize W3.setCell ⟨B,1,none⟩ (.int .i64 ((ii:Int)+1))=W4 at *
   obtain ⟨x0,x1,x2,x3⟩:=X4.four'
   have hneg:IntKind.i64.wrap (-n0)=-n0:=IntWalk.i64_in _ (by omega)
   go_wp2_with (first|(go_at_call 27;refine (Va.of_any (-n0) _).mono ?_;rintro e w5 ⟨rfl,hb5⟩)|(go_at_call 26;refine (HCO.out _).mono ?_;rintro e w6 ⟨ao,cp,rfl,hA6,hb6⟩;have R6:=(R4.next hb5).next hb6;obtain ⟨z0,z1,z2,z3,z4,z5,z6⟩:=(R6).seven;obtain ⟨f0,f1,f2,f3,f4,f5,f6⟩:=(R6).free7))
   have SP:=(R6).setN (vs:=[.int .i64 (constE ⟨1,-n0,[]⟩).k,.string ⟨(constE ⟨1,-n0,[]⟩).nm.toArray⟩,.int .i64 (constE ⟨1,-n0,[]⟩).v.k,.int .i64 (constE ⟨1,-n0,[]⟩).v.n,.string ⟨(constE ⟨1,-n0,[]⟩).v.t.toArray⟩,.string ⟨(constE ⟨1,-n0,[]⟩).op.toArray⟩,.slice ao (constE ⟨1,-n0,[]⟩).xs.length cp]) rfl
   have K9:=Kept.setN (S:=fun b=>b=w.heap.size) (B:=w.heap.size) (.inl rfl) [.int .i64 (constE ⟨1,-n0,[]⟩).k,.string ⟨(constE ⟨1,-n0,[]⟩).nm.toArray⟩,.int .i64 (constE ⟨1,-n0,[]⟩).v.k,.int .i64 (constE ⟨1,-n0,[]⟩).v.n,.string ⟨(constE ⟨1,-n0,[]⟩).v.t.toArray⟩,.string ⟨(constE ⟨1,-n0,[]⟩).op.toArray⟩,.slice ao (constE ⟨1,-n0,[]⟩).xs.length cp] 0 (Kept.refl _ w6)
   dsimp only [setN] at SP K9
   obtain ⟨p0,p1,p2,p3,p4,p5,p6⟩:=SP.seven
   refine bodyPost_ret (by simp [results,Tryz.results179,go_sem,p0,p1,p2,p3,p4,p5,p6];try rfl) rfl ?_
   rw [HE.out]
   exact ⟨_,_,rfl,(hA6).both K9 (fun b _ hb e=>by have e':b=w.heap.size:=e;rcases hb with hb|hb;exact hb.elim;have:=R4.lt;have:=hb5.size;omega) (fun b _ hb=>by rcases hb with hb|hb;exact hb.elim;have:=R4.lt;have:=hb5.size;omega),((KW4.out.behind hb5).behind hb6).then K9 (fun k hk e=>by have e':k=w.heap.size:=e;omega),((HP4.out.below hb5).below hb6).apart K9 (by omega)⟩
  ·have HE:Hid (mnL D s=((unaryE [45] (D.dminus (advP s)).1),(D.dminus (advP s)).2)):=by
    show minusP _ _ s=_
    unfold minusP
    rw [if_pos hx,if_neg (by rw [ht];exact h2)]
   obtain ⟨kk,hkk⟩:∃ q,t.k=q:=⟨_,rfl⟩
   obtain ⟨n0,hn0⟩:∃ n0,t.n=n0:=⟨_,rfl⟩
   have HQ:(kk == 2)=false∨(kk=2∧n0≤0):=by
    by_cases h:t.k=2
    ·exact .inr ⟨by rw [← hkk];exact h,by have:¬ 0 < t.n:=fun h3=>h2 ⟨h,h3⟩;omega⟩
    ·exact .inl (by rw [← hkk];simpa using h)
   rw [hkk,hn0] at HPK
   clear hx hd hc hp ht hY h2 hkk hn0 hbd
   rcases HQ with hq|⟨rfl,hq⟩
   ·skip
    go_enter Tryz.func179,Tryz.ntmps179
    go_wp2_with fail
    generalize w.alloc (.cells #[.int .i64 0,.string ⟨#[]⟩,.int .i64 0,.int .i64 0,.string ⟨#[]⟩,.string ⟨#[]⟩,.slice none 0 0] 27)=W0 at *
    refine HM.out.mono ?_
    rintro e w1 ⟨rfl,hK1,hP1⟩
    have HP1:=Lib.hid hP1
    have KW1:=Lib.hid ((Kept.of_below bw).trans hK1)
    have R1:=R0.kept hK1 (by show ¬ w.heap.size=B;omega)
    have hz1:=hK1.size
    clear hK1 R0 hP1 bw
    go_upto_region 7 with (go_at_call 143;refine (HPK.out _ HP1.out).mono ?_;rintro e w2 ⟨rfl,hb2⟩;try have x0:=World.cell?_alloc_at #[.int .i64 kk,.string Y,.int .i64 n0,.int .i64 (t.p:Int)] 169 w2 0 rfl)
    have bw3:=hb2.alloc hb2.size (.cells #[.int .i64 kk,.string Y,.int .i64 n0,.int .i64 (t.p:Int)] 169)
    have X3:=Box.new w2 [.int .i64 kk,.string Y,.int .i64 n0,.int .i64 (t.p:Int)] 169
    have R3:=(R1.next hb2).alloc (.cells #[.int .i64 kk,.string Y,.int .i64 n0,.int .i64 (t.p:Int)] 169)
    have P3:=HP1.out.below bw3
    have HP3:=Lib.hid P3
    have hz3:=bw3.size
    have hz2:=hb2.size
    have KW3:=Lib.hid (KW1.out.behind bw3)
    have hBT:B < w2.heap.size:=by have:=HP1.out.lt;omega
    have hRT:w.heap.size < w2.heap.size:=by have:=R1.lt;omega
    generalize w2.alloc (.cells #[.int .i64 kk,.string Y,.int .i64 n0,.int .i64 (t.p:Int)] 169)=W3 at *
    go_wp2_with (first|(go_at_call 79;refine (HD.out _ _ HP3.out).mono ?_;rintro e w5 ⟨ao,cp,rfl,hA,hK,hP⟩)|(go_at_call 157;refine (unary_any [45] (D.dminus (advP s)).1 _ w5 (fun b=>W3.heap.size≤b) hA).mono ?_;rintro e w6 ⟨ao3,cp3,rfl,hA3,hb6⟩;have R6:=(R3.kept hK (by show ¬ w.heap.size=B;omega)).next hb6;obtain ⟨z0,z1,z2,z3,z4,z5,z6⟩:=(R6).seven;obtain ⟨f0,f1,f2,f3,f4,f5,f6⟩:=(R6).free7))
    have SP:=(R6).setN (vs:=[.int .i64 (unaryE [45] (D.dminus (advP s)).1).k,.string ⟨(unaryE [45] (D.dminus (advP s)).1).nm.toArray⟩,.int .i64 (unaryE [45] (D.dminus (advP s)).1).v.k,.int .i64 (unaryE [45] (D.dminus (advP s)).1).v.n,.string ⟨(unaryE [45] (D.dminus (advP s)).1).v.t.toArray⟩,.string ⟨(unaryE [45] (D.dminus (advP s)).1).op.toArray⟩,.slice ao3 (unaryE [45] (D.dminus (advP s)).1).xs.length cp3]) rfl
    have K9:=Kept.setN (S:=fun b=>b=w.heap.size) (B:=w.heap.size) (.inl rfl) [.int .i64 (unaryE [45] (D.dminus (advP s)).1).k,.string ⟨(unaryE [45] (D.dminus (advP s)).1).nm.toArray⟩,.int .i64 (unaryE [45] (D.dminus (advP s)).1).v.k,.int .i64 (unaryE [45] (D.dminus (advP s)).1).v.n,.string ⟨(unaryE [45] (D.dminus (advP s)).1).v.t.toArray⟩,.string ⟨(unaryE [45] (D.dminus (advP s)).1).op.toArray⟩,.slice ao3 (unaryE [45] (D.dminus (advP s)).1).xs.length cp3] 0 (Kept.refl _ w6)
    dsimp only [setN] at SP K9
    obtain ⟨p0,p1,p2,p3,p4,p5,p6⟩:=SP.seven
    refine bodyPost_ret (by simp [results,Tryz.results179,go_sem,p0,p1,p2,p3,p4,p5,p6];try rfl) rfl ?_
    rw [HE.out]
    exact ⟨_,_,rfl,(hA3).both K9 (fun b _ hb e=>by have e':b=w.heap.size:=e;have:=R3.lt;have:=hK.size;omega) (fun b _ hb=>by have:=R3.lt;have:=hK.size;omega),((KW3.out.trans hK).behind hb6).then K9 (fun k hk e=>by have e':k=w.heap.size:=e;omega),(hP.below hb6).apart K9 (by omega)⟩
   ·skip
    go_enter Tryz.func179,Tryz.ntmps179
    go_wp2_with fail
    generalize w.alloc (.cells #[.int .i64 0,.string ⟨#[]⟩,.int .i64 0,.int .i64 0,.string ⟨#[]⟩,.string ⟨#[]⟩,.slice none 0 0] 27)=W0 at *
    refine HM.out.mono ?_
    rintro e w1 ⟨rfl,hK1,hP1⟩
    have HP1:=Lib.hid hP1
    have KW1:=Lib.hid ((Kept.of_below bw).trans hK1)
    have R1:=R0.kept hK1 (by show ¬ w.heap.size=B;omega)
    have hz1:=hK1.size
    clear hK1 R0 hP1 bw
    go_upto_region 7 with (go_at_call 143;refine (HPK.out _ HP1.out).mono ?_;rintro e w2 ⟨rfl,hb2⟩;try have x0:=World.cell?_alloc_at #[.int .i64 2,.string Y,.int .i64 n0,.int .i64 (t.p:Int)] 169 w2 0 rfl)
    have bw3:=hb2.alloc hb2.size (.cells #[.int .i64 2,.string Y,.int .i64 n0,.int .i64 (t.p:Int)] 169)
    have X3:=Box.new w2 [.int .i64 2,.string Y,.int .i64 n0,.int .i64 (t.p:Int)] 169
    have R3:=(R1.next hb2).alloc (.cells #[.int .i64 2,.string Y,.int .i64 n0,.int .i64 (t.p:Int)] 169)
    have P3:=HP1.out.below bw3
    have HP3:=Lib.hid P3
    have hz3:=bw3.size
    have hz2:=hb2.size
    have KW3:=Lib.hid (KW1.out.behind bw3)
    have hBT:B < w2.heap.size:=by have:=HP1.out.lt;omega
    have hRT:w.heap.size < w2.heap.size:=by have:=R1.lt;omega
    generalize w2.alloc (.cells #[.int .i64 2,.string Y,.int .i64 n0,.int .i64 (t.p:Int)] 169)=W3 at *
    go_wp2_with (first|(go_at_call 79;refine (HD.out _ _ HP3.out).mono ?_;rintro e w5 ⟨ao,cp,rfl,hA,hK,hP⟩)|(go_at_call 157;refine (unary_any [45] (D.dminus (advP s)).1 _ w5 (fun b=>W3.heap.size≤b) hA).mono ?_;rintro e w6 ⟨ao3,cp3,rfl,hA3,hb6⟩;have R6:=(R3.kept hK (by show ¬ w.heap.size=B;omega)).next hb6;obtain ⟨z0,z1,z2,z3,z4,z5,z6⟩:=(R6).seven;obtain ⟨f0,f1,f2,f3,f4,f5,f6⟩:=(R6).free7))
    have SP:=(R6).setN (vs:=[.int .i64 (unaryE [45] (D.dminus (advP s)).1).k,.string ⟨(unaryE [45] (D.dminus (advP s)).1).nm.toArray⟩,.int .i64 (unaryE [45] (D.dminus (advP s)).1).v.k,.int .i64 (unaryE [45] (D.dminus (advP s)).1).v.n,.string ⟨(unaryE [45] (D.dminus (advP s)).1).v.t.toArray⟩,.string ⟨(unaryE [45] (D.dminus (advP s)).1).op.toArray⟩,.slice ao3 (unaryE [45] (D.dminus (advP s)).1).xs.length cp3]) rfl
    have K9:=Kept.setN (S:=fun b=>b=w.heap.size) (B:=w.heap.size) (.inl rfl) [.int .i64 (unaryE [45] (D.dminus (advP s)).1).k,.string ⟨(unaryE [45] (D.dminus (advP s)).1).nm.toArray⟩,.int .i64 (unaryE [45] (D.dminus (advP s)).1).v.k,.int .i64 (unaryE [45] (D.dminus (advP s)).1).v.n,.string ⟨(unaryE [45] (D.dminus (advP s)).1).v.t.toArray⟩,.string ⟨(unaryE [45] (D.dminus (advP s)).1).op.toArray⟩,.slice ao3 (unaryE [45] (D.dminus (advP s)).1).xs.length cp3] 0 (Kept.refl _ w6)
    dsimp only [setN] at SP K9
    obtain ⟨p0,p1,p2,p3,p4,p5,p6⟩:=SP.seven
    refine bodyPost_ret (by simp [results,Tryz.results179,go_sem,p0,p1,p2,p3,p4,p5,p6];try rfl) rfl ?_
    rw [HE.out]
    exact ⟨_,_,rfl,(hA3).both K9 (fun b _ hb e=>by have e':b=w.heap.size:=e;have:=R3.lt;have:=hK.size;omega) (fun b _ hb=>by have:=R3.lt;have:=hK.size;omega),((KW3.out.trans hK).behind hb6).then K9 (fun k hk e=>by have e':k=w.heap.size:=e;omega),(hP.below hb6).apart K9 (by omega)⟩
end Go.Proofs.YtonkjhmkppeagaaGreatDoor.Pz
