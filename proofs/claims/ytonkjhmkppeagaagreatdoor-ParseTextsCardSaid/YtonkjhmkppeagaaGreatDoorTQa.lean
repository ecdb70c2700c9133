/- Walks: names with commas between. Walks: what the reader's closures gather; schemes, mappings. -/
import Derived.Test.YtonkjhmkppeagaaGreatDoorTSt
import Derived.Test.YtonkjhmkppeagaaGreatDoorTPsG
set_option linter.unusedVariables false
set_option linter.unusedSimpArgs false
namespace Go.Proofs.YtonkjhmkppeagaaGreatDoor.Pz
open Go.RowKit Go Go.Sort Ba Lx
theorem iStr_:(Tryz.prog.info? 9).map (fun i=>(i.zero,i.size,i.bytes))=some (some (.string ⟨#[]⟩),1,16):=by kernel_rfl
theorem iStr2_:(Tryz.prog.info? 9).map (fun i=>(i.zero,i.size))=some (some (.string ⟨#[]⟩),1):=by kernel_rfl
theorem zSStr_:(Tryz.prog.info? 48).bind (·.zero)=some (.slice none 0 0):=by kernel_rfl
theorem row_str {W:World} {ok:Nat→Prop} (n:Str):Row W ok (strD n) [.string ⟨n.toArray⟩]:=(Row.nil W ok).cons (.v _ rfl)
set_option maxRecDepth 100000 in
set_option maxHeartbeats 1600000 in
theorem names1_any {w0:World} {B A C ia ic d:Nat} {Lf:Value→List Bx} {D:List (List Dat × List Value)} {O:List Ow} (hA:∀ v,(Lf v)[ia]?=some (A,[v])) (hC:∀ v,(Lf v)[ic]?=some (C,[.pointer (some ⟨B,0,none⟩)])) (hset:∀ v v',(Lf v).set ia (A,[v'])=Lf v') (w:World) (acc:List Str) (s:Ps) (h:Gt 0 B d w0 Lf D O 9 1 strD w acc s) :
 Calls Tryz.prog 147 #[.pointer (some ⟨A,0,none⟩),.pointer (some ⟨C,0,none⟩)] w fun e w'=>e=.returned (.tuple #[])∧Gt 1 B d w0 Lf D O 9 1 strD w' (acc++[(nameP s).1]) (nameP s).2:=by
 obtain ⟨hacc,v,cells,hs⟩:=h
 have hil:=hs.pat.il
 have htl:=hs.pat.tl
 have HG:Hid (acc.length+1≤(nameP s).2.i+1):=by
  have:=(goes_name s).i
  show acc.length+1≤(nameP s).2.i+1
  omega
 have hacc2:acc.length≤20000:=by omega
 have H:=Lib.hid hs.drew
 have HA:=Lib.hid hA
 have HC:=Lib.hid hC
 have hset':Hid (∀ v v' (p:Bx),(((p::Lf v).set (ia+1) (A,[v']))=p::Lf v')):=fun v v' p=>by show p::(Lf v).set ia (A,[v'])=_;rw [hset]
 clear hs hacc
 go_enter Tryz.func147,Tryz.ntmps147
 refine wp_region_M_drew 5 (S:=fun W=>(W.cell? ⟨A,0,none⟩=some v∧W.cell? ⟨C,0,none⟩=some (.pointer (some ⟨B,0,none⟩)))) (by kernel_rfl) (by exact ⟨H.out.cell (hA _) rfl,H.out.cell (hC _) rfl⟩) (fun hHeld=>?_)
 refine tkM 0 rfl (by kernel_rfl) hHeld (Or.inl ⟨by rfl,by intro w hSw;(try dsimp only at hSw);go_simp<;>with_reducible rfl⟩) ?_
 try simp only [Array.reduceGetElem,zs]
 refine tkM 1 rfl (by kernel_rfl) hHeld (Or.inl ⟨by rfl,by intro w hSw;(try dsimp only at hSw);go_simp<;>with_reducible rfl⟩) ?_
 try simp only [Array.reduceGetElem,zs]
 refine wpAnyM_ready (rs:=[2]) (by kernel_rfl) (by simp) ?_
 refine AllReadyM.cons rfl (fun K hK=>?_) AllReadyM.nil
 go_simp
 go_at_call 109
 (with_reducible (refine (name_any s _ B d H.out.pat).mono ?_))
 rintro e wc ⟨rfl,hK2,hP2⟩
 have H2:=H.out.call hK2 hP2
 clear hK2 hP2
 try dsimp only
 refine hK.out _ _ ?_ (fun hHeld2=>?_)
 ·exact ⟨H2.cell (hA _) rfl,H2.cell (hC _) rfl⟩
 clear hK K hHeld
 have hHeld:=hHeld2
 clear hHeld2
 clear H
 have H:=Lib.hid H2
 clear H2
 try simp only [Array.reduceGetElem,zs]
 refine wpAnyM_ready (rs:=[3]) (by kernel_rfl) (by simp) ?_
 refine AllReadyM.cons rfl (fun K hK=>?_) AllReadyM.nil
 rw [if_pos (by rfl)]
 refine H.out.o_lit rfl Tryz.underlying48 iStr2_ [.string ⟨(nameP s).1.toArray⟩] rfl rfl rfl (by decide) (by decide) (by decide) (by intro v hv;obtain rfl:=List.mem_singleton.1 hv;rfl) rfl (fun wl Cl _ H2=>?_)
 refine hK.out _ _ ?_ (fun hHeld2=>?_)
 ·exact ⟨H2.cell (i:=ia+1) (hA _) rfl,H2.cell (i:=ic+1) (hC _) rfl⟩
 clear hK K hHeld
 have hHeld:=hHeld2
 clear hHeld2
 clear H
 have H:=Lib.hid H2
 clear H2
 try simp only [Array.reduceGetElem,zs]
 refine wpAnyM_ready (rs:=[4]) (by kernel_rfl) (by simp) ?_
 refine AllReadyM.cons rfl (fun K hK=>?_) AllReadyM.nil
 rw [if_pos (by rfl)]
 refine H.out.o_append (r:=strD (nameP s).1) rfl Tryz.underlying48 iStr_ rfl (by decide) (by decide) 0 rfl rfl rfl rfl rfl 0 rfl rfl (row_str _) (by show (acc.map strD).length+1≤1000000;rw [List.length_map];omega) (fun wl ao cap _ H2=>?_)
 refine hK.out _ _ ?_ (fun hHeld2=>?_)
 ·exact ⟨H2.cell (i:=ia+1) (hA _) rfl,H2.cell (i:=ic+1) (hC _) rfl⟩
 clear hK K hHeld
 have hHeld:=hHeld2
 clear hHeld2
 clear H
 have H:=Lib.hid H2
 clear H2
 try simp only [Array.reduceGetElem,zs]
 refine wpAnyM_ready (rs:=[5]) (by kernel_rfl) (by simp) ?_
 refine AllReadyM.last rfl (by kernel_rfl) (fun K hK=>?_) AllReadyM.nil
 rw [if_pos (by rfl)]
 refine H.out.o_store1 rfl rfl rfl (ia+1) (us:=[v]) (hA _) (by show 0 < 1;decide) sSStr_ rfl (fun wl H2=>?_)
 refine hK.out _ _ ?_
 clear hK K
 clear H
 have H:=Lib.hid H2
 clear H2
 try simp only [Array.reduceGetElem,zs]
 refine wpAnyM_done (by kernel_rfl) ?_ _
 go_wp2_with fail
 go_end0
 have H3:=H.out.drop (L':=Lf (.slice ao ((acc.map strD).length+1) cap)) (by rw [show (List.set (_::Lf v) (ia+1) _)=_ from List.set_cons_succ ..,show [v].set 0 _=[_] from rfl,hset];exact List.sublist_cons_self _ _)
 exact ⟨rfl,by show (acc++[(nameP s).1]).length≤_;rw [List.length_append];show acc.length+1≤_;have:=HG.out;omega,_,_,by rw [List.map_append];exact H3⟩
theorem gather_any {α:Type} (Fn:FuncId) (hF:Enters Tryz.prog Fn) (cap:Array Value) (f:List α→Ps→List α × Ps) (hG:∀ a s,Goes s (f a s).2) {w0:World} {B d:Nat} {Lf:Value→List Bx} {D:List (List Dat × List Value)} {O:List Ow} {T:TypeId} {k:Nat} {rD:α→List Dat}
 (hC:∀ W acc s,Gt 0 B d w0 Lf D O T k rD W acc s→Calls Tryz.prog Fn cap W fun e W'=>e=.returned (.tuple #[])∧Gt 1 B d w0 Lf D O T k rD W' (f acc s).1 (f acc s).2) (w:World) (s:Ps) (h:Sr B d w0 w s (Lf (.slice none 0 0)) D O) :
 Calls Tryz.prog 110 #[.pointer (some ⟨B,0,none⟩),.func (.func Fn) #[] cap] w fun e w'=>e=.returned (.tuple #[])∧∃ ao cp cells,Sr B d w0 w' (listP f [] s).2 (Lf (.slice ao ((listP f [] s).1.map rD).length cp)) D (⟨T,k,.slice ao ((listP f [] s).1.map rD).length cp,(listP f [] s).1.map rD,cells⟩::O) :=
 (list_any Fn hF #[] cap f (Gt 0 B d w0 Lf D O T k rD) (Gt 1 B d w0 Lf D O T k rD) B d (fun _ _ _ h=>h.pat) (fun _ _ _ h=>h.pat) (fun _ _ _ _ h hK hP=>h.call hK hP (Nat.le_refl _)) (fun _ _ a s h hK hP=>h.call hK hP (by show s.i+1≤s.i+1+0;omega)) hG (fun W a s hg=>by rw [Array.empty_append];exact hC W a s hg) [] s w (Gt.start h T k rD)).mono
  fun e w' ⟨he,_,v,cells,hs⟩=>by
   have hform:∃ ao cp,v=.slice ao ((listP f [] s).1.map rD).length cp:=by
    rcases (hs.st.own _ List.mem_cons_self).2 with ⟨e1,e2⟩|⟨g,cp,cur,e1,_⟩
    ·exact ⟨none,0,by rw [show v=_ from e1,show ((listP f [] s).1.map rD).length=0 from e2]⟩
    ·exact ⟨_,cp,e1⟩
   obtain ⟨ao,cp,rfl⟩:=hform
   exact ⟨he,ao,cp,cells,hs⟩
def NamesTo (w:World) (B d:Nat) (r:List Str × Ps) (e:Ending) (w':World):Prop:=∃ ao cp,e=.returned (.slice ao r.1.length cp)∧Rep w' (fun b=>w.heap.size≤b) (.sl 1 (r.1.map strD)) (.slice ao r.1.length cp)∧Kept (fun b=>b=B) w w'∧PAt w' B d r.2
theorem rep1 {W:World} {ok:Nat→Prop} {d:Dat} {v:Value} (h:Row W ok [d] [v]):Rep W ok d v:=h.2 0 _ _ rfl rfl
set_option maxRecDepth 100000 in
set_option maxHeartbeats 1600000 in
theorem names_any (s:Ps) (w:World) (B d:Nat) (h:PAt w B d s):Calls Tryz.prog 120 #[.pointer (some ⟨B,0,none⟩)] w (NamesTo w B d (namesP s)):=by
 have H:=Lib.hid (Sr.start h)
 have HG:Hid (∀ (C A:Nat) (W:World),Sr B d w W s [(A,[.slice none 0 0]),(C,[.pointer (some ⟨B,0,none⟩)])] [] []→Calls Tryz.prog 110 #[.pointer (some ⟨B,0,none⟩),.func (.func 147) #[] #[.pointer (some ⟨A,0,none⟩),.pointer (some ⟨C,0,none⟩)]] W fun e w'=>e=.returned (.tuple #[])∧∃ ao cp cells,Sr B d w w' (namesP s).2 [(A,[.slice ao ((namesP s).1.map strD).length cp]),(C,[.pointer (some ⟨B,0,none⟩)])] [] [⟨9,1,.slice ao ((namesP s).1.map strD).length cp,(namesP s).1.map strD,cells⟩]):=fun C A W hs =>
  gather_any (Lf:=fun v=>[(A,[v]),(C,[.pointer (some ⟨B,0,none⟩)])]) 147 (enters_of Tryz.func147 (by kernel_rfl) rfl) _ (fun a s=>(a++[(nameP s).1],(nameP s).2)) (fun a s=>goes_name s) (fun W acc s hg=>names1_any (ia:=0) (ic:=1) (fun _=>rfl) (fun _=>rfl) (fun _ _=>rfl) W acc s hg) W s hs
 clear h
 go_enter Tryz.func120,Tryz.ntmps120
 go_wp2_with (first|(refine Sr.w_box H.out (by rfl) rfl rfl rfl ?_;intro wn Cn H2;replace H:=Lib.hid H2;clear H2)|(refine Sr.w_alloc (ty:=48) H.out (by rfl) rfl zSStr_ rfl ?_;intro wn Cn H2;replace H:=Lib.hid H2;clear H2)|(first|(refine St.w_load1 (ty:=112) H.out.st (by rfl) rfl rfl 0 rfl rfl uPar_ ?_)|(refine St.w_load1 (ty:=112) H.out.st (by rfl) rfl rfl 1 rfl rfl uPar_ ?_))|(first|(refine St.w_load1 (ty:=48) H.out.st (by rfl) rfl rfl 0 rfl rfl uSStr_ ?_)|(refine St.w_load1 (ty:=48) H.out.st (by rfl) rfl rfl 1 rfl rfl uSStr_ ?_))|(go_at_call 110;(with_reducible (refine (HG.out _ _ _ H.out).mono ?_));rintro e wc ⟨rfl,ao,cp,cells,H2⟩;replace H:=Lib.hid H2;clear H2))
 go_ret
 have H3:=H.out.shut
 have hr:=(rep1 (H3.st.rowAt (j:=0) rfl)).weak (ok':=fun b=>w.heap.size≤b) (fun b _ ho=>ho.1)
 rw [List.length_map] at hr
 exact ⟨ao,cp,rfl,hr,H3.st.kept,H3.pat⟩
end Go.Proofs.YtonkjhmkppeagaaGreatDoor.Pz
namespace Go.Proofs.YtonkjhmkppeagaaGreatDoor.Pz
open Go.RowKit Go Go.Sort Ba Lx
theorem ops_box {B d:Nat} {w0 w:World} {s:Ps} {L:List Bx} {D:List (List Dat × List Value)} {O:List Ow} (h:Sr B d w0 w s L D O) {i G n:Nat} {cs:List Value} (hi:L[i]?=some (G,cs)) (ws:List Str) (hc:cs=ws.map fun x=>.string ⟨x.toArray⟩) (hn:ws.length=n) (hl:ws.length≤100):OpsAt w B (.slice (some ⟨G,0,none⟩) n n) ws:=by
 subst hc hn
 have hb:=h.st.at hi
 have hG:=h.st.new _ (List.mem_of_getElem? hi)
 have hlt:=h.lt
 exact ⟨G,_,rfl,Nat.le_refl _,by unfold maxLen;omega,by omega,hb.lt,fun j x hx=>hb.cl j _ (by rw [List.getElem?_map,hx];rfl)⟩
theorem row_col {W:World} {ok:Nat→Prop} (n:Str) (t:Int):Row W ok (colD (n,t)) [.string ⟨n.toArray⟩,.int .i64 t]:=((Row.nil W ok).cons (.v _ rfl)).cons (.v _ rfl)
theorem row_inp {W:World} {ok:Nat→Prop} (x:Inp):Row W ok (inpD x) [.string ⟨x.a.toArray⟩,.int .i64 x.k,.int .i64 x.n,.string ⟨x.s.toArray⟩]:=((((Row.nil W ok).cons (.v _ rfl)).cons (.v _ rfl)).cons (.v _ rfl)).cons (.v _ rfl)
theorem row_pair {W:World} {ok:Nat→Prop} (x:Str × Str):Row W ok (pairD x) [.string ⟨x.1.toArray⟩,.string ⟨x.2.toArray⟩]:=((Row.nil W ok).cons (.v _ rfl)).cons (.v _ rfl)
theorem row_agg {W:World} {ok:Nat→Prop} (x:Str × Str × Str):Row W ok (aggD x) [.string ⟨x.1.toArray⟩,.string ⟨x.2.1.toArray⟩,.string ⟨x.2.2.toArray⟩]:=(((Row.nil W ok).cons (.v _ rfl)).cons (.v _ rfl)).cons (.v _ rfl)
theorem row_ord {W:World} {ok:Nat→Prop} (x:Str × Bool):Row W ok (ordD x) [.string ⟨x.1.toArray⟩,.bool x.2]:=((Row.nil W ok).cons (.v _ rfl)).cons (.v _ rfl)
theorem iCo_:(Tryz.prog.info? 92).map (fun i=>(i.zero,i.size,i.bytes))=some (some (.agg #[.string ⟨#[]⟩,.int .i64 0]),2,24):=by kernel_rfl
theorem iCo2_:(Tryz.prog.info? 92).map (fun i=>(i.zero,i.size))=some (some (.agg #[.string ⟨#[]⟩,.int .i64 0]),2):=by kernel_rfl
theorem iPr_:(Tryz.prog.info? 65).map (fun i=>(i.zero,i.size,i.bytes))=some (some (.agg #[.string ⟨#[]⟩,.string ⟨#[]⟩]),2,32):=by kernel_rfl
theorem iPr2_:(Tryz.prog.info? 65).map (fun i=>(i.zero,i.size))=some (some (.agg #[.string ⟨#[]⟩,.string ⟨#[]⟩]),2):=by kernel_rfl
theorem iAg_:(Tryz.prog.info? 67).map (fun i=>(i.zero,i.size,i.bytes))=some (some (.agg #[.string ⟨#[]⟩,.string ⟨#[]⟩,.string ⟨#[]⟩]),3,48):=by kernel_rfl
theorem iAg2_:(Tryz.prog.info? 67).map (fun i=>(i.zero,i.size))=some (some (.agg #[.string ⟨#[]⟩,.string ⟨#[]⟩,.string ⟨#[]⟩]),3):=by kernel_rfl
theorem iOr_:(Tryz.prog.info? 69).map (fun i=>(i.zero,i.size,i.bytes))=some (some (.agg #[.string ⟨#[]⟩,.bool false]),2,24):=by kernel_rfl
theorem iOr2_:(Tryz.prog.info? 69).map (fun i=>(i.zero,i.size))=some (some (.agg #[.string ⟨#[]⟩,.bool false]),2):=by kernel_rfl
theorem iIn_:(Tryz.prog.info? 102).map (fun i=>(i.zero,i.size,i.bytes))=some (some (.agg #[.string ⟨#[]⟩,.int .i64 0,.int .i64 0,.string ⟨#[]⟩]),4,48):=by kernel_rfl
theorem iIn2_:(Tryz.prog.info? 102).map (fun i=>(i.zero,i.size))=some (some (.agg #[.string ⟨#[]⟩,.int .i64 0,.int .i64 0,.string ⟨#[]⟩]),4):=by kernel_rfl
set_option maxRecDepth 100000 in
set_option maxHeartbeats 1600000 in
theorem source1_any {w0:World} {B A C ia ic d:Nat} {us:Value→List Value} {Lf:Value→List Bx} {D:List (List Dat × List Value)} {O:List Ow} (hA:∀ v,(Lf v)[ia]?=some (A,us v)) (hus:∀ v,(us v)[2]?=some v) (hC:∀ v,(Lf v)[ic]?=some (C,[.pointer (some ⟨B,0,none⟩)])) (hset:∀ v v',(Lf v).set ia (A,(us v).set 2 v')=Lf v') (w:World) (acc:List (Str × Int)) (s:Ps) (h:Gt 0 B d w0 Lf D O 92 2 colD w acc s) :
 Calls Tryz.prog 115 #[.pointer (some ⟨C,0,none⟩),.pointer (some ⟨A,0,none⟩)] w fun e w'=>e=.returned (.tuple #[])∧Gt 1 B d w0 Lf D O 92 2 colD w' (colItem acc s).1 (colItem acc s).2:=by
 obtain ⟨hacc,v,cells,hs⟩:=h
 have hil:=hs.pat.il
 have htl:=hs.pat.tl
 have HG:Hid (acc.length+1≤(colItem acc s).2.i+1):=by
  have:=(goes_colItem acc s).i
  show acc.length+1≤(colItem acc s).2.i+1
  omega
 have hacc2:acc.length≤20000:=by omega
 have H:=Lib.hid hs
 have hl:2 < (us v).length:=(List.getElem?_eq_some_iff.1 (hus v)).1
 have HL:=Lib.hid hl
 clear hs hacc hl
 go_enter Tryz.func115,Tryz.ntmps115
 go_wp2_with (first|(first|(refine St.w_load1 (ty:=112) H.out.st (by rfl) rfl rfl (ic+0) (hC v) rfl uPar_ ?_)|(refine St.w_load1 (ty:=112) H.out.st (by rfl) rfl rfl (ic+1) (hC v) rfl uPar_ ?_)|(refine St.w_load1 (ty:=112) H.out.st (by rfl) rfl rfl (ic+2) (hC v) rfl uPar_ ?_)|(refine St.w_load1 (ty:=112) H.out.st (by rfl) rfl rfl (ic+3) (hC v) rfl uPar_ ?_))|(refine Sr.w_alloc (ty:=92) H.out (by rfl) rfl zCo_ rfl ?_;intro wn Cn H2;replace H:=Lib.hid H2;clear H2)|(first|(refine Sr.w_store (ty:=92) H.out (by rfl) rfl rfl rfl 0 rfl rfl rfl sCo_ (all_one rfl) ?_;intro wn H2;replace H:=Lib.hid H2;clear H2))|(go_at_call 109;(with_reducible (refine (name_any s _ B d H.out.pat).mono ?_));rintro e wc ⟨rfl,hK,hP⟩;have H2:=H.out.call hK hP;clear hK hP;replace H:=Lib.hid H2;clear H2)|(refine Sr.w_lit H.out (by rfl) rfl Tryz.underlying48 iStr2_ [.string ⟨#[105,110,116]⟩,.string ⟨#[116,101,120,116]⟩] rfl rfl rfl (by decide) (by decide) (by decide) (all_k rfl) rfl ?_;intro wl Cl H2;replace H:=Lib.hid H2;clear H2)|(go_at_call 90;(with_reducible (refine (one_any [sInt,sText] (nameP s).2 (.slice (some ⟨_,0,none⟩) 2 2) _ B d (by decide) H.out.pat (ops_box H.out (i:=0) rfl [sInt,sText] rfl rfl (by decide))).mono ?_));rintro e wc ⟨rfl,hK,hP⟩;have H2:=H.out.call hK hP;clear hK hP;replace H:=Lib.hid H2;clear H2)|(first|(refine Sr.w_store1 (ty:=3) H.out (by rfl) rfl rfl rfl 0 rfl (Nat.le_of_ble_eq_true rfl) sInt_ rfl ?_;intro wn H2;replace H:=Lib.hid H2;clear H2)|(refine Sr.w_store1 (ty:=3) H.out (by rfl) rfl rfl rfl 1 rfl (Nat.le_of_ble_eq_true rfl) sInt_ rfl ?_;intro wn H2;replace H:=Lib.hid H2;clear H2))|(refine St.w_load1 (ty:=83) H.out.st (by rfl) rfl rfl (ia+2) (hA v) (hus v) uSch_ ?_)|(first|(refine St.w_load (ty:=92) H.out.st (by rfl) rfl rfl 0 rfl uCo_ sCo_ ?_)|(refine St.w_load (ty:=92) H.out.st (by rfl) rfl rfl 1 rfl uCo_ sCo_ ?_))|(refine Sr.w_lit1 H.out (by rfl) rfl Tryz.underlying83 iCo2_ rfl rfl (by decide) (by decide) rfl rfl ?_;intro wl Cl H2;replace H:=Lib.hid H2;clear H2)|(refine Sr.w_append (r:=colD ((nameP s).1,((oneP [sInt,sText] (nameP s).2).1:Int))) H.out (by rfl) rfl Tryz.underlying83 iCo_ rfl (by decide) (by decide) 0 rfl rfl rfl rfl rfl 0 rfl rfl (row_col _ _) (by show (acc.map colD).length+1≤1000000;rw [List.length_map];omega) ?_;intro wl ao cap H2;replace H:=Lib.hid H2;clear H2)|(refine Sr.w_store1 (ty:=83) H.out (by rfl) rfl rfl rfl (ia+3) (hA v) HL.out sSch_ rfl ?_;intro wn H2;replace H:=Lib.hid H2;clear H2))
 go_end0
 have H3:=H.out.drop (L':=Lf (.slice ao (acc.length+1) cap)) (by
  have e:=hset v (.slice ao (acc.length+1) cap)
  rw [← e]
  exact .cons _ (.cons _ (.cons _ (List.Sublist.refl _))))
 simp only [List.length_map] at H3
 have e1:(colItem acc s).1.map colD=acc.map colD++[colD ((nameP s).1,((oneP [sInt,sText] (nameP s).2).1:Int))]:=by
  show (acc++[_]).map colD=_
  rw [List.map_append];rfl
 exact ⟨rfl,by show (acc++[_]).length≤_;rw [List.length_append];exact HG.out,.slice ao (acc.length+1) cap,_,by rw [e1];exact H3⟩
set_option maxRecDepth 100000 in
set_option maxHeartbeats 1600000 in
theorem asset1_any {w0:World} {B A C ia ic d:Nat} {us:Value→List Value} {Lf:Value→List Bx} {D:List (List Dat × List Value)} {O:List Ow} (hA:∀ v,(Lf v)[ia]?=some (A,us v)) (hus:∀ v,(us v)[6]?=some v) (hC:∀ v,(Lf v)[ic]?=some (C,[.pointer (some ⟨B,0,none⟩)])) (hset:∀ v v',(Lf v).set ia (A,(us v).set 6 v')=Lf v') (hM:∀ (W:World) (s:Ps),PAt W B d s→Calls Tryz.prog 118 #[.pointer (some ⟨B,0,none⟩)] W fun e w'=>e=.returned (.agg #[.int .i64 (mappingP s).1.1,.int .i64 (mappingP s).1.2])∧Kept (fun b=>b=B) W w'∧PAt w' B d (mappingP s).2) (w:World) (acc:List Inp) (s:Ps) (h:Gt 0 B d w0 Lf D O 102 4 inpD w acc s) :
 Calls Tryz.prog 117 #[.pointer (some ⟨C,0,none⟩),.pointer (some ⟨A,0,none⟩)] w fun e w'=>e=.returned (.tuple #[])∧Gt 1 B d w0 Lf D O 102 4 inpD w' (inItem acc s).1 (inItem acc s).2:=by
 have HM:=Lib.hid hM
 clear hM
 obtain ⟨hacc,v,cells,hs⟩:=h
 have hil:=hs.pat.il
 have htl:=hs.pat.tl
 have HG:Hid (acc.length+1≤(inItem acc s).2.i+1):=by
  have:=(goes_inItem acc s).i
  show acc.length+1≤(inItem acc s).2.i+1
  omega
 have hacc2:acc.length≤20000:=by omega
 have H:=Lib.hid hs
 have hl:6 < (us v).length:=(List.getElem?_eq_some_iff.1 (hus v)).1
 have HL:=Lib.hid hl
 clear hs hacc hl
 go_enter Tryz.func117,Tryz.ntmps117
 go_wp2_with (first|(first|(refine St.w_load1 (ty:=112) H.out.st (by rfl) rfl rfl (ic+0) (hC v) rfl uPar_ ?_)|(refine St.w_load1 (ty:=112) H.out.st (by rfl) rfl rfl (ic+1) (hC v) rfl uPar_ ?_)|(refine St.w_load1 (ty:=112) H.out.st (by rfl) rfl rfl (ic+2) (hC v) rfl uPar_ ?_)|(refine St.w_load1 (ty:=112) H.out.st (by rfl) rfl rfl (ic+3) (hC v) rfl uPar_ ?_))|(refine Sr.w_alloc (ty:=102) H.out (by rfl) rfl zIn_ rfl ?_;intro wn Cn H2;replace H:=Lib.hid H2;clear H2)|(first|(refine Sr.w_store (ty:=102) H.out (by rfl) rfl rfl rfl 0 rfl rfl rfl sIn_ (all_one rfl) ?_;intro wn H2;replace H:=Lib.hid H2;clear H2))|(first|(go_at_call 109;(with_reducible (refine (name_any s _ B d H.out.pat).mono ?_));rintro e wc ⟨rfl,hK,hP⟩;have H2:=H.out.call hK hP;clear hK hP;replace H:=Lib.hid H2;clear H2)|(go_at_call 109;(with_reducible (refine (name_any (wantP [97,115] (mappingP (nameP s).2).2) _ B d H.out.pat).mono ?_));rintro e wc ⟨rfl,hK,hP⟩;have H2:=H.out.call hK hP;clear hK hP;replace H:=Lib.hid H2;clear H2))|(go_at_call 118;(with_reducible (refine (HM.out _ (nameP s).2 H.out.pat).mono ?_));rintro e wc ⟨rfl,hK,hP⟩;have H2:=H.out.call hK hP;clear hK hP;replace H:=Lib.hid H2;clear H2)|(go_at_call 94;(with_reducible (refine (want_any (mappingP (nameP s).2).2 [97,115] _ B d H.out.pat).mono ?_));rintro e wc ⟨rfl,hK,hP⟩;have H2:=H.out.call hK hP;clear hK hP;replace H:=Lib.hid H2;clear H2)|(first|(refine Sr.w_part (ty:=100) H.out (by rfl) rfl rfl rfl 0 rfl rfl (Nat.le_of_ble_eq_true rfl) sMp_ (all_one rfl) ?_;intro wn H2;replace H:=Lib.hid H2;clear H2))|(first|(refine Sr.w_store1 (ty:=9) H.out (by rfl) rfl rfl rfl 0 rfl (Nat.le_of_ble_eq_true rfl) sStr_ rfl ?_;intro wn H2;replace H:=Lib.hid H2;clear H2))|(refine St.w_load1 (ty:=86) H.out.st (by rfl) rfl rfl (ia+1) (hA v) (hus v) uSIn_ ?_)|(first|(refine St.w_load (ty:=102) H.out.st (by rfl) rfl rfl 0 rfl uIn_ sIn_ ?_))|(refine Sr.w_lit1 H.out (by rfl) rfl Tryz.underlying86 iIn2_ rfl rfl (by decide) (by decide) rfl rfl ?_;intro wl Cl H2;replace H:=Lib.hid H2;clear H2)|(refine Sr.w_append (r:=inpD ⟨(nameP s).1,(mappingP (nameP s).2).1.1,(mappingP (nameP s).2).1.2,(nameP (wantP sAs (mappingP (nameP s).2).2)).1⟩) H.out (by rfl) rfl Tryz.underlying86 iIn_ rfl (by decide) (by decide) 0 rfl rfl rfl rfl rfl 0 rfl rfl (row_inp _) (by show (acc.map inpD).length+1≤1000000;rw [List.length_map];omega) ?_;intro wl ao cap H2;replace H:=Lib.hid H2;clear H2)|(refine Sr.w_store1 (ty:=86) H.out (by rfl) rfl rfl rfl (ia+2) (hA v) HL.out sSIn_ rfl ?_;intro wn H2;replace H:=Lib.hid H2;clear H2))
 go_end0
 have H3:=H.out.drop (L':=Lf (.slice ao (acc.length+1) cap)) (by
  have e:=hset v (.slice ao (acc.length+1) cap)
  rw [← e]
  exact .cons _ (.cons _ (List.Sublist.refl _)))
 simp only [List.length_map] at H3
 have e1:(inItem acc s).1.map inpD=acc.map inpD++[inpD ⟨(nameP s).1,(mappingP (nameP s).2).1.1,(mappingP (nameP s).2).1.2,(nameP (wantP sAs (mappingP (nameP s).2).2)).1⟩]:=by
  show (acc++[_]).map inpD=_
  rw [List.map_append];rfl
 exact ⟨rfl,by show (acc++[_]).length≤_;rw [List.length_append];exact HG.out,.slice ao (acc.length+1) cap,_,by rw [e1];exact H3⟩
set_option maxRecDepth 100000 in
set_option maxHeartbeats 1600000 in
theorem join1_any {w0:World} {B A C Q ia ic iq d:Nat} {us:Value→List Value} {Lf:Value→List Bx} {D:List (List Dat × List Value)} {O:List Ow} (hA:∀ v,(Lf v)[ia]?=some (A,us v)) (hus:∀ v,(us v)[12]?=some v) (hC:∀ v,(Lf v)[ic]?=some (C,[.pointer (some ⟨B,0,none⟩)])) (hset:∀ v v',(Lf v).set ia (A,(us v).set 12 v')=Lf v') (hQ:∀ v,(Lf v)[iq]?=some (Q,[.pointer (some ⟨A,0,none⟩)])) (w:World) (acc:List _) (s:Ps) (h:Gt 0 B d w0 Lf D O 65 2 pairD w acc s) :
 Calls Tryz.prog 144 #[.pointer (some ⟨C,0,none⟩),.pointer (some ⟨Q,0,none⟩)] w fun e w'=>e=.returned (.tuple #[])∧Gt 1 B d w0 Lf D O 65 2 pairD w' (pairItem acc s).1 (pairItem acc s).2:=by
 obtain ⟨hacc,v,cells,hs⟩:=h
 have hil:=hs.pat.il
 have htl:=hs.pat.tl
 have HG:Hid (acc.length+1≤(pairItem acc s).2.i+1):=by
  have:=(goes_pairItem acc s).i
  show acc.length+1≤(pairItem acc s).2.i+1
  omega
 have hacc2:acc.length≤20000:=by omega
 have H:=Lib.hid hs
 have hl:12 < (us v).length:=(List.getElem?_eq_some_iff.1 (hus v)).1
 have HL:=Lib.hid hl
 clear hs hacc hl
 go_enter Tryz.func144,Tryz.ntmps144
 go_wp2_with (first|(first|(refine St.w_load1 (ty:=112) H.out.st (by rfl) rfl rfl (ic+0) (hC v) rfl uPar_ ?_)|(refine St.w_load1 (ty:=112) H.out.st (by rfl) rfl rfl (ic+1) (hC v) rfl uPar_ ?_)|(refine St.w_load1 (ty:=112) H.out.st (by rfl) rfl rfl (ic+2) (hC v) rfl uPar_ ?_)|(refine St.w_load1 (ty:=112) H.out.st (by rfl) rfl rfl (ic+3) (hC v) rfl uPar_ ?_))|(refine Sr.w_alloc (ty:=65) H.out (by rfl) rfl zPr_ rfl ?_;intro wn Cn H2;replace H:=Lib.hid H2;clear H2)|(first|(refine Sr.w_store (ty:=65) H.out (by rfl) rfl rfl rfl 0 rfl rfl rfl sPr_ (all_one rfl) ?_;intro wn H2;replace H:=Lib.hid H2;clear H2))|(first|(go_at_call 109;(with_reducible (refine (name_any s _ B d H.out.pat).mono ?_));rintro e wc ⟨rfl,hK,hP⟩;have H2:=H.out.call hK hP;clear hK hP;replace H:=Lib.hid H2;clear H2)|(go_at_call 109;(with_reducible (refine (name_any (wantP [61] (nameP s).2) _ B d H.out.pat).mono ?_));rintro e wc ⟨rfl,hK,hP⟩;have H2:=H.out.call hK hP;clear hK hP;replace H:=Lib.hid H2;clear H2))|(go_at_call 94;(with_reducible (refine (want_any (nameP s).2 [61] _ B d H.out.pat).mono ?_));rintro e wc ⟨rfl,hK,hP⟩;have H2:=H.out.call hK hP;clear hK hP;replace H:=Lib.hid H2;clear H2)|(first|(refine Sr.w_store1 (ty:=9) H.out (by rfl) rfl rfl rfl 0 rfl (Nat.le_of_ble_eq_true rfl) sStr_ rfl ?_;intro wn H2;replace H:=Lib.hid H2;clear H2)))
 have H2:=H.out.drew
 clear H
 have H:=Lib.hid H2
 clear H2
 refine wp_region_M_drew 10 (S:=fun W=>(W.cell? ⟨Q,0,none⟩=some (.pointer (some ⟨A,0,none⟩))∧W.cell? ⟨A,12,none⟩=some v∧W.cell? ⟨Cn,0,none⟩=some (.string ⟨(nameP s).1.toArray⟩)∧W.cell? ⟨Cn,1,none⟩=some (.string ⟨(nameP (wantP [61] (nameP s).2)).1.toArray⟩))) (by kernel_rfl) (by exact ⟨H.out.cell (i:=iq+1) (hQ _) rfl,H.out.cell (i:=ia+1) (hA _) (hus _),H.out.cell (i:=0) rfl rfl,H.out.cell (i:=0) rfl rfl⟩) (fun hHeld=>?_)
 refine tkM 0 rfl (by kernel_rfl) hHeld (Or.inl ⟨by rfl,by intro w hSw;(try dsimp only at hSw);go_simp<;>with_reducible rfl⟩) ?_
 try simp only [Array.reduceGetElem,zs]
 refine tkM 1 rfl (by kernel_rfl) hHeld (Or.inl ⟨by rfl,by intro w hSw;(try dsimp only at hSw);go_simp<;>with_reducible rfl⟩) ?_
 try simp only [Array.reduceGetElem,zs]
 refine tkM 2 rfl (by kernel_rfl) hHeld (Or.inl ⟨by rfl,by intro w hSw;(try dsimp only at hSw);go_simp<;>with_reducible rfl⟩) ?_
 try simp only [Array.reduceGetElem,zs]
 refine tkM 3 rfl (by kernel_rfl) hHeld (Or.inl ⟨by rfl,by intro w hSw;(try dsimp only at hSw);go_simp<;>with_reducible rfl⟩) ?_
 try simp only [Array.reduceGetElem,zs]
 refine tkM 4 rfl (by kernel_rfl) hHeld (Or.inl ⟨by rfl,by intro w hSw;(try dsimp only at hSw);go_simp<;>with_reducible rfl⟩) ?_
 try simp only [Array.reduceGetElem,zs]
 refine tkM 5 rfl (by kernel_rfl) hHeld (Or.inl ⟨by rfl,by intro w hSw;(try dsimp only at hSw);go_simp<;>with_reducible rfl⟩) ?_
 try simp only [Array.reduceGetElem,zs]
 refine wpAnyM_ready (rs:=[6]) (by kernel_rfl) (by simp) ?_
 refine AllReadyM.cons rfl (fun K hK=>?_) AllReadyM.nil
 rw [if_pos (by rfl)]
 refine H.out.o_lit1 rfl Tryz.underlying53 iPr2_ rfl rfl (by decide) (by decide) rfl rfl (fun wl Cl H2=>?_)
 refine hK.out _ _ ?_ (fun hHeld2=>?_)
 ·exact ⟨H2.cell (i:=iq+2) (hQ _) rfl,H2.cell (i:=ia+2) (hA _) (hus _),H2.cell (i:=1) rfl rfl,H2.cell (i:=1) rfl rfl⟩
 clear hK K hHeld
 have hHeld:=hHeld2
 clear hHeld2
 clear H
 have H:=Lib.hid H2
 clear H2
 try simp only [Array.reduceGetElem,zs]
 refine wpAnyM_ready (rs:=[7]) (by kernel_rfl) (by simp) ?_
 refine AllReadyM.cons rfl (fun K hK=>?_) AllReadyM.nil
 rw [if_pos (by rfl)]
 refine H.out.o_append (r:=pairD ((nameP s).1,(nameP (wantP [61] (nameP s).2)).1)) rfl Tryz.underlying53 iPr_ rfl (by decide) (by decide) 0 rfl rfl rfl rfl rfl 0 rfl rfl (row_pair _) (by show (acc.map pairD).length+1≤1000000;rw [List.length_map];omega) (fun wl ao cap _ H2=>?_)
 refine hK.out _ _ ?_ (fun hHeld2=>?_)
 ·exact ⟨H2.cell (i:=iq+2) (hQ _) rfl,H2.cell (i:=ia+2) (hA _) (hus _),H2.cell (i:=1) rfl rfl,H2.cell (i:=1) rfl rfl⟩
 clear hK K hHeld
 have hHeld:=hHeld2
 clear hHeld2
 clear H
 have H:=Lib.hid H2
 clear H2
 try simp only [Array.reduceGetElem,zs]
 refine tkP 8 rfl (by kernel_rfl) hHeld (Or.inl ⟨by rfl,by intro w hSw;clear hSw;go_simp<;>with_reducible rfl⟩) ?_
 try simp only [Array.reduceGetElem,zs]
 refine tkM 9 rfl (by kernel_rfl) hHeld (Or.inl ⟨by rfl,by intro w hSw;(try dsimp only at hSw);go_simp<;>with_reducible rfl⟩) ?_
 try simp only [Array.reduceGetElem,zs]
 refine wpAnyM_ready (rs:=[10]) (by kernel_rfl) (by simp) ?_
 refine AllReadyM.last rfl (by kernel_rfl) (fun K hK=>?_) AllReadyM.nil
 rw [if_pos (by rfl)]
 refine H.out.o_store1 rfl rfl rfl (ia+2) (hA v) HL.out sSPr_ rfl (fun wl H2=>?_)
 refine hK.out _ _ ?_
 clear hK K
 clear H
 have H:=Lib.hid H2
 clear H2
 try simp only [Array.reduceGetElem,zs]
 refine wpAnyM_done (by kernel_rfl) ?_ _
 go_wp2_with fail
 go_end0
 have H3:=H.out.drop (L':=Lf (.slice ao ((acc.map pairD).length+1) cap)) (by
  have e:=hset v (.slice ao ((acc.map pairD).length+1) cap)
  rw [← e]
  exact .cons _ (.cons _ (List.Sublist.refl _)))
 have e1:(pairItem acc s).1.map pairD=acc.map pairD++[pairD ((nameP s).1,(nameP (wantP [61] (nameP s).2)).1)]:=by
  show (acc++[_]).map pairD=_
  rw [List.map_append];rfl
 exact ⟨rfl,by show (acc++[_]).length≤_;rw [List.length_append];exact HG.out,.slice ao ((acc.map pairD).length+1) cap,_,by rw [e1];exact H3⟩
set_option maxRecDepth 100000 in
set_option maxHeartbeats 1600000 in
theorem first1_any {w0:World} {B A C Q ia ic iq d:Nat} {us:Value→List Value} {Lf:Value→List Bx} {D:List (List Dat × List Value)} {O:List Ow} (hA:∀ v,(Lf v)[ia]?=some (A,us v)) (hus:∀ v,(us v)[14]?=some v) (hC:∀ v,(Lf v)[ic]?=some (C,[.pointer (some ⟨B,0,none⟩)])) (hset:∀ v v',(Lf v).set ia (A,(us v).set 14 v')=Lf v') (hQ:∀ v,(Lf v)[iq]?=some (Q,[.pointer (some ⟨A,0,none⟩)])) (w:World) (acc:List _) (s:Ps) (h:Gt 0 B d w0 Lf D O 69 2 ordD w acc s) :
 Calls Tryz.prog 146 #[.pointer (some ⟨C,0,none⟩),.pointer (some ⟨Q,0,none⟩)] w fun e w'=>e=.returned (.tuple #[])∧Gt 1 B d w0 Lf D O 69 2 ordD w' (orderItem acc s).1 (orderItem acc s).2:=by
 have HM:Hid (∀ W,PAt W B d (nameP s).2→Calls Tryz.prog 88 #[.pointer (some ⟨B,0,none⟩),.string ⟨#[100,111,119,110]⟩] W (MaybeTo W B d (isP (nameP s).2 sDown) (maybeP sDown (nameP s).2))):=fun W hW=>by
  unfold maybeP
  cases hx:isP (nameP s).2 sDown with
  | true=>rw [if_pos rfl];exact maybe_yes _ _ hx W B d hW
  | false=>rw [if_neg (by decide)];exact maybe_no _ _ hx W B d hW
 obtain ⟨hacc,v,cells,hs⟩:=h
 have hil:=hs.pat.il
 have htl:=hs.pat.tl
 have HG:Hid (acc.length+1≤(orderItem acc s).2.i+1):=by
  have:=(goes_orderItem acc s).i
  show acc.length+1≤(orderItem acc s).2.i+1
  omega
 have hacc2:acc.length≤20000:=by omega
 have H:=Lib.hid hs
 have hl:14 < (us v).length:=(List.getElem?_eq_some_iff.1 (hus v)).1
 have HL:=Lib.hid hl
 clear hs hacc hl
 go_enter Tryz.func146,Tryz.ntmps146
 go_wp2_with (first|(first|(refine St.w_load1 (ty:=112) H.out.st (by rfl) rfl rfl (ic+0) (hC v) rfl uPar_ ?_)|(refine St.w_load1 (ty:=112) H.out.st (by rfl) rfl rfl (ic+1) (hC v) rfl uPar_ ?_)|(refine St.w_load1 (ty:=112) H.out.st (by rfl) rfl rfl (ic+2) (hC v) rfl uPar_ ?_)|(refine St.w_load1 (ty:=112) H.out.st (by rfl) rfl rfl (ic+3) (hC v) rfl uPar_ ?_))|(refine Sr.w_alloc (ty:=69) H.out (by rfl) rfl zOr_ rfl ?_;intro wn Cn H2;replace H:=Lib.hid H2;clear H2)|(first|(refine Sr.w_store (ty:=69) H.out (by rfl) rfl rfl rfl 0 rfl rfl rfl sOr_ (all_one rfl) ?_;intro wn H2;replace H:=Lib.hid H2;clear H2))|(go_at_call 109;(with_reducible (refine (name_any s _ B d H.out.pat).mono ?_));rintro e wc ⟨rfl,hK,hP⟩;have H2:=H.out.call hK hP;clear hK hP;replace H:=Lib.hid H2;clear H2)|(go_at_call 88;(with_reducible (refine (HM.out _ H.out.pat).mono ?_));rintro e wc ⟨rfl,hK,hP⟩;have H2:=H.out.call hK hP;clear hK hP;replace H:=Lib.hid H2;clear H2)|(first|(refine Sr.w_store1 (ty:=4) H.out (by rfl) rfl rfl rfl 0 rfl (Nat.le_of_ble_eq_true rfl) sBool_ rfl ?_;intro wn H2;replace H:=Lib.hid H2;clear H2)))
 have H2:=H.out.drew
 clear H
 have H:=Lib.hid H2
 clear H2
 refine wp_region_M_drew 10 (S:=fun W=>(W.cell? ⟨Q,0,none⟩=some (.pointer (some ⟨A,0,none⟩))∧W.cell? ⟨A,14,none⟩=some v∧W.cell? ⟨Cn,0,none⟩=some (.string ⟨(nameP s).1.toArray⟩)∧W.cell? ⟨Cn,1,none⟩=some (.bool (isP (nameP s).2 sDown)))) (by kernel_rfl) (by exact ⟨H.out.cell (i:=iq+1) (hQ _) rfl,H.out.cell (i:=ia+1) (hA _) (hus _),H.out.cell (i:=0) rfl rfl,H.out.cell (i:=0) rfl rfl⟩) (fun hHeld=>?_)
 refine tkM 0 rfl (by kernel_rfl) hHeld (Or.inl ⟨by rfl,by intro w hSw;(try dsimp only at hSw);go_simp<;>with_reducible rfl⟩) ?_
 try simp only [Array.reduceGetElem,zs]
 refine tkM 1 rfl (by kernel_rfl) hHeld (Or.inl ⟨by rfl,by intro w hSw;(try dsimp only at hSw);go_simp<;>with_reducible rfl⟩) ?_
 try simp only [Array.reduceGetElem,zs]
 refine tkM 2 rfl (by kernel_rfl) hHeld (Or.inl ⟨by rfl,by intro w hSw;(try dsimp only at hSw);go_simp<;>with_reducible rfl⟩) ?_
 try simp only [Array.reduceGetElem,zs]
 refine tkM 3 rfl (by kernel_rfl) hHeld (Or.inl ⟨by rfl,by intro w hSw;(try dsimp only at hSw);go_simp<;>with_reducible rfl⟩) ?_
 try simp only [Array.reduceGetElem,zs]
 refine tkM 4 rfl (by kernel_rfl) hHeld (Or.inl ⟨by rfl,by intro w hSw;(try dsimp only at hSw);go_simp<;>with_reducible rfl⟩) ?_
 try simp only [Array.reduceGetElem,zs]
 refine tkM 5 rfl (by kernel_rfl) hHeld (Or.inl ⟨by rfl,by intro w hSw;(try dsimp only at hSw);go_simp<;>with_reducible rfl⟩) ?_
 try simp only [Array.reduceGetElem,zs]
 refine wpAnyM_ready (rs:=[6]) (by kernel_rfl) (by simp) ?_
 refine AllReadyM.cons rfl (fun K hK=>?_) AllReadyM.nil
 rw [if_pos (by rfl)]
 refine H.out.o_lit1 rfl Tryz.underlying55 iOr2_ rfl rfl (by decide) (by decide) rfl rfl (fun wl Cl H2=>?_)
 refine hK.out _ _ ?_ (fun hHeld2=>?_)
 ·exact ⟨H2.cell (i:=iq+2) (hQ _) rfl,H2.cell (i:=ia+2) (hA _) (hus _),H2.cell (i:=1) rfl rfl,H2.cell (i:=1) rfl rfl⟩
 clear hK K hHeld
 have hHeld:=hHeld2
 clear hHeld2
 clear H
 have H:=Lib.hid H2
 clear H2
 try simp only [Array.reduceGetElem,zs]
 refine wpAnyM_ready (rs:=[7]) (by kernel_rfl) (by simp) ?_
 refine AllReadyM.cons rfl (fun K hK=>?_) AllReadyM.nil
 rw [if_pos (by rfl)]
 refine H.out.o_append (r:=ordD ((nameP s).1,isP (nameP s).2 sDown)) rfl Tryz.underlying55 iOr_ rfl (by decide) (by decide) 0 rfl rfl rfl rfl rfl 0 rfl rfl (row_ord _) (by show (acc.map ordD).length+1≤1000000;rw [List.length_map];omega) (fun wl ao cap _ H2=>?_)
 refine hK.out _ _ ?_ (fun hHeld2=>?_)
 ·exact ⟨H2.cell (i:=iq+2) (hQ _) rfl,H2.cell (i:=ia+2) (hA _) (hus _),H2.cell (i:=1) rfl rfl,H2.cell (i:=1) rfl rfl⟩
 clear hK K hHeld
 have hHeld:=hHeld2
 clear hHeld2
 clear H
 have H:=Lib.hid H2
 clear H2
 try simp only [Array.reduceGetElem,zs]
 refine tkP 8 rfl (by kernel_rfl) hHeld (Or.inl ⟨by rfl,by intro w hSw;clear hSw;go_simp<;>with_reducible rfl⟩) ?_
 try simp only [Array.reduceGetElem,zs]
 refine tkM 9 rfl (by kernel_rfl) hHeld (Or.inl ⟨by rfl,by intro w hSw;(try dsimp only at hSw);go_simp<;>with_reducible rfl⟩) ?_
 try simp only [Array.reduceGetElem,zs]
 refine wpAnyM_ready (rs:=[10]) (by kernel_rfl) (by simp) ?_
 refine AllReadyM.last rfl (by kernel_rfl) (fun K hK=>?_) AllReadyM.nil
 rw [if_pos (by rfl)]
 refine H.out.o_store1 rfl rfl rfl (ia+2) (hA v) HL.out sSOr_ rfl (fun wl H2=>?_)
 refine hK.out _ _ ?_
 clear hK K
 clear H
 have H:=Lib.hid H2
 clear H2
 try simp only [Array.reduceGetElem,zs]
 refine wpAnyM_done (by kernel_rfl) ?_ _
 go_wp2_with fail
 go_end0
 have H3:=H.out.drop (L':=Lf (.slice ao ((acc.map ordD).length+1) cap)) (by
  have e:=hset v (.slice ao ((acc.map ordD).length+1) cap)
  rw [← e]
  exact .cons _ (.cons _ (List.Sublist.refl _)))
 have e1:(orderItem acc s).1.map ordD=acc.map ordD++[ordD ((nameP s).1,isP (nameP s).2 sDown)]:=by
  show (acc++[_]).map ordD=_
  rw [List.map_append];rfl
 exact ⟨rfl,by show (acc++[_]).length≤_;rw [List.length_append];exact HG.out,.slice ao ((acc.map ordD).length+1) cap,_,by rw [e1];exact H3⟩
end Go.Proofs.YtonkjhmkppeagaaGreatDoor.Pz
