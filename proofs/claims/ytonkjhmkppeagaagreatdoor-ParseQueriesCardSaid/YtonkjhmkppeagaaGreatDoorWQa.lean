/- Walks: names with commas between. Walks: what the reader's closures gather; schemes, mappings. -/
import Derived.Test.YtonkjhmkppeagaaGreatDoorWSt
import Derived.Test.YtonkjhmkppeagaaGreatDoorWPsG
set_option maxRecDepth 100000
set_option maxHeartbeats 1600000
set_option linter.unusedVariables false
set_option linter.unusedSimpArgs false
namespace Go.Proofs.YtonkjhmkppeagaaGreatDoor.Pz
open Go.Proofs.Tryz
open Go.Lib (hid)
open Go.RowKit Go Go.Sort Ba Lx
theorem iStr_:(Tryz.prog.info? 9).map (fun i=>(i.zero,i.size,i.bytes))=some (some (.string ⟨#[]⟩),1,16):=by kernel_rfl
theorem zaR:(Tryz.prog.info? 9).map (fun i=>(i.zero,i.size))=some (some (.string ⟨#[]⟩),1):=by kernel_rfl
theorem zsy:(Tryz.prog.info? 48).bind (·.zero)=some (.slice none 0 0):=by kernel_rfl
theorem zf5 {W:World} {ok:Nat→Prop} (n:Str):Row W ok (strD n) [.string ⟨n.toArray⟩]:=(Row.nil W ok).cons (.v _ rfl)
theorem zlF {w0:World} {B A C ia ic d:Nat} {Lf:Value→List Bx} {D:List (List Dat×List Value)} {O:List Ow} (hA:∀ v,(Lf v)[ia]?=some (A,[v])) (hC:∀ v,(Lf v)[ic]?=some (C,[.pointer (some ⟨B,0,none⟩)])) (hset:∀ v v',(Lf v).set ia (A,[v'])=Lf v') (w:World) (acc:List Str) (s:Ps) (h:Gt 0 B d w0 Lf D O 9 1 strD w acc s) :
 Calls Tryz.prog 147 #[.pointer (some ⟨A,0,none⟩),.pointer (some ⟨C,0,none⟩)] w fun e w'=>e=.returned (.tuple #[])∧Gt 1 B d w0 Lf D O 9 1 strD w' (acc++[(nameP s).1]) (nameP s).2:=by
 obtain ⟨hacc,v,cells,hs⟩:=h;have hil:=hs.pat.il;have htl:=hs.pat.tl;have HG:Hid (acc.length+1≤(nameP s).2.i+1):=by
  have:=(zaP s).i;show acc.length+1≤(nameP s).2.i+1
  omega
 have hacc2:acc.length≤20000:=by omega
 have H:=hid hs.drew;have HA:=hid hA;have HC:=hid hC;have hset':Hid (∀ v v' (p:Bx),(((p::Lf v).set (ia+1) (A,[v']))=p::Lf v')):=fun v v' p=>by show p::(Lf v).set ia (A,[v'])=_;rw[hset]
 clear hs hacc;go_enter func147,ntmps147
 refine zaa 5 (S:=fun W=>(W.cell? ⟨A,0,none⟩=some v∧W.cell? ⟨C,0,none⟩=some (.pointer (some ⟨B,0,none⟩)))) (by kernel_rfl) (by exact ⟨H.out.cell (hA _) rfl,H.out.cell (hC _) rfl⟩) (fun zJ=>?_);refine tKm 0 ?_;refine tKm 1 ?_;refine rK1 2 fun K hK=>?_
 go_simp;go_at_call 109
 (with_reducible (refine (name_any s _ B d H.out.pat).mono ?_))
 rintro e wc ⟨rfl,hK2,hP2⟩;have H2:=H.out.call hK2 hP2;clear hK2 hP2;try dsimp only
 refine hK.out _ _ ?_ (fun zH=>?_)
 ·exact ⟨H2.cell (hA _) rfl,H2.cell (hC _) rfl⟩
 replace zJ:=zH;clear hK K;replace H:=hid H2;clear H2;refine rK1 3 fun K hK=>?_
 rw[if_pos (by rfl)];refine H.out.o_lit rfl underlying48 zaR [.string ⟨(nameP s).1.toArray⟩] rfl rfl rfl (by decide) (by decide) (by decide) (by intro v hv;obtain rfl:=List.mem_singleton.1 hv;rfl) rfl (fun wl Cl _ H2=>?_);refine hK.out _ _ ?_ (fun zH=>?_)
 ·exact ⟨H2.cell (i:=ia+1) (hA _) rfl,H2.cell (i:=ic+1) (hC _) rfl⟩
 replace zJ:=zH;clear hK K;replace H:=hid H2;clear H2;refine rK1 4 fun K hK=>?_
 rw[if_pos (by rfl)];refine H.out.o_append (r:=strD (nameP s).1) rfl underlying48 iStr_ rfl (by decide) (by decide) 0 rfl rfl rfl rfl rfl 0 rfl rfl (zf5 _) (by show (acc.map strD).length+1≤1000000;rw[yC];omega) (fun wl ao cap _ H2=>?_);refine hK.out _ _ ?_ (fun zH=>?_)
 ·exact ⟨H2.cell (i:=ia+1) (hA _) rfl,H2.cell (i:=ic+1) (hC _) rfl⟩
 replace zJ:=zH;clear hK K;replace H:=hid H2;clear H2;refine rKl 5 fun K hK=>?_
 rw[if_pos (by rfl)];refine H.out.o_store1 rfl rfl rfl (ia+1) (us:=[v]) (hA _) (by show 0<1;decide) zef rfl (fun wl H2=>?_);refine hK.out _ _ ?_;clear hK K;replace H:=hid H2;clear H2;refine rKd ?_;go_wp2_with fail
 go_end0
 have H3:=H.out.drop (L':=Lf (.slice ao ((acc.map strD).length+1) cap)) (by rw[show (List.set (_::Lf v) (ia+1) _)=_ from List.set_cons_succ ..,show [v].set 0 _=[_] from rfl,hset];exact List.sublist_cons_self _ _);exact ⟨rfl,by show (acc++[(nameP s).1]).length≤_;rw[yA];show acc.length+1≤_;have:=HG.out;omega,_,_,by rw[List.map_append];exact H3⟩
theorem zcz {α:Type} (Fn:FuncId) (hF:Enters Tryz.prog Fn) (cap:Array Value) (f:List α→Ps→List α×Ps) (hG:∀ a s,Goes s (f a s).2) {w0:World} {B d:Nat} {Lf:Value→List Bx} {D:List (List Dat×List Value)} {O:List Ow} {T:TypeId} {k:Nat} {rD:α→List Dat}
 (hC:∀ W acc s,Gt 0 B d w0 Lf D O T k rD W acc s→Calls Tryz.prog Fn cap W fun e W'=>e=.returned (.tuple #[])∧Gt 1 B d w0 Lf D O T k rD W' (f acc s).1 (f acc s).2) (w:World) (s:Ps) (h:Sr B d w0 w s (Lf (.slice none 0 0)) D O) :
 Calls Tryz.prog 110 #[.pointer (some ⟨B,0,none⟩),.func (.func Fn) #[] cap] w fun e w'=>e=.returned (.tuple #[])∧∃ ao cp cells,Sr B d w0 w' (listP f [] s).2 (Lf (.slice ao ((listP f [] s).1.map rD).length cp)) D (⟨T,k,.slice ao ((listP f [] s).1.map rD).length cp,(listP f [] s).1.map rD,cells⟩::O) :=
 (zhO Fn hF #[] cap f (Gt 0 B d w0 Lf D O T k rD) (Gt 1 B d w0 Lf D O T k rD) B d (fun _ _ _ h=>h.pat) (fun _ _ _ h=>h.pat) (fun _ _ _ _ h hK hP=>h.call hK hP (yG _)) (fun _ _ a s h hK hP=>h.call hK hP (by show s.i+1≤s.i+1+0;omega)) hG (fun W a s hg=>by rw[Array.empty_append];exact hC W a s hg) [] s w (Gt.start h T k rD)).mono
  fun e w' ⟨he,_,v,cells,hs⟩=>by
   have hform:∃ ao cp,v=.slice ao ((listP f [] s).1.map rD).length cp:=by
    rcases (hs.st.own _ yX).2 with ⟨e1,e2⟩|⟨g,cp,cur,e1,_⟩
    ·exact ⟨none,0,by rw[show v=_ from e1,show ((listP f [] s).1.map rD).length=0 from e2]⟩
    ·exact ⟨_,cp,e1⟩
   obtain ⟨ao,cp,rfl⟩:=hform;exact ⟨he,ao,cp,cells,hs⟩
def zoU (w:World) (B d:Nat) (r:List Str×Ps) (e:Ending) (w':World):Prop:=∃ ao cp,e=.returned (.slice ao r.1.length cp)∧Rep w' (fun b=>w.heap.size≤b) (.sl 1 (r.1.map strD)) (.slice ao r.1.length cp)∧Kept (fun b=>b=B) w w'∧PAt w' B d r.2
theorem rep1 {W:World} {ok:Nat→Prop} {d:Dat} {v:Value} (h:Row W ok [d] [v]):Rep W ok d v:=h.2 0 _ _ rfl rfl
theorem zge (s:Ps) (w:World) (B d:Nat) (h:PAt w B d s):Calls Tryz.prog 120 #[.pointer (some ⟨B,0,none⟩)] w (zoU w B d (zaL s)):=by
 have H:=hid (Sr.start h);have HG:Hid (∀ (C A:Nat) (W:World),Sr B d w W s [(A,[.slice none 0 0]),(C,[.pointer (some ⟨B,0,none⟩)])] [] []→Calls Tryz.prog 110 #[.pointer (some ⟨B,0,none⟩),.func (.func 147) #[] #[.pointer (some ⟨A,0,none⟩),.pointer (some ⟨C,0,none⟩)]] W fun e w'=>e=.returned (.tuple #[])∧∃ ao cp cells,Sr B d w w' (zaL s).2 [(A,[.slice ao ((zaL s).1.map strD).length cp]),(C,[.pointer (some ⟨B,0,none⟩)])] [] [⟨9,1,.slice ao ((zaL s).1.map strD).length cp,(zaL s).1.map strD,cells⟩]):=fun C A W hs =>
  zcz (Lf:=fun v=>[(A,[v]),(C,[.pointer (some ⟨B,0,none⟩)])]) 147 (enters_of func147 (by kernel_rfl) rfl) _ (fun a s=>(a++[(nameP s).1],(nameP s).2)) (fun a s=>zaP s) (fun W acc s hg=>zlF (ia:=0) (ic:=1) (fun _=>rfl) (fun _=>rfl) (fun _ _=>rfl) W acc s hg) W s hs
 clear h;go_enter func120,ntmps120
 go_wp2_with (first|(refine Sr.w_box H.out (by rfl) rfl rfl rfl ?_;intro wn Cn H2;replace H:=hid H2;clear H2)|(refine Sr.w_alloc (ty:=48) H.out (by rfl) rfl zsy rfl ?_;intro wn Cn H2;replace H:=hid H2;clear H2)|(first|(refine St.w_load1 (ty:=112) H.out.st (by rfl) rfl rfl 0 rfl rfl uPar_ ?_)|(refine St.w_load1 (ty:=112) H.out.st (by rfl) rfl rfl 1 rfl rfl uPar_ ?_))|(first|(refine St.w_load1 (ty:=48) H.out.st (by rfl) rfl rfl 0 rfl rfl zeB ?_)|(refine St.w_load1 (ty:=48) H.out.st (by rfl) rfl rfl 1 rfl rfl zeB ?_))|(go_at_call 110;(with_reducible (refine (HG.out _ _ _ H.out).mono ?_));rintro e wc ⟨rfl,ao,cp,cells,H2⟩;replace H:=hid H2;clear H2))
 go_ret
 have H3:=H.out.shut;have hr:=(rep1 (H3.st.rowAt (j:=0) rfl)).weak (ok':=fun b=>w.heap.size≤b) (fun b _ ho=>ho.1);rw[yC]at hr;exact ⟨ao,cp,rfl,hr,H3.st.kept,H3.pat⟩
theorem zaX {B d:Nat} {w0 w:World} {s:Ps} {L:List Bx} {D:List (List Dat×List Value)} {O:List Ow} (h:Sr B d w0 w s L D O) {i G n:Nat} {cs:List Value} (hi:L[i]?=some (G,cs)) (ws:List Str) (hc:cs=ws.map fun x=>.string ⟨x.toArray⟩) (hn:ws.length=n) (hl:ws.length≤100):OpsAt w B (.slice (some ⟨G,0,none⟩) n n) ws:=by
 subst hc hn;have hb:=h.st.at hi;have hG:=h.st.new _ (yP hi);have hlt:=h.lt;exact ⟨G,_,rfl,yG _,by unfold maxLen;omega,by omega,hb.lt,fun j x hx=>hb.cl j _ (by rw[yQ,hx];rfl)⟩
theorem zrE {W:World} {ok:Nat→Prop} (n:Str) (t:Int):Row W ok (colD (n,t)) [.string ⟨n.toArray⟩,.int .i64 t]:=((Row.nil W ok).cons (.v _ rfl)).cons (.v _ rfl)
theorem zrD {W:World} {ok:Nat→Prop} (x:Inp):Row W ok (inpD x) [.string ⟨x.a.toArray⟩,.int .i64 x.k,.int .i64 x.n,.string ⟨x.s.toArray⟩]:=((((Row.nil W ok).cons (.v _ rfl)).cons (.v _ rfl)).cons (.v _ rfl)).cons (.v _ rfl)
theorem zpp {W:World} {ok:Nat→Prop} (x:Str×Str):Row W ok (pairD x) [.string ⟨x.1.toArray⟩,.string ⟨x.2.toArray⟩]:=((Row.nil W ok).cons (.v _ rfl)).cons (.v _ rfl)
theorem zdm {W:World} {ok:Nat→Prop} (x:Str×Str×Str):Row W ok (aggD x) [.string ⟨x.1.toArray⟩,.string ⟨x.2.1.toArray⟩,.string ⟨x.2.2.toArray⟩]:=(((Row.nil W ok).cons (.v _ rfl)).cons (.v _ rfl)).cons (.v _ rfl)
theorem zrC {W:World} {ok:Nat→Prop} (x:Str×Bool):Row W ok (ordD x) [.string ⟨x.1.toArray⟩,.bool x.2]:=((Row.nil W ok).cons (.v _ rfl)).cons (.v _ rfl)
theorem iCo_:(Tryz.prog.info? 92).map (fun i=>(i.zero,i.size,i.bytes))=some (some (.agg #[.string ⟨#[]⟩,.int .i64 0]),2,24):=by kernel_rfl
theorem iCo2_:(Tryz.prog.info? 92).map (fun i=>(i.zero,i.size))=some (some (.agg #[.string ⟨#[]⟩,.int .i64 0]),2):=by kernel_rfl
theorem iPr_:(Tryz.prog.info? 65).map (fun i=>(i.zero,i.size,i.bytes))=some (some (.agg #[.string ⟨#[]⟩,.string ⟨#[]⟩]),2,32):=by kernel_rfl
theorem iPr2_:(Tryz.prog.info? 65).map (fun i=>(i.zero,i.size))=some (some (.agg #[.string ⟨#[]⟩,.string ⟨#[]⟩]),2):=by kernel_rfl
theorem iAg_:(Tryz.prog.info? 67).map (fun i=>(i.zero,i.size,i.bytes))=some (some (.agg #[.string ⟨#[]⟩,.string ⟨#[]⟩,.string ⟨#[]⟩]),3,48):=by kernel_rfl
theorem iAg2_:(Tryz.prog.info? 67).map (fun i=>(i.zero,i.size))=some (some (.agg #[.string ⟨#[]⟩,.string ⟨#[]⟩,.string ⟨#[]⟩]),3):=by kernel_rfl
theorem iOr_:(Tryz.prog.info? 69).map (fun i=>(i.zero,i.size,i.bytes))=some (some (.agg #[.string ⟨#[]⟩,.bool false]),2,24):=by kernel_rfl
theorem iOr2_:(Tryz.prog.info? 69).map (fun i=>(i.zero,i.size))=some (some (.agg #[.string ⟨#[]⟩,.bool false]),2):=by kernel_rfl
theorem iIn_:(Tryz.prog.info? 102).map (fun i=>(i.zero,i.size,i.bytes))=some (some (.agg #[.string ⟨#[]⟩,.int .i64 0,.int .i64 0,.string ⟨#[]⟩]),4,48):=by kernel_rfl
theorem iIn2_:(Tryz.prog.info? 102).map (fun i=>(i.zero,i.size))=some (some (.agg #[.string ⟨#[]⟩,.int .i64 0,.int .i64 0,.string ⟨#[]⟩]),4):=by kernel_rfl
theorem zjv {w0:World} {B A C ia ic d:Nat} {us:Value→List Value} {Lf:Value→List Bx} {D:List (List Dat×List Value)} {O:List Ow} (hA:∀ v,(Lf v)[ia]?=some (A,us v)) (hus:∀ v,(us v)[2]?=some v) (hC:∀ v,(Lf v)[ic]?=some (C,[.pointer (some ⟨B,0,none⟩)])) (hset:∀ v v',(Lf v).set ia (A,(us v).set 2 v')=Lf v') (w:World) (acc:List (Str×Int)) (s:Ps) (h:Gt 0 B d w0 Lf D O 92 2 colD w acc s) :
 Calls Tryz.prog 115 #[.pointer (some ⟨C,0,none⟩),.pointer (some ⟨A,0,none⟩)] w fun e w'=>e=.returned (.tuple #[])∧Gt 1 B d w0 Lf D O 92 2 colD w' (zbe acc s).1 (zbe acc s).2:=by
 obtain ⟨hacc,v,cells,hs⟩:=h;have hil:=hs.pat.il;have htl:=hs.pat.tl;have HG:Hid (acc.length+1≤(zbe acc s).2.i+1):=by
  have:=(zcj acc s).i;show acc.length+1≤(zbe acc s).2.i+1
  omega
 have hacc2:acc.length≤20000:=by omega
 have H:=hid hs;have hl:2<(us v).length:=(yE.1 (hus v)).1;have HL:=hid hl;clear hs hacc hl;go_enter func115,ntmps115
 go_wp2_with (first|(first|(refine St.w_load1 (ty:=112) H.out.st (by rfl) rfl rfl (ic+0) (hC v) rfl uPar_ ?_)|(refine St.w_load1 (ty:=112) H.out.st (by rfl) rfl rfl (ic+1) (hC v) rfl uPar_ ?_)|(refine St.w_load1 (ty:=112) H.out.st (by rfl) rfl rfl (ic+2) (hC v) rfl uPar_ ?_)|(refine St.w_load1 (ty:=112) H.out.st (by rfl) rfl rfl (ic+3) (hC v) rfl uPar_ ?_))|(refine Sr.w_alloc (ty:=92) H.out (by rfl) rfl zCo_ rfl ?_;intro wn Cn H2;replace H:=hid H2;clear H2)|(first|(refine Sr.w_store (ty:=92) H.out (by rfl) rfl rfl rfl 0 rfl rfl rfl sCo_ (zad rfl) ?_;intro wn H2;replace H:=hid H2;clear H2))|(go_at_call 109;(with_reducible (refine (name_any s _ B d H.out.pat).mono ?_));rintro e wc ⟨rfl,hK,hP⟩;replace H:=hid (H.out.call hK hP);clear hK hP)|(refine Sr.w_lit H.out (by rfl) rfl underlying48 zaR [.string ⟨#[105,110,116]⟩,.string ⟨#[116,101,120,116]⟩] rfl rfl rfl (by decide) (by decide) (by decide) (all_k rfl) rfl ?_;intro wl Cl H2;replace H:=hid H2;clear H2)|(go_at_call 90;(with_reducible (refine (zaY [sInt,sText] (nameP s).2 (.slice (some ⟨_,0,none⟩) 2 2) _ B d (by decide) H.out.pat (zaX H.out (i:=0) rfl [sInt,sText] rfl rfl (by decide))).mono ?_));rintro e wc ⟨rfl,hK,hP⟩;replace H:=hid (H.out.call hK hP);clear hK hP)|(first|(refine Sr.w_store1 (ty:=3) H.out (by rfl) rfl rfl rfl 0 rfl (yI rfl) sInt_ rfl ?_;intro wn H2;replace H:=hid H2;clear H2)|(refine Sr.w_store1 (ty:=3) H.out (by rfl) rfl rfl rfl 1 rfl (yI rfl) sInt_ rfl ?_;intro wn H2;replace H:=hid H2;clear H2))|(refine St.w_load1 (ty:=83) H.out.st (by rfl) rfl rfl (ia+2) (hA v) (hus v) uSch_ ?_)|(first|(refine St.w_load (ty:=92) H.out.st (by rfl) rfl rfl 0 rfl uCo_ sCo_ ?_)|(refine St.w_load (ty:=92) H.out.st (by rfl) rfl rfl 1 rfl uCo_ sCo_ ?_))|(refine Sr.w_lit1 H.out (by rfl) rfl underlying83 iCo2_ rfl rfl (by decide) (by decide) rfl rfl ?_;intro wl Cl H2;replace H:=hid H2;clear H2)|(refine Sr.w_append (r:=colD ((nameP s).1,((oneP [sInt,sText] (nameP s).2).1:Int))) H.out (by rfl) rfl underlying83 iCo_ rfl (by decide) (by decide) 0 rfl rfl rfl rfl rfl 0 rfl rfl (zrE _ _) (by show (acc.map colD).length+1≤1000000;rw[yC];omega) ?_;intro wl ao cap H2;replace H:=hid H2;clear H2)|(refine Sr.w_store1 (ty:=83) H.out (by rfl) rfl rfl rfl (ia+3) (hA v) HL.out sSch_ rfl ?_;intro wn H2;replace H:=hid H2;clear H2))
 go_end0
 have H3:=H.out.drop (L':=Lf (.slice ao (acc.length+1) cap)) (by
  have e:=hset v (.slice ao (acc.length+1) cap);rw[← e];exact .cons _ (.cons _ (.cons _ (List.Sublist.refl _))))
 simp only[yC]at H3;have e1:(zbe acc s).1.map colD=acc.map colD++[colD ((nameP s).1,((oneP [sInt,sText] (nameP s).2).1:Int))]:=by
  show (acc++[_]).map colD=_
  rw[List.map_append];rfl
 exact ⟨rfl,by show (acc++[_]).length≤_;rw[yA];exact HG.out,.slice ao (acc.length+1) cap,_,by rw[e1];exact H3⟩
theorem zme {w0:World} {B A C ia ic d:Nat} {us:Value→List Value} {Lf:Value→List Bx} {D:List (List Dat×List Value)} {O:List Ow} (hA:∀ v,(Lf v)[ia]?=some (A,us v)) (hus:∀ v,(us v)[6]?=some v) (hC:∀ v,(Lf v)[ic]?=some (C,[.pointer (some ⟨B,0,none⟩)])) (hset:∀ v v',(Lf v).set ia (A,(us v).set 6 v')=Lf v') (hM:∀ (W:World) (s:Ps),PAt W B d s→Calls Tryz.prog 118 #[.pointer (some ⟨B,0,none⟩)] W fun e w'=>e=.returned (.agg #[.int .i64 (zab s).1.1,.int .i64 (zab s).1.2])∧Kept (fun b=>b=B) W w'∧PAt w' B d (zab s).2) (w:World) (acc:List Inp) (s:Ps) (h:Gt 0 B d w0 Lf D O 102 4 inpD w acc s) :
 Calls Tryz.prog 117 #[.pointer (some ⟨C,0,none⟩),.pointer (some ⟨A,0,none⟩)] w fun e w'=>e=.returned (.tuple #[])∧Gt 1 B d w0 Lf D O 102 4 inpD w' (zbQ acc s).1 (zbQ acc s).2:=by
 have HM:=hid hM;clear hM;obtain ⟨hacc,v,cells,hs⟩:=h;have hil:=hs.pat.il;have htl:=hs.pat.tl;have HG:Hid (acc.length+1≤(zbQ acc s).2.i+1):=by
  have:=(zcy acc s).i;show acc.length+1≤(zbQ acc s).2.i+1
  omega
 have hacc2:acc.length≤20000:=by omega
 have H:=hid hs;have hl:6<(us v).length:=(yE.1 (hus v)).1;have HL:=hid hl;clear hs hacc hl;go_enter func117,ntmps117
 go_wp2_with (first|(first|(refine St.w_load1 (ty:=112) H.out.st (by rfl) rfl rfl (ic+0) (hC v) rfl uPar_ ?_)|(refine St.w_load1 (ty:=112) H.out.st (by rfl) rfl rfl (ic+1) (hC v) rfl uPar_ ?_)|(refine St.w_load1 (ty:=112) H.out.st (by rfl) rfl rfl (ic+2) (hC v) rfl uPar_ ?_)|(refine St.w_load1 (ty:=112) H.out.st (by rfl) rfl rfl (ic+3) (hC v) rfl uPar_ ?_))|(refine Sr.w_alloc (ty:=102) H.out (by rfl) rfl zIn_ rfl ?_;intro wn Cn H2;replace H:=hid H2;clear H2)|(first|(refine Sr.w_store (ty:=102) H.out (by rfl) rfl rfl rfl 0 rfl rfl rfl sIn_ (zad rfl) ?_;intro wn H2;replace H:=hid H2;clear H2))|(first|(go_at_call 109;(with_reducible (refine (name_any s _ B d H.out.pat).mono ?_));rintro e wc ⟨rfl,hK,hP⟩;replace H:=hid (H.out.call hK hP);clear hK hP)|(go_at_call 109;(with_reducible (refine (name_any (wantP [97,115] (zab (nameP s).2).2) _ B d H.out.pat).mono ?_));rintro e wc ⟨rfl,hK,hP⟩;replace H:=hid (H.out.call hK hP);clear hK hP))|(go_at_call 118;(with_reducible (refine (HM.out _ (nameP s).2 H.out.pat).mono ?_));rintro e wc ⟨rfl,hK,hP⟩;replace H:=hid (H.out.call hK hP);clear hK hP)|(go_at_call 94;(with_reducible (refine (zar (zab (nameP s).2).2 [97,115] _ B d H.out.pat).mono ?_));rintro e wc ⟨rfl,hK,hP⟩;replace H:=hid (H.out.call hK hP);clear hK hP)|(first|(refine Sr.w_part (ty:=100) H.out (by rfl) rfl rfl rfl 0 rfl rfl (yI rfl) sMp_ (zad rfl) ?_;intro wn H2;replace H:=hid H2;clear H2))|(first|(refine Sr.w_store1 (ty:=9) H.out (by rfl) rfl rfl rfl 0 rfl (yI rfl) sStr_ rfl ?_;intro wn H2;replace H:=hid H2;clear H2))|(refine St.w_load1 (ty:=86) H.out.st (by rfl) rfl rfl (ia+1) (hA v) (hus v) uSIn_ ?_)|(first|(refine St.w_load (ty:=102) H.out.st (by rfl) rfl rfl 0 rfl uIn_ sIn_ ?_))|(refine Sr.w_lit1 H.out (by rfl) rfl underlying86 iIn2_ rfl rfl (by decide) (by decide) rfl rfl ?_;intro wl Cl H2;replace H:=hid H2;clear H2)|(refine Sr.w_append (r:=inpD ⟨(nameP s).1,(zab (nameP s).2).1.1,(zab (nameP s).2).1.2,(nameP (wantP sAs (zab (nameP s).2).2)).1⟩) H.out (by rfl) rfl underlying86 iIn_ rfl (by decide) (by decide) 0 rfl rfl rfl rfl rfl 0 rfl rfl (zrD _) (by show (acc.map inpD).length+1≤1000000;rw[yC];omega) ?_;intro wl ao cap H2;replace H:=hid H2;clear H2)|(refine Sr.w_store1 (ty:=86) H.out (by rfl) rfl rfl rfl (ia+2) (hA v) HL.out sSIn_ rfl ?_;intro wn H2;replace H:=hid H2;clear H2))
 go_end0
 have H3:=H.out.drop (L':=Lf (.slice ao (acc.length+1) cap)) (by
  have e:=hset v (.slice ao (acc.length+1) cap);rw[← e];exact .cons _ (.cons _ (List.Sublist.refl _)))
 simp only[yC]at H3;have e1:(zbQ acc s).1.map inpD=acc.map inpD++[inpD ⟨(nameP s).1,(zab (nameP s).2).1.1,(zab (nameP s).2).1.2,(nameP (wantP sAs (zab (nameP s).2).2)).1⟩]:=by
  show (acc++[_]).map inpD=_
  rw[List.map_append];rfl
 exact ⟨rfl,by show (acc++[_]).length≤_;rw[yA];exact HG.out,.slice ao (acc.length+1) cap,_,by rw[e1];exact H3⟩
theorem znQ {w0:World} {B A C Q ia ic iq d:Nat} {us:Value→List Value} {Lf:Value→List Bx} {D:List (List Dat×List Value)} {O:List Ow} (hA:∀ v,(Lf v)[ia]?=some (A,us v)) (hus:∀ v,(us v)[12]?=some v) (hC:∀ v,(Lf v)[ic]?=some (C,[.pointer (some ⟨B,0,none⟩)])) (hset:∀ v v',(Lf v).set ia (A,(us v).set 12 v')=Lf v') (hQ:∀ v,(Lf v)[iq]?=some (Q,[.pointer (some ⟨A,0,none⟩)])) (w:World) (acc:List _) (s:Ps) (h:Gt 0 B d w0 Lf D O 65 2 pairD w acc s) :
 Calls Tryz.prog 144 #[.pointer (some ⟨C,0,none⟩),.pointer (some ⟨Q,0,none⟩)] w fun e w'=>e=.returned (.tuple #[])∧Gt 1 B d w0 Lf D O 65 2 pairD w' (zaU acc s).1 (zaU acc s).2:=by
 obtain ⟨hacc,v,cells,hs⟩:=h;have hil:=hs.pat.il;have htl:=hs.pat.tl;have HG:Hid (acc.length+1≤(zaU acc s).2.i+1):=by
  have:=(zb4 acc s).i;show acc.length+1≤(zaU acc s).2.i+1
  omega
 have hacc2:acc.length≤20000:=by omega
 have H:=hid hs;have hl:12<(us v).length:=(yE.1 (hus v)).1;have HL:=hid hl;clear hs hacc hl;go_enter func144,ntmps144
 go_wp2_with (first|(first|(refine St.w_load1 (ty:=112) H.out.st (by rfl) rfl rfl (ic+0) (hC v) rfl uPar_ ?_)|(refine St.w_load1 (ty:=112) H.out.st (by rfl) rfl rfl (ic+1) (hC v) rfl uPar_ ?_)|(refine St.w_load1 (ty:=112) H.out.st (by rfl) rfl rfl (ic+2) (hC v) rfl uPar_ ?_)|(refine St.w_load1 (ty:=112) H.out.st (by rfl) rfl rfl (ic+3) (hC v) rfl uPar_ ?_))|(refine Sr.w_alloc (ty:=65) H.out (by rfl) rfl zPr_ rfl ?_;intro wn Cn H2;replace H:=hid H2;clear H2)|(first|(refine Sr.w_store (ty:=65) H.out (by rfl) rfl rfl rfl 0 rfl rfl rfl sPr_ (zad rfl) ?_;intro wn H2;replace H:=hid H2;clear H2))|(first|(go_at_call 109;(with_reducible (refine (name_any s _ B d H.out.pat).mono ?_));rintro e wc ⟨rfl,hK,hP⟩;replace H:=hid (H.out.call hK hP);clear hK hP)|(go_at_call 109;(with_reducible (refine (name_any (wantP [61] (nameP s).2) _ B d H.out.pat).mono ?_));rintro e wc ⟨rfl,hK,hP⟩;replace H:=hid (H.out.call hK hP);clear hK hP))|(go_at_call 94;(with_reducible (refine (zar (nameP s).2 [61] _ B d H.out.pat).mono ?_));rintro e wc ⟨rfl,hK,hP⟩;replace H:=hid (H.out.call hK hP);clear hK hP)|(first|(refine Sr.w_store1 (ty:=9) H.out (by rfl) rfl rfl rfl 0 rfl (yI rfl) sStr_ rfl ?_;intro wn H2;replace H:=hid H2;clear H2)))
 replace H:=hid (H.out.drew);refine zaa 10 (S:=fun W=>(W.cell? ⟨Q,0,none⟩=some (.pointer (some ⟨A,0,none⟩))∧W.cell? ⟨A,12,none⟩=some v∧W.cell? ⟨Cn,0,none⟩=some (.string ⟨(nameP s).1.toArray⟩)∧W.cell? ⟨Cn,1,none⟩=some (.string ⟨(nameP (wantP [61] (nameP s).2)).1.toArray⟩))) (by kernel_rfl) (by exact ⟨H.out.cell (i:=iq+1) (hQ _) rfl,H.out.cell (i:=ia+1) (hA _) (hus _),H.out.cell (i:=0) rfl rfl,H.out.cell (i:=0) rfl rfl⟩) (fun zJ=>?_);refine tKm 0 ?_;refine tKm 1 ?_;refine tKm 2 ?_;refine tKm 3 ?_;refine tKm 4 ?_;refine tKm 5 ?_;refine rK1 6 fun K hK=>?_
 rw[if_pos (by rfl)];refine H.out.o_lit1 rfl underlying53 iPr2_ rfl rfl (by decide) (by decide) rfl rfl (fun wl Cl H2=>?_);refine hK.out _ _ ?_ (fun zH=>?_)
 ·exact ⟨H2.cell (i:=iq+2) (hQ _) rfl,H2.cell (i:=ia+2) (hA _) (hus _),H2.cell (i:=1) rfl rfl,H2.cell (i:=1) rfl rfl⟩
 replace zJ:=zH;clear hK K;replace H:=hid H2;clear H2;refine rK1 7 fun K hK=>?_
 rw[if_pos (by rfl)];refine H.out.o_append (r:=pairD ((nameP s).1,(nameP (wantP [61] (nameP s).2)).1)) rfl underlying53 iPr_ rfl (by decide) (by decide) 0 rfl rfl rfl rfl rfl 0 rfl rfl (zpp _) (by show (acc.map pairD).length+1≤1000000;rw[yC];omega) (fun wl ao cap _ H2=>?_);refine hK.out _ _ ?_ (fun zH=>?_)
 ·exact ⟨H2.cell (i:=iq+2) (hQ _) rfl,H2.cell (i:=ia+2) (hA _) (hus _),H2.cell (i:=1) rfl rfl,H2.cell (i:=1) rfl rfl⟩
 replace zJ:=zH;clear hK K;replace H:=hid H2;clear H2;refine tKp 8 ?_;refine tKm 9 ?_;refine rKl 10 fun K hK=>?_
 rw[if_pos (by rfl)];refine H.out.o_store1 rfl rfl rfl (ia+2) (hA v) HL.out sSPr_ rfl (fun wl H2=>?_);refine hK.out _ _ ?_;clear hK K;replace H:=hid H2;clear H2;refine rKd ?_;go_wp2_with fail
 go_end0
 have H3:=H.out.drop (L':=Lf (.slice ao ((acc.map pairD).length+1) cap)) (by
  have e:=hset v (.slice ao ((acc.map pairD).length+1) cap);rw[← e];exact .cons _ (.cons _ (List.Sublist.refl _)))
 have e1:(zaU acc s).1.map pairD=acc.map pairD++[pairD ((nameP s).1,(nameP (wantP [61] (nameP s).2)).1)]:=by
  show (acc++[_]).map pairD=_
  rw[List.map_append];rfl
 exact ⟨rfl,by show (acc++[_]).length≤_;rw[yA];exact HG.out,.slice ao ((acc.map pairD).length+1) cap,_,by rw[e1];exact H3⟩
theorem zl2 {w0:World} {B A C Q ia ic iq d:Nat} {us:Value→List Value} {Lf:Value→List Bx} {D:List (List Dat×List Value)} {O:List Ow} (hA:∀ v,(Lf v)[ia]?=some (A,us v)) (hus:∀ v,(us v)[14]?=some v) (hC:∀ v,(Lf v)[ic]?=some (C,[.pointer (some ⟨B,0,none⟩)])) (hset:∀ v v',(Lf v).set ia (A,(us v).set 14 v')=Lf v') (hQ:∀ v,(Lf v)[iq]?=some (Q,[.pointer (some ⟨A,0,none⟩)])) (w:World) (acc:List _) (s:Ps) (h:Gt 0 B d w0 Lf D O 69 2 ordD w acc s) :
 Calls Tryz.prog 146 #[.pointer (some ⟨C,0,none⟩),.pointer (some ⟨Q,0,none⟩)] w fun e w'=>e=.returned (.tuple #[])∧Gt 1 B d w0 Lf D O 69 2 ordD w' (zaW acc s).1 (zaW acc s).2:=by
 have HM:Hid (∀ W,PAt W B d (nameP s).2→Calls Tryz.prog 88 #[.pointer (some ⟨B,0,none⟩),.string ⟨#[100,111,119,110]⟩] W (zdK W B d (isP (nameP s).2 sDown) (zdN sDown (nameP s).2))):=fun W hW=>by
  unfold zdN
  cases hx:isP (nameP s).2 sDown with
  | true=>rw[if_pos rfl];exact zbO _ _ hx W B d hW
  | false=>rw[if_neg (by decide)];exact zbg _ _ hx W B d hW
 obtain ⟨hacc,v,cells,hs⟩:=h;have hil:=hs.pat.il;have htl:=hs.pat.tl;have HG:Hid (acc.length+1≤(zaW acc s).2.i+1):=by
  have:=(zcC acc s).i;show acc.length+1≤(zaW acc s).2.i+1
  omega
 have hacc2:acc.length≤20000:=by omega
 have H:=hid hs;have hl:14<(us v).length:=(yE.1 (hus v)).1;have HL:=hid hl;clear hs hacc hl;go_enter func146,ntmps146
 go_wp2_with (first|(first|(refine St.w_load1 (ty:=112) H.out.st (by rfl) rfl rfl (ic+0) (hC v) rfl uPar_ ?_)|(refine St.w_load1 (ty:=112) H.out.st (by rfl) rfl rfl (ic+1) (hC v) rfl uPar_ ?_)|(refine St.w_load1 (ty:=112) H.out.st (by rfl) rfl rfl (ic+2) (hC v) rfl uPar_ ?_)|(refine St.w_load1 (ty:=112) H.out.st (by rfl) rfl rfl (ic+3) (hC v) rfl uPar_ ?_))|(refine Sr.w_alloc (ty:=69) H.out (by rfl) rfl zOr_ rfl ?_;intro wn Cn H2;replace H:=hid H2;clear H2)|(first|(refine Sr.w_store (ty:=69) H.out (by rfl) rfl rfl rfl 0 rfl rfl rfl sOr_ (zad rfl) ?_;intro wn H2;replace H:=hid H2;clear H2))|(go_at_call 109;(with_reducible (refine (name_any s _ B d H.out.pat).mono ?_));rintro e wc ⟨rfl,hK,hP⟩;replace H:=hid (H.out.call hK hP);clear hK hP)|(go_at_call 88;(with_reducible (refine (HM.out _ H.out.pat).mono ?_));rintro e wc ⟨rfl,hK,hP⟩;replace H:=hid (H.out.call hK hP);clear hK hP)|(first|(refine Sr.w_store1 (ty:=4) H.out (by rfl) rfl rfl rfl 0 rfl (yI rfl) zit rfl ?_;intro wn H2;replace H:=hid H2;clear H2)))
 replace H:=hid (H.out.drew);refine zaa 10 (S:=fun W=>(W.cell? ⟨Q,0,none⟩=some (.pointer (some ⟨A,0,none⟩))∧W.cell? ⟨A,14,none⟩=some v∧W.cell? ⟨Cn,0,none⟩=some (.string ⟨(nameP s).1.toArray⟩)∧W.cell? ⟨Cn,1,none⟩=some (.bool (isP (nameP s).2 sDown)))) (by kernel_rfl) (by exact ⟨H.out.cell (i:=iq+1) (hQ _) rfl,H.out.cell (i:=ia+1) (hA _) (hus _),H.out.cell (i:=0) rfl rfl,H.out.cell (i:=0) rfl rfl⟩) (fun zJ=>?_);refine tKm 0 ?_;refine tKm 1 ?_;refine tKm 2 ?_;refine tKm 3 ?_;refine tKm 4 ?_;refine tKm 5 ?_;refine rK1 6 fun K hK=>?_
 rw[if_pos (by rfl)];refine H.out.o_lit1 rfl underlying55 iOr2_ rfl rfl (by decide) (by decide) rfl rfl (fun wl Cl H2=>?_);refine hK.out _ _ ?_ (fun zH=>?_)
 ·exact ⟨H2.cell (i:=iq+2) (hQ _) rfl,H2.cell (i:=ia+2) (hA _) (hus _),H2.cell (i:=1) rfl rfl,H2.cell (i:=1) rfl rfl⟩
 replace zJ:=zH;clear hK K;replace H:=hid H2;clear H2;refine rK1 7 fun K hK=>?_
 rw[if_pos (by rfl)];refine H.out.o_append (r:=ordD ((nameP s).1,isP (nameP s).2 sDown)) rfl underlying55 iOr_ rfl (by decide) (by decide) 0 rfl rfl rfl rfl rfl 0 rfl rfl (zrC _) (by show (acc.map ordD).length+1≤1000000;rw[yC];omega) (fun wl ao cap _ H2=>?_);refine hK.out _ _ ?_ (fun zH=>?_)
 ·exact ⟨H2.cell (i:=iq+2) (hQ _) rfl,H2.cell (i:=ia+2) (hA _) (hus _),H2.cell (i:=1) rfl rfl,H2.cell (i:=1) rfl rfl⟩
 replace zJ:=zH;clear hK K;replace H:=hid H2;clear H2;refine tKp 8 ?_;refine tKm 9 ?_;refine rKl 10 fun K hK=>?_
 rw[if_pos (by rfl)];refine H.out.o_store1 rfl rfl rfl (ia+2) (hA v) HL.out sSOr_ rfl (fun wl H2=>?_);refine hK.out _ _ ?_;clear hK K;replace H:=hid H2;clear H2;refine rKd ?_;go_wp2_with fail
 go_end0
 have H3:=H.out.drop (L':=Lf (.slice ao ((acc.map ordD).length+1) cap)) (by
  have e:=hset v (.slice ao ((acc.map ordD).length+1) cap);rw[← e];exact .cons _ (.cons _ (List.Sublist.refl _)))
 have e1:(zaW acc s).1.map ordD=acc.map ordD++[ordD ((nameP s).1,isP (nameP s).2 sDown)]:=by
  show (acc++[_]).map ordD=_
  rw[List.map_append];rfl
 exact ⟨rfl,by show (acc++[_]).length≤_;rw[yA];exact HG.out,.slice ao ((acc.map ordD).length+1) cap,_,by rw[e1];exact H3⟩
