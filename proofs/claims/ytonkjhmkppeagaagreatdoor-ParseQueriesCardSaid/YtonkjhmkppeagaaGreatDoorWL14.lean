/- Walks of layer 14's laws: texts joined; is a text read as one definition. -/
import Derived.Test.YtonkjhmkppeagaaGreatDoorWDe
import Derived.Test.YtonkjhmkppeagaaGreatDoorWDg
set_option maxRecDepth 100000
set_option maxHeartbeats 3200000
set_option linter.unusedVariables false
set_option linter.unusedSimpArgs false
namespace Go.Proofs.YtonkjhmkppeagaaGreatDoor.Pz
open Go.Proofs.Tryz
open Go.Lib (hid)
open Go.RowKit Go Go.Sort Ba Lx
theorem szm (l:Str):(⟨l.toArray⟩:ByteArray).size=l.length:=by show l.toArray.size=_;simp
theorem apm (a b:Str):(⟨a.toArray⟩:ByteArray)++⟨b.toArray⟩=⟨(a++b).toArray⟩:=Go.ByteArray.mk_append_mk a b
theorem zg0 (sep:Str) (x:Str):∀ (r:List Str),joinS sep (r++[x])=if r=[] then x else joinS sep r++(sep++x)
 | []=>rfl
 | [a]=>by rw[if_neg (by simp)];rfl
 | a::b::r=>by
  have ih:=zg0 sep x (b::r);rw[if_neg (by simp)]at ih ⊢;show a++(sep++joinS sep ((b::r)++[x]))=(a++(sep++joinS sep (b::r)))++(sep++x)
  rw[ih];simp[yM]
theorem zfd (sep:Str) {l:List Str} {k:Nat} {x:Str} (h:l[k]?=some x):joinS sep (l.take (k+1))=if k=0 then x else joinS sep (l.take k)++(sep++x):=by
 rw[List.take_add_one,h];show joinS sep (l.take k++[x])=_
 rw[zg0];have hk:=(yE.1 h).1;have e:(l.take k=[])↔k=0:=by
  rw[List.take_eq_nil_iff];refine ⟨fun h=>?_,fun h=>.inl h⟩;rcases h with h|h
  ·exact h
  ·subst h;exact absurd hk (Nat.not_lt_zero _)
 by_cases h0:k=0
 ·rw[if_pos h0,if_pos (e.2 h0)]
 ·rw[if_neg h0,if_neg (fun h=>h0 (e.1 h))]
theorem zhU (sep:Str) (l:List Str):∀ k,(joinS sep (l.take k)).length≤(joinS sep l).length:=by
 induction l with
 | nil=>intro k;simp
 | cons a r ih =>
  intro k
  cases k with
  | zero=>exact yS _
  | succ k =>
   rw[List.take_succ_cons]
   cases r with
   | nil=>simp
   | cons b r =>
    cases k with
    | zero =>
     show a.length≤(a++(sep++joinS sep (b::r))).length
     rw[yA];omega
    | succ k =>
     have:=ih (k+1);rw[List.take_succ_cons]at this ⊢;show (a++(sep++joinS sep (b::r.take k))).length≤(a++(sep++joinS sep (b::r))).length
     rw[yA,yA,yA,yA];omega
theorem znP (l:List Str) (sep:Str) (hl:(joinS sep l).length≤1000000) (hn:l.length≤1000000) (hs:sep.length≤1000) (sa:Option Addr) (ca:Nat) (w:World) (ok:Nat→Prop) (hA:Rep w ok (.sl 1 (l.map strD)) (.slice sa l.length ca)) :
 Calls Tryz.prog 35 #[.slice sa l.length ca,.string ⟨sep.toArray⟩] w (StrTo (joinS sep l) w):=by
 have HA:=hid hA;have HT:Hid (∀ k,(⟨(joinS sep (l.take k)).toArray⟩:ByteArray).size≤1000000):=fun k=>by rw[szm];exact yH (zhU sep l k) hl
 obtain ⟨n,hn'⟩:∃ n,l.length=n:=⟨_,rfl⟩;rw[hn']at HA hn ⊢;have HN:=hid hn';obtain ⟨S,hS⟩:∃ S:ByteArray,(⟨sep.toArray⟩:ByteArray)=S:=⟨_,rfl⟩;have hSs:S.size≤1000:=by rw[← hS,szm];exact hs
 have HS:=hid hS;rw[hS];have HB:=hid (Below.refl w.heap.size w);clear hA hn' hl hS hs;go_enter func35,ntmps35
 go_wp2_with fail
 go_loopw [5,10] (fun o i wr=>∃ (m:Nat) (O:ByteArray),m≤n∧i=.int .i64 m∧o=.string O∧Hid (O=⟨(joinS sep (l.take m)).toArray⟩)∧Hid (Below w.heap.size w wr)) (fun _ i _=>n-(intOf i).toNat)
 case atStart=>exact ⟨0,⟨#[]⟩,yS _,rfl,rfl,rfl,HB⟩
 case round =>
  clear HB;obtain ⟨m,O,hmn,rfl,rfl,HO,HB⟩:=hrel;by_cases hlt:m<n
  ·have hlt2:(m:Int)<(n:Int):=by omega
   obtain ⟨x,hx⟩:∃ x,l[m]?=some x:=⟨_,yF (by rw[HN.out];exact hlt)⟩;obtain ⟨b1,o1,rfl,hc1⟩:=HA.out.cells_at (i:=m) (r:=strD x) (vs:=[.string ⟨x.toArray⟩]) (by rw[yQ,hx];rfl) rfl;obtain ⟨N0,hN0⟩:∃ N:ByteArray,(⟨x.toArray⟩:ByteArray)=N:=⟨_,rfl⟩;have x0:wr.cell? ⟨b1,o1+m,none⟩=some (.string N0):=by have:=hc1 wr HB.out 0 _ rfl;rw[hN0]at this;simpa [Nat.add_assoc] using this
   have hT:=HT.out (m+1);rw[zfd sep hx]at hT;have hO:O.size≤1000000:=by rw[HO.out];exact HT.out m
   have HX:=hid hx;have HN0:=hid hN0;clear hc1 hx hN0;by_cases h0:m=0
   ·have HO2:Hid (O=⟨#[]⟩):=by show O=_;rw[HO.out,h0];rfl
    have HM:=hid h0;rw[if_pos h0,HN0.out]at hT;have h00:¬ (0:Int)<(m:Int):=by omega
    have hOz:O.size=0:=by rw[HO2.out];rfl
    have hb1:O.size+N0.size≤9223372036854775807:=by omega
    clear h0;go_wp2_with fail
    go_roundw
    case rel=>exact ⟨m+1,_,by omega,by go_num,rfl,(by show O++N0=_;rw[zfd sep HX.out,if_pos HM.out,HO2.out,← HN0.out];exact apm [] x),HB⟩
    case measure=>simp[intOf];omega
   ·have hm0:(0:Int)<(m:Int):=by omega
    have HM:=hid h0;rw[if_neg h0]at hT;have hE:(⟨(joinS sep (l.take m)++(sep++x)).toArray⟩:ByteArray)=(O++S)++N0:=by
     rw[HO.out,← HS.out,← HN0.out,apm,apm,yM]
    rw[hE]at hT;have HE:=hid hE;have hOS:(O++S).size=O.size+S.size:=ByteArray.size_append;have hOSN:((O++S)++N0).size=(O++S).size+N0.size:=ByteArray.size_append;have hb1:O.size+S.size≤9223372036854775807:=by omega
    have hb2:O.size+S.size+N0.size≤9223372036854775807:=by omega
    clear hE h0 hT hOSN;go_wp2_with fail
    go_roundw
    case rel=>exact ⟨m+1,_,by omega,by go_num,rfl,(by show (O++S)++N0=_;rw[zfd sep HX.out,if_neg HM.out];exact HE.out.symm),HB⟩
    case measure=>simp[intOf];omega
  ·have hlt2:¬ ((m:Int)<(n:Int)):=by omega
   have htk:l.take m=l:=by rw[show m=n from by omega,← HN.out,List.take_length]
   have HO2:Hid (O=⟨(joinS sep l).toArray⟩):=by show O=_;rw[HO.out,htk]
   clear htk;go_wp2_with fail
   go_ret
   exact ⟨by rw[← HO2.out];rfl,HB.out⟩
theorem zbG {P:Program} {o:Oper} {a:Act} {w:World} {ty:TypeId} {x:Operand} (ho:o.op=.load ty x) {C off:Nat} (hx:a.eval x=.pointer (some ⟨C,off,none⟩)) {cs:List Value} (hu:(P.underlying ty).map (·.isRow)=some true) (hs:(P.info? ty).map (·.size)=some cs.length)
 (hc:∀ (j:Nat) (v:Value),cs[j]?=some v→w.cell? ⟨C,off+j,none⟩=some v):(execOp a.eval o).run P w=.ok (.value (.agg cs.toArray)) w:=by
 cases hq:P.underlying ty with
 | none=>rw[hq]at hu;cases hu
 | some d =>
  rw[hq]at hu;unfold execOp;simp only[ho,hx,Instr.loadAt,Instr.sureAddr,Sem.run_bind,Sem.run_pure,Result.andThen_ok,run_loadVar_mid w C off ty cs d (fun j v hv=>hc j v hv) hq (Option.some.inj hu) hs]
theorem zor {W:World} {ok:Nat→Prop} {x:Df} {cs:List Value} (h:Row W ok (dfD x) cs):cs.length=25:=by rw[← h.1,zj5]
theorem zpI (T U:ByteArray) (d:Df) (hT:zaJ T.data.toList=([d],T.size,0)) (hU:T.extract 0 (T.size-1)=U) (hU2:zaJ U.data.toList=([],U.size,51)) (hUs:U.size+1=T.size) (hTs:T.size≤1000000) (s0 s1 s2:Value) (ps:List Value) (w:World) (ok:Nat→Prop) (hA:DfAt w ok d s0 s1 s2 ps) (hE:EnvL w) :
 Calls Tryz.prog 36 #[.string T,dfV d s0 s1 s2 ps] w (EqTo w true):=by
 have HE:=hid (fun W (hb:Below w.heap.size w W)=>hE.below hb);have H:=hid (St.start (S:=fun _=>False) w);have HP:Hid (∀ W,Below w.heap.size w W→Calls Tryz.prog 32 #[.string T] W (zgB ([d],T.size,0) W)):=fun W hW=>by
  have:=zeM T W (hE.below hW);rw[hT]at this;exact this
 have HP2:Hid (∀ W,Below w.heap.size w W→Calls Tryz.prog 32 #[.string U] W (zgB ([],U.size,51) W)):=fun W hW=>by
  have:=zeM U W (hE.below hW);rw[hU2]at this;exact this
 have HDA:=hid (fun W (hb:Below w.heap.size w W)=>hA.below hb);obtain ⟨CB,hCB⟩:∃ cs:List Value,[.int .i64 d.k,.string ⟨d.nm.toArray⟩,s0,.int .i64 d.sc.k,.int .i64 d.sc.f,.int .i64 d.sc.l,s1]++(ps++[.string ⟨d.cron.toArray⟩,s2])=cs:=⟨_,rfl⟩;have hBl:CB.length=25:=by rw[← hCB];exact zor (zh3 hA)
 have HBR:Hid (∀ W,Below w.heap.size w W→Row W ok (dfD d) CB):=fun W hW=>by rw[← hCB];exact zh3 (hA.below hW)
 have hval:dfV d s0 s1 s2 ps=.agg CB.toArray:=by rw[← hCB]
 rw[hval];have hTi:((T.size:Int)-1)=(U.size:Int):=by omega
 have hTn:T.size-1=U.size:=by omega
 rw[hTn]at hU;have HBL:=hid hBl;clear hT hU2 hE hA hCB hval hBl hTn;go_enter func36,ntmps36
 go_upto_region 2 with (first|(refine St.w_box (vs:=CB) H.out (by rfl) rfl rfl rfl ?_;intro wn X _ _ H2;replace H:=hid H2;clear H2)|(go_at_call 32;(with_reducible (refine (HP.out _ (zac H.out)).mono ?_));rintro e wc ⟨ao,cp,rfl,hR,_,hb9⟩;replace H:=hid (H.out.more (H.out.below hb9) (Row.cons hR (Row.nil _ _)));clear hb9 hR))
 have hrep:=repOf (H.out.rowAt (j:=0) rfl);obtain ⟨g,og,CX,rfl,hXr,hXl,hXc⟩:=hrep.cellsR (i:=0) (r:=dfD d) rfl;have HCX:Hid (∀ W,Below wc.heap.size wc W→∀ (j:Nat) (v:Value),CX[j]?=some v→W.cell? ⟨g,og+j,none⟩=some v):=fun W hW j v hv=>by have:=hXc W hW j v hv;simpa using this
 have hbx:=H.out.at (i:=0) rfl;have HCB:Hid (∀ W,Below wc.heap.size wc W→∀ (j:Nat) (v:Value),CB[j]?=some v→W.cell? ⟨X,0+j,none⟩=some v):=fun W hW j v hv=>by rw[Nat.zero_add];exact (hW.cell (by exact hbx.lt)).trans (hbx.cl j v hv)
 have HSX:Hid ((Tryz.prog.info? 88).map (·.size)=some CX.length):=by show _=_;rw[hXl];exact sDf_
 have HSB:Hid ((Tryz.prog.info? 88).map (·.size)=some CB.length):=by show _=_;rw[HBL.out];exact sDf_
 have hwc:=zac H.out;have HEQ:Hid (∀ W,Below wc.heap.size wc W→Calls Tryz.prog 34 #[.agg CX.toArray,.agg CB.toArray] W (EqTo W true)):=fun W hW=>zom d CX CB W _ ok (hXr.kept (S:=fun _=>False) (Kept.of_below hW) (fun _ _ _ x=>x)) (HBR.out W (two hwc hW))
 clear hrep hXr hXl hXc hbx hwc HBR HBL;refine zaa 18 (S:=fun W=>Below wc.heap.size wc W) (by kernel_rfl) (by exact zfl (Below.refl _ _)) (fun zJ=>?_);refine tKp 0 ?_;refine tKp 1 ?_;refine tKp 2 ?_;refine tKp 3 ?_;refine tKp 4 ?_;refine tKp 5 ?_;refine tKp 6 ?_;refine tKp 7 ?_;refine tKp 8 ?_;refine tKp 9 ?_;refine tKp 10 ?_;refine tKp 11 ?_;refine tKp 12 ?_;refine tKm 13 ?_;refine tKp 14 ?_;refine tKp 15 ?_;refine tkM 16 rfl (by kernel_rfl) zJ (Or.inl ⟨by rfl,fun w hSw=>zbG (ty:=88) rfl rfl uDf_ HSX.out (HCX.out w hSw)⟩) ?_;try simp only[Array.reduceGetElem,zs]
 refine tkM 17 rfl (by kernel_rfl) zJ (Or.inl ⟨by rfl,fun w hSw=>zbG (ty:=88) rfl rfl uDf_ HSB.out (HCB.out w hSw)⟩) ?_;refine rKl 18 fun K hK=>?_
 go_simp
 (go_at_call 34;(with_reducible (refine (HEQ.out _ zJ).mono ?_)))
 rintro e wd ⟨rfl,hb⟩;have H2:=H.out.below (two zJ hb);refine hK.out _ _ ?_;clear hK K;clear hb zJ;replace H:=hid H2;clear H2;try simp only[Array.reduceGetElem,zs]
 refine tkY 19 rfl (by kernel_rfl) (Or.inl ⟨by rfl,by intro w hSw;clear hSw;go_simp<;>with_reducible rfl⟩) ?_;try simp only[Array.reduceGetElem,zs]
 refine tkY 20 rfl (by kernel_rfl) (Or.inl ⟨by rfl,by intro w hSw;clear hSw;go_simp<;>with_reducible rfl⟩) ?_;refine rKd ?_;go_wp2_with (go_at_call 32;(with_reducible (refine (HP2.out _ (zac H.out)).mono ?_));rintro e we ⟨ao2,cp2,rfl,hR2,_,hb9⟩;replace H:=hid (H.out.below hb9);clear hb9 hR2)
 go_ret
 exact ⟨rfl,zac H.out⟩
