/- Walks of layer 14's laws: queries. -/
import Derived.Test.YtonkjhmkppeagaaGreatDoorWSqSt
import Derived.Test.YtonkjhmkppeagaaGreatDoorWTs
import Derived.Test.YtonkjhmkppeagaaGreatDoorWNx
set_option linter.unusedVariables false
set_option linter.unusedSimpArgs false
namespace Go.Proofs.YtonkjhmkppeagaaGreatDoor.Pz
open Go.Proofs.Tryz
open Go.Lib (hid)
open Go.RowKit Go Go.Sort Ba Lx
theorem uKi_:(Tryz.prog.underlying 47).map (·.isRow)=some false:=by kernel_rfl
theorem zhD {W:World} {ok:Nat→Prop} {x:Pl} {a0:Option Addr} {ac0:Nat} {a1:Option Addr} {ac1:Nat} {a2:Option Addr} {ac2:Nat} {a3:Option Addr} {ac3:Nat} {a4:Option Addr} {ac4:Nat} {a5:Option Addr} {ac5:Nat} {a6:Option Addr} {ac6:Nat}
 (h:Row W ok (plD x) (plC x (.slice a0 x.xs.length ac0) (.slice a1 x.cond.xs.length ac1) (.slice a2 x.names.length ac2) (.slice a3 x.exprs.length ac3) (.slice a4 x.on.length ac4) (.slice a5 x.aggs.length ac5) (.slice a6 x.ord.length ac6))):PlAt W (fun _=>True) x a0 ac0 a1 ac1 a2 ac2 a3 ac3 a4 ac4 a5 ac5 a6 ac6:=by
 obtain ⟨_,_,_,_,_,_,_,_,_,_,_,_,_,_,e,hp⟩:=zcb h;simp only[plC,List.cons.injEq,and_true,true_and,Value.slice.injEq]at e;obtain ⟨⟨rfl,rfl⟩,⟨rfl,rfl⟩,⟨rfl,rfl⟩,⟨rfl,rfl⟩,⟨rfl,rfl⟩,⟨rfl,rfl⟩,rfl,rfl⟩:=e;exact ⟨hp.args.weak fun _ _ _=>trivial,hp.cond.weak fun _ _ _=>trivial,hp.names.weak fun _ _ _=>trivial,hp.exprs.weak fun _ _ _=>trivial,hp.on.weak fun _ _ _=>trivial,hp.aggs.weak fun _ _ _=>trivial,hp.ord.weak fun _ _ _=>trivial⟩
set_option maxRecDepth 100000 in
set_option maxHeartbeats 25600000 in
theorem queries_law (name:ByteArray) (ks:List Int) (l:List Str) (N:Int) (hn:name.size≤9223372036854775807) (hls:∀ s∈l,s.length≤9223372036854775807) (hN2:N≤9223372036854775807) (ka na:Option Addr) (kc nc:Nat) (w:World) (ok:Nat→Prop) (hK:Rep w ok (.sl 1 (ks.map fun k=>[dI k])) (.slice ka ks.length kc)) (hF:Rep w ok (.sl 1 (l.map strD)) (.slice na l.length nc)) (hE:EnvL w) :
 Calls Tryz.prog 5 #[.agg #[.string name,.slice ka ks.length kc,.slice na l.length nc,.int .i64 N]] w (EqTo w true):=by
 have HAW:Hid (∀ W,Below w.heap.size w W→Calls Tryz.prog 23 #[] W (EqTo W true)):=fun W hW=>zhq W (hE.below hW)
 have HRA:=hid (fun W (hW:Below w.heap.size w W)=>hF.kept (S:=fun _=>False) (Kept.of_below hW) (fun _ _ _ x=>x));have HRK:=hid (fun W (hW:Below w.heap.size w W)=>hK.kept (S:=fun _=>False) (Kept.of_below hW) (fun _ _ _ x=>x));have HE:=hid (fun W (hW:Below w.heap.size w W)=>hE.below hW);obtain ⟨n0,rfl⟩:∃ n:Str,name=⟨n.toArray⟩:=⟨name.data.toList,by rw[Array.toArray_toList]⟩;obtain ⟨qn,hqn⟩:∃ q,wordQ n0=q:=⟨_,rfl⟩;obtain ⟨qs,hqs⟩:∃ q,zdQ l=q:=⟨_,rfl⟩;obtain ⟨NN,hNN⟩:∃ N:ByteArray,(⟨n0.toArray⟩:ByteArray)=N:=⟨_,rfl⟩;have HW:Hid (∀ W,Below w.heap.size w W→Calls Tryz.prog 21 #[.string NN] W (EqTo W qn)):=fun W hW=>by
  have:=zd3 n0 W (by rw[← szm];exact hn);rw[hqn,hNN]at this;exact this
 have HWS:Hid (∀ W,Below w.heap.size w W→Calls Tryz.prog 22 #[.slice na l.length nc] W (EqTo W qs)):=fun W hW=>by
  have:=zgG l hls na nc W ok (HRA.out W hW);rw[hqs]at this;exact this
 have H:=hid (St.start (S:=fun _=>False) w);obtain ⟨L,hL⟩:∃ L,l.length=L:=⟨_,rfl⟩;obtain ⟨K,hKK⟩:∃ M,ks.length=M:=⟨_,rfl⟩;by_cases hall:qn=true∧qs=true∧K≤12∧0≤N
 ·obtain ⟨rfl,rfl,hK12,hN0⟩:=hall;have hnw:=zfA hqn;have hmw:∀ m∈l,zdk m∧m.length≤16:=fun m hm=>by
   unfold zdQ at hqs;rw[Bool.and_eq_true,List.all_eq_true]at hqs;have:=zfA (hqs.1 m hm);exact ⟨⟨this.1,this.2.2⟩,this.2.1⟩
  have hml:0<l.length∧l.length≤20:=by
   unfold zdQ at hqs;rw[Bool.and_eq_true,yL]at hqs;exact hqs.2
  obtain ⟨f0,hf0⟩:∃ x,l[0]?=some x:=⟨_,yF hml.1⟩;obtain ⟨nb,no,rfl,_⟩:=hF.cells_at (i:=0) (r:=strD f0) (vs:=[.string ⟨f0.toArray⟩]) (by rw[yQ,hf0];rfl) rfl;have HFC:Hid (∀ (k:Nat) (x:Str),l[k]?=some x→∀ W,Below w.heap.size w W→W.cell? ⟨nb,no+k,none⟩=some (.string ⟨x.toArray⟩)):=fun k x hx W hW=>by
   obtain ⟨b,o,he,h⟩:=hF.cells_at (i:=k) (r:=strD x) (vs:=[.string ⟨x.toArray⟩]) (by rw[yQ,hx];rfl) rfl;have he:=Option.some.inj he;injection he with h1 h2 _
   subst h1 h2;have:=h W hW 0 _ rfl;simpa using this
  obtain ⟨NB,hNB⟩:∃ J:ByteArray,(⟨(Lib.itoa N).toArray⟩:ByteArray)=J:=⟨_,rfl⟩;have HNBe:=hid hNB;have HNB:Hid (∀ W,Calls Tryz.prog 28 #[.int .i64 N] W fun e w'=>e=.returned (.string NB)∧Below W.heap.size W w'):=fun W=>by
   have:=Va.number_any N W (by omega) hN2;rw[hNB]at this;exact this
  have hNBs:NB.size≤1000:=by rw[← hNB,szm];have:=Lib.itoa_length_le N (by omega) hN2;omega
  have hNNs:NN.size≤1000:=by rw[← hNN,szm];have:=hnw.2.1;omega
  have HMW:=hid hmw;have HLL:=hid hL;have HKK:=hid hKK;have HNN:=hid hNN;have HN0:Hid (0≤N∧N≤9223372036854775807):=⟨hN0,hN2⟩;have HB0:Hid (WrT n0 (tkQ (scanL n0))∧OkQ (scanL n0)∧deepQ (scanL n0)≤1∧n0.length≤16+123*0):=⟨by rw[zfB];exact zas hnw.1,.scan n0 hnw.1,by rw[zdw];omega,by have:=hnw.2.1;omega⟩;have hL20:L≤20:=by omega
  have hL0:0<L:=by omega
  have hL00:¬ L=0:=by omega
  have g1:decide (12<(K:Int))=false:=by rw[yK];omega
  have g2:decide (N<0)=false:=by rw[yK];omega
  rw[hL,hKK,hNN];rw[hL]at HWS HRA;rw[hKK]at HRK;clear hE hF hK hn hls hqn hqs hNN hL hKK hnw hmw hml hN0 hN2 hf0 hNB;go_enter func5,ntmps5
  go_upto_region 0 with (fail)
  refine wp_region_lit (Nx.out ?_);refine h_op (fun Kz hK=>?_);refine St.o_box (vs:=[.string NN,.slice ka K kc,.slice (some ⟨nb,no,none⟩) L nc,.int .i64 N]) H.out rfl rfl rfl (fun wl Zb _ H2=>?_);refine hK.out _ _ ?_;clear hK Kz;replace H:=hid H2;clear H2;try simp only[Array.reduceGetElem,zs]
  refine h_v ?_;refine h_end ?_;go_upto_region 1 with (fail)
  refine wp_region_lit (Nx.out ?_);refine h_v ?_;refine H.out.h_l1 0 ?_ uStr_;refine h_op (fun Kz hK=>?_);go_simp;go_at_call 21
  (with_reducible (refine (HW.out _ (zac H.out)).mono ?_))
  rintro e wc ⟨rfl,hb9⟩;have H2:=H.out.below hb9;clear hb9;refine hK.out _ _ ?_;clear hK Kz;replace H:=hid H2;clear H2;try simp only[Array.reduceGetElem,zs]
  refine h_v ?_;refine h_v ?_;first|(refine h_s ?_)|(refine h_v ?_)
  first|(refine h_s ?_)|(refine H.out.h_l1 0 ?_ zeB)
  first|(refine h_s ?_)|(refine h_op (fun Kz hK=>?_);go_simp;go_at_call 22;(with_reducible (refine (HWS.out _ (zac H.out)).mono ?_));rintro e wc ⟨rfl,hb9⟩;have H2:=H.out.below hb9;clear hb9;refine hK.out _ _ ?_;clear hK Kz;replace H:=hid H2;clear H2;try simp only[Array.reduceGetElem,zs])
  first|(refine h_s ?_)|(refine h_v ?_)
  refine h_v ?_;refine h_v ?_;first|(refine h_s ?_)|(refine h_v ?_)
  first|(refine h_s ?_)|(refine H.out.h_l1 0 ?_ uKi_)
  first|(refine h_s ?_)|(refine h_v ?_)
  first|(refine h_s ?_)|(refine h_v ?_)
  refine h_v ?_;refine h_v ?_;first|(refine h_s ?_)|(refine h_v ?_)
  first|(refine h_s ?_)|(refine H.out.h_l1 0 ?_ uInt_)
  first|(refine h_s ?_)|(refine h_v ?_)
  refine h_v ?_;refine h_end ?_;go_upto_region 3 with (fail)
  refine wp_region_lit (Nx.out ?_);refine h_v ?_;refine H.out.h_l1 0 ?_ uStr_;refine h_v ?_;refine h_op (fun Kz hK=>?_);refine St.o_alloc (ty:=57) H.out rfl zPl_ rfl (fun wl Wb _ H2=>?_);refine hK.out _ _ ?_;clear hK Kz;replace H:=hid H2;clear H2;try simp only[Array.reduceGetElem,zs]
  refine h_op (fun Kz hK=>?_);refine St.o_store (ty:=57) H.out rfl rfl rfl 0 rfl rfl rfl sPl_ (zad rfl) (fun wl _ _ H2=>?_);refine hK.out _ _ ?_;clear hK Kz;replace H:=hid H2;clear H2;try simp only[Array.reduceGetElem,zs]
  refine h_end ?_;have H2:=H.out.put (zfF n0);rw[HNN.out]at H2;replace H:=hid H2;clear H2 HW HWS;go_upto_region 4 with (fail)
  refine wp_region_lit (Nx.out ?_);refine h_v ?_;refine H.out.h_l1 1 ?_ uStr_;refine h_v ?_;refine h_end ?_;go_upto_region 5 with (fail)
  refine wp_region_lit (Nx.out ?_);refine h_v ?_;refine H.out.h_l1 1 ?_ uKi_;refine h_v ?_;refine h_v ?_;refine h_end ?_;go_wp2_with fail
  go_loopw [4,47] (fun v i wr=>∃ (k:Nat) (t:Str) (cur:Pl) (TT:ByteArray) (PC:List Value),k≤K∧v=.string TT∧i=.int .i64 k∧Hid (TT=⟨t.toArray⟩)∧Hid (WrT t (tkQ cur)∧OkQ cur∧deepQ cur≤1∧t.length≤16+123*k)∧Hid (St (fun _=>False) w wr [(Wb,PC),(Zb,[.string NN,.slice ka K kc,.slice (some ⟨nb,no,none⟩) L nc,.int .i64 N])] [(plD cur,PC)] [])) (fun _ i _=>K-(intOf i).toNat)
  case atStart=>exact ⟨0,n0,scanL n0,NN,_,yS _,rfl,rfl,HNN.out.symm,HB0,H⟩
  case round =>
   clear H HB0;obtain ⟨k,t,cur,TT,PC,hk,rfl,rfl,HTT,HB,H⟩:=hrel;have hTs:TT.size≤1500:=by rw[HTT.out,szm];have:=HB.out.2.2.2;omega
   obtain ⟨a0,ac0,a1,ac1,a2,ac2,a3,ac3,a4,ac4,a5,ac5,a6,ac6,rfl,_⟩:=zcb (H.out.rowAt (j:=0) rfl);by_cases hlt:k<K
   ·obtain ⟨kd,hkd⟩:∃ x,ks[k]?=some x:=⟨_,yF (by rw[HKK.out];exact hlt)⟩;obtain ⟨kb,ko,rfl,hkc⟩:=(HRK.out w (Below.refl _ _)).cells_at (i:=k) (r:=[dI kd]) (vs:=[.int .i64 kd]) (by rw[yQ,hkd];rfl) rfl;have HKC:Hid (∀ W,Below w.heap.size w W→W.cell? ⟨kb,ko+k,none⟩=some (.int .i64 kd)):=fun W hW=>by have:=hkc W hW 0 _ rfl;simpa using this
    obtain ⟨kn,hkn⟩:∃ q,k % L=q:=⟨_,rfl⟩;obtain ⟨km,hkm⟩:∃ q,(k+1) % L=q:=⟨_,rfl⟩;have hknL:kn<L:=by rw[← hkn];exact Nat.mod_lt _ hL0
    have hkmL:km<L:=by rw[← hkm];exact Nat.mod_lt _ hL0
    have hrem1:(k:Int).tmod (L:Int)=(kn:Int):=by rw[Int.tmod_eq_emod_of_nonneg (by omega),← hkn];exact (Int.natCast_emod k L).symm
    have hrem2:((k:Int)+1).tmod (L:Int)=(km:Int):=by rw[Int.tmod_eq_emod_of_nonneg (by omega),← hkm];exact (Int.natCast_emod (k+1) L).symm
    have hwr1:IntKind.i64.wrap ((k:Int)+1)=(k:Int)+1:=IntWalk.i64_in _ (by omega);have hknL2:(kn:Int)<(L:Int):=by omega
    have hkmL2:(km:Int)<(L:Int):=by omega
    have gL0:((L:Int) == 0)=false:=by rw[yT];omega
    obtain ⟨n,hxn⟩:∃ x,l[kn]?=some x:=⟨_,yF (by rw[HLL.out];exact hknL)⟩;obtain ⟨m,hxm⟩:∃ x,l[km]?=some x:=⟨_,yF (by rw[HLL.out];exact hkmL)⟩;obtain ⟨hno,hnl⟩:=HMW.out n (yP hxn);obtain ⟨hmo,hmll⟩:=HMW.out m (yP hxm);obtain ⟨X,hX⟩:∃ X:ByteArray,(⟨n.toArray⟩:ByteArray)=X:=⟨_,rfl⟩;obtain ⟨Y,hY⟩:∃ X:ByteArray,(⟨m.toArray⟩:ByteArray)=X:=⟨_,rfl⟩;have hXs:X.size≤1000:=by rw[← hX,szm];omega
    have hYs:Y.size≤1000:=by rw[← hY,szm];omega
    have HCX:Hid (∀ W,Below w.heap.size w W→W.cell? ⟨nb,no+kn,none⟩=some (.string X)):=fun W hW=>by have:=HFC.out kn n hxn W hW;rw[hX]at this;exact this
    have HCY:Hid (∀ W,Below w.heap.size w W→W.cell? ⟨nb,no+km,none⟩=some (.string Y)):=fun W hW=>by have:=HFC.out km m hxm W hW;rw[hY]at this;exact this
    have HXX:=hid hX;have HYY:=hid hY;have HSQ:Hid (∀ kd:Int,(2≤kd∧kd≤9)→Hid (WrT (t++([32,124,32]++sqT kd n m N)) (tkQ (sqPl kd n m N cur))∧OkQ (sqPl kd n m N cur)∧deepQ (sqPl kd n m N cur)≤1∧(t++([32,124,32]++sqT kd n m N)).length≤16+123*(k+1))):=fun kd h=>by
     obtain ⟨b1,b2,b3,b4⟩:=HB.out;have e1:=sq_wr (k:=kd) h b1 hno.1 hmo.1 HN0.out.1 HN0.out.2;have e2:=sq_ok (k:=kd) h b2 b3 hno hmo HN0.out.1 HN0.out.2;refine ⟨e1,e2.1,e2.2,?_⟩;have e3:=zsX (k:=kd) hnl hmll HN0.out;rw[yA,yA];show t.length+(3+_)≤_
     omega
    have HRN:Hid (∀ (W:World) (q:Nat→Prop),Row W q (strD n) [.string X]):=fun W q=>by rw[← hX];exact (Row.nil W q).cons (.v _ rfl)
    have HRM:Hid (∀ (W:World) (q:Nat→Prop),Row W q (strD m) [.string Y]):=fun W q=>by rw[← hY];exact (Row.nil W q).cons (.v _ rfl)
    have HRNM:Hid (∀ (W:World) (q:Nat→Prop),Row W q (pairD (n,m)) [.string X,.string Y]):=fun W q=>by rw[← hX,← hY];exact ((Row.nil W q).cons (.v _ rfl)).cons (.v _ rfl)
    have HRMN:Hid (∀ (W:World) (q:Nat→Prop),Row W q (pairD (m,n)) [.string Y,.string X]):=fun W q=>by rw[← hX,← hY];exact ((Row.nil W q).cons (.v _ rfl)).cons (.v _ rfl)
    have HRA1:Hid (∀ (W:World) (q:Nat→Prop),Row W q (aggD (zdS,[],m)) [.string ⟨#[99,111,117,110,116]⟩,.string ⟨#[]⟩,.string Y]):=fun W q=>by rw[← hY];exact (((Row.nil W q).cons (.v _ rfl)).cons (.v _ rfl)).cons (.v _ rfl)
    have HRA2:Hid (∀ (W:World) (q:Nat→Prop),Row W q (aggD (sSum,m,n)) [.string ⟨#[115,117,109]⟩,.string Y,.string X]):=fun W q=>by rw[← hX,← hY];exact (((Row.nil W q).cons (.v _ rfl)).cons (.v _ rfl)).cons (.v _ rfl)
    have HRO1:Hid (∀ (W:World) (q:Nat→Prop),Row W q (ordD (n,true)) [.string X,.bool true]):=fun W q=>by rw[← hX];exact ((Row.nil W q).cons (.v _ rfl)).cons (.v _ rfl)
    have HRO2:Hid (∀ (W:World) (q:Nat→Prop),Row W q (ordD (m,false)) [.string Y,.bool false]):=fun W q=>by rw[← hY];exact ((Row.nil W q).cons (.v _ rfl)).cons (.v _ rfl)
    have HRS:Hid (∀ (W:World) (q:Nat→Prop),Row W q (plD (scanL m)) [.int .i64 1,.string Y,.slice none 0 0,.int .i64 0,.string ⟨#[]⟩,.int .i64 0,.int .i64 0,.string ⟨#[]⟩,.string ⟨#[]⟩,.slice none 0 0,.slice none 0 0,.slice none 0 0,.slice none 0 0,.slice none 0 0,.slice none 0 0,.int .i64 0]):=fun W q=>by rw[← hY];exact zfF m
    obtain ⟨xcn,hxcn⟩:∃ x,zax n=x:=⟨_,rfl⟩;obtain ⟨xcm,hxcm⟩:∃ x,zax m=x:=⟨_,rfl⟩;obtain ⟨xun,hxun⟩:∃ x,zat sNot (zax n)=x:=⟨_,rfl⟩;obtain ⟨xk,hxk⟩:∃ x,zam ⟨1,N,[]⟩=x:=⟨_,rfl⟩;obtain ⟨xlt,hxlt⟩:∃ x,zaj [60] (zax n) (zam ⟨1,N,[]⟩)=x:=⟨_,rfl⟩;have HXLT:=hid hxlt;have HXCM:=hid hxcm;have HXUN:=hid hxun;have hsm:Sm xcn:=by rw[← hxcn];exact .mk _ (by show 0≤_;omega) (fun a ha=>by cases ha)
    have hsk:Sm xk:=by rw[← hxk];exact .mk _ (by show 0≤_;omega) (fun a ha=>by cases ha)
    have HCN:Hid (∀ W,Calls Tryz.prog 25 #[.string X] W (ExNew xcn W)):=fun W=>by rw[← hX,← hxcn];exact zhl n W
    have HCM:Hid (∀ W,Calls Tryz.prog 25 #[.string Y] W (ExNew xcm W)):=fun W=>by rw[← hY,← hxcm];exact zhl m W
    have HCK:Hid (∀ W,Calls Tryz.prog 26 #[.agg #[.int .i64 1,.int .i64 N,.string ⟨#[]⟩]] W (ExNew xk W)):=fun W=>by rw[← hxk];exact zoy 1 N [] W
    have HUN:Hid (∀ W sa ca (o:Nat→Prop),XArgs W o (.slice sa xcn.xs.length ca) xcn.xs→Calls Tryz.prog 29 #[.string ⟨#[110,111,116]⟩,exV xcn (.slice sa xcn.xs.length ca)] W (ExNew xun W)):=fun W sa ca o h=>by
     have:=zle sNot xcn hsm sa ca W o h;rw[← hxcn]at this ⊢;rw[hxun]at this;exact this
    have HBI:Hid (∀ W sa ca sb cb (o1 o2:Nat→Prop),XArgs W o1 (.slice sa xcn.xs.length ca) xcn.xs→XArgs W o2 (.slice sb xk.xs.length cb) xk.xs→Calls Tryz.prog 24 #[.string ⟨#[60]⟩,exV xcn (.slice sa xcn.xs.length ca),exV xk (.slice sb xk.xs.length cb)] W (ExNew xlt W)):=fun W sa ca sb cb o1 o2 h1 h2=>by
     have:=zke [60] xcn xk hsm hsk sa sb ca cb W o1 o2 h1 h2;rw[← hxcn,← hxk]at this ⊢;rw[hxlt]at this;exact this
    have hlt2:(k:Int)<(K:Int):=by omega
    clear hkd hkc hkn hkm hxn hxm hno hmo hX hY hxcn hxcm hxun hxk hxlt hsm hsk HB;go_upto_region 6 with (fail)
    refine wp_region_lit (Nx.out ?_);refine h_v ?_;refine h_end ?_;go_upto_region 7 with (fail)
    refine wp_region_lit (Nx.out ?_);refine h_v ?_;refine h_v ?_;refine h_op (fun Kz hK=>?_);refine zdF (ty:=3) rfl rfl (HKC.out _ (zac H.out)) uInt_ (hK.out _ _ ?_);clear hK Kz;try simp only[Array.reduceGetElem,zs]
    refine h_v ?_;refine h_v ?_;refine h_end ?_;go_upto_region 8 with (fail)
    refine zaa 20 (S:=fun W=>W.cell? ⟨Zb,2,none⟩=some (.slice (some ⟨nb,no,none⟩) L nc)∧W.cell? ⟨nb,no+kn,none⟩=some (.string X)∧W.cell? ⟨nb,no+km,none⟩=some (.string Y)) (by kernel_rfl) (by exact ⟨H.out.drew.cellS (i:=1) rfl rfl,HCX.out _ (zac H.out.drew),HCY.out _ (zac H.out.drew)⟩) (fun zJ=>?_);replace H:=hid H.out.drew;refine tKm 0 ?_;refine tKm 1 ?_;refine tKm 2 ?_;refine tKm 3 ?_;refine tKm 4 ?_;refine tKm 5 ?_;refine tKm 6 ?_;refine tKm 7 ?_;refine tKm 8 ?_;refine tKm 9 ?_;refine tKm 10 ?_;refine tKm 11 ?_;refine tKm 12 ?_;refine tKm 13 ?_;refine tKm 14 ?_;refine tKm 15 ?_;refine tKm 16 ?_;refine tKm 17 ?_;refine tKm 18 ?_;refine tKm 19 ?_;refine rKl 20 fun K hK=>?_
    go_simp;refine hK.out _ _ ?_;clear hK K;refine rKd ?_;go_upto_region 9 with (fail)
    refine wp_region_lit (Nx.out ?_);refine h_v ?_;refine h_op (fun Kz hK=>?_);refine St.o_load (ty:=57) H.out rfl rfl 0 rfl uPl_ sPl_ (hK.out _ _ ?_);clear hK Kz;try simp only[Array.reduceGetElem,zs]
    refine h_op (fun Kz hK=>?_);refine H.out.o_litO1 (r:=plD cur) (k:=16) rfl underlying52 iPl2_ rfl rfl (by decide) (by decide) rfl rfl (za7 _) (H.out.rowAt (j:=0) rfl) (fun wl Ab _ H2=>?_);refine hK.out _ _ ?_;clear hK Kz;replace H:=hid H2;clear H2;try simp only[Array.reduceGetElem,zs]
    refine h_v ?_;refine h_op (fun Kz hK=>?_);refine St.o_alloc (ty:=57) H.out rfl zPl_ rfl (fun wl Pb _ H2=>?_);refine hK.out _ _ ?_;clear hK Kz;replace H:=hid H2;clear H2;try simp only[Array.reduceGetElem,zs]
    refine h_op (fun Kz hK=>?_);refine St.o_store (ty:=57) H.out rfl rfl rfl 0 rfl rfl rfl sPl_ (zad rfl) (fun wl _ _ H2=>?_);refine hK.out _ _ ?_;clear hK Kz;replace H:=hid H2;clear H2;try simp only[Array.reduceGetElem,zs]
    refine h_end ?_;go_upto_region 10 with (fail)
    refine wp_region_lit (Nx.out ?_);refine h_v ?_;refine h_v ?_;refine h_op (fun Kz hK=>?_);refine St.o_alloc (ty:=57) H.out rfl zPl_ rfl (fun wl Ob _ H2=>?_);refine hK.out _ _ ?_;clear hK Kz;replace H:=hid H2;clear H2;try simp only[Array.reduceGetElem,zs]
    refine h_op (fun Kz hK=>?_);refine St.o_store (ty:=57) H.out rfl rfl rfl 0 rfl rfl rfl sPl_ (zad rfl) (fun wl _ _ H2=>?_);refine hK.out _ _ ?_;clear hK Kz;replace H:=hid H2;clear H2;try simp only[Array.reduceGetElem,zs]
    refine h_end ?_;go_upto_region 11 with (fail)
    refine wp_region_lit (Nx.out ?_);refine h_v ?_;refine h_add ?_;refine h_v ?_;refine h_end ?_;go_upto_region 12 with (fail)
    refine wp_region_lit (Nx.out ?_);refine h_v ?_;refine h_end ?_;by_cases hkd:2≤kd∧kd≤9
    ·have hc:kd=2∨kd=3∨kd=4∨kd=5∨kd=6∨kd=7∨kd=8∨kd=9:=by omega
     clear hkd;rcases hc with rfl|rfl|rfl|rfl|rfl|rfl|rfl|rfl
     ·as_aux_lemma =>
      go_upto_region 14 with (fail)
      refine wp_region_lit (Nx.out ?_);refine h_v ?_;refine h_v ?_;refine h_end ?_;go_upto_region 15 with (fail)
      refine zaa 8 (S:=fun W=>W.cell? ⟨Zb,3,none⟩=some (.int .i64 N)) (by kernel_rfl) (by exact H.out.drew.cellS (i:=3) rfl rfl) (fun zJ=>?_);replace H:=hid H.out.drew;refine tKm 0 ?_;refine tKm 2 ?_;refine tKm 3 ?_;refine rK1 1 fun K hK=>?_
      go_simp;go_at_call 25
      (with_reducible (refine (HCN.out _).mono ?_))
      rintro e wc ⟨an,anc,rfl,hX,hb9⟩;have H2:=H.out.more (H.out.below hb9) (zbC hX);clear hX hb9;refine hK.out _ _ ?_ (fun zH=>?_)
      ·exact H2.cellS (i:=3) rfl rfl
      replace zJ:=zH;clear hK K;replace H:=hid H2;clear H2;refine rK1 4 fun K hK=>?_
      go_simp;go_at_call 27
      (with_reducible (refine (of_any N _).mono ?_))
      rintro e wc ⟨rfl,hb9⟩;have H2:=H.out.below hb9;clear hb9;refine hK.out _ _ ?_ (fun zH=>?_)
      ·exact H2.cellS (i:=3) rfl rfl
      replace zJ:=zH;clear hK K;replace H:=hid H2;clear H2;refine rK1 5 fun K hK=>?_
      go_simp;go_at_call 26
      (with_reducible (refine (HCK.out _).mono ?_))
      rintro e wc ⟨ak,akc,rfl,hX,hb9⟩;have H2:=H.out.more (H.out.below hb9) (zbC hX);clear hX hb9;refine hK.out _ _ ?_ (fun zH=>?_)
      ·exact H2.cellS (i:=3) rfl rfl
      replace zJ:=zH;clear hK K;replace H:=hid H2;clear H2;refine rK1 6 fun K hK=>?_
      go_simp;go_at_call 24
      (with_reducible (refine (HBI.out _ _ _ _ _ _ _ (zfx (H.out.rowAt (j:=1) rfl)) (zfx (H.out.rowAt (j:=0) rfl))).mono ?_))
      rintro e wc ⟨lt,ltc,rfl,hX,hb9⟩;have H2:=H.out.more (H.out.below hb9) (zbC hX);clear hX hb9;refine hK.out _ _ ?_ (fun zH=>?_)
      ·exact H2.cellS (i:=3) rfl rfl
      replace zJ:=zH;clear hK K;replace H:=hid H2;clear H2;refine tKm 7 ?_;refine rKl 8 fun K hK=>?_
      rw[if_pos (by rfl)];refine H.out.o_part (ty:=27) rfl rfl rfl 1 rfl rfl (yI rfl) sEx_ (zad rfl) (fun wl _ _ H2=>?_);refine hK.out _ _ ?_;clear hK K;replace H:=hid H2;clear H2;refine rKd ?_;go_upto_region 16 with (fail)
      refine wp_region_lit (Nx.out ?_);refine h_v ?_;refine h_v ?_;refine h_add ?_;refine h_add ?_;refine h_v ?_;refine H.out.h_l1 3 ?_ uInt_;refine h_op (fun Kz hK=>?_);go_simp;go_at_call 28
      (with_reducible (refine (HNB.out _).mono ?_))
      rintro e wc ⟨rfl,hb9⟩;have H2:=H.out.below hb9;clear hb9;refine hK.out _ _ ?_;clear hK Kz;replace H:=hid H2;clear H2;try simp only[Array.reduceGetElem,zs]
      refine h_add ?_;refine h_add ?_;refine h_v ?_;refine h_end ?_;go_upto_region 40 with (fail)
      replace H:=hid H.out.shut;have H2:=H.out;rw[← HXLT.out]at H2;replace H:=hid H2;clear H2
      have H4:Hid (St (fun _=>False) w _ [(Ob,[.int .i64 1,.string Y,.slice none 0 0,.int .i64 0,.string ⟨#[]⟩,.int .i64 0,.int .i64 0,.string ⟨#[]⟩,.string ⟨#[]⟩,.slice none 0 0,.slice none 0 0,.slice none 0 0,.slice none 0 0,.slice none 0 0,.slice none 0 0,.int .i64 0]),(Pb,plC (sqPl 2 n m N cur) (.slice (some ⟨Ab,0,none⟩) 1 1) (.slice lt 2 ltc) (.slice none 0 0) (.slice none 0 0) (.slice none 0 0) (.slice none 0 0) (.slice none 0 0)),(Wb,_),(Zb,[.string NN,.slice (some ⟨kb,ko,none⟩) K kc,.slice (some ⟨nb,no,none⟩) L nc,.int .i64 N])] [(plD (sqPl 2 n m N cur),plC (sqPl 2 n m N cur) (.slice (some ⟨Ab,0,none⟩) 1 1) (.slice lt 2 ltc) (.slice none 0 0) (.slice none 0 0) (.slice none 0 0) (.slice none 0 0) (.slice none 0 0))] []):=hid ((H.out.put (zrw (repOf (H.out.rowAt (j:=0) rfl)) (zfx (H.out.rowAt (j:=1) rfl)))).less (D':=[(_,_)]) (fun q hq=>by rw[List.mem_singleton.1 hq];exact yX))
      clear H;have H:=H4;clear H4;refine wp_region_lit (Nx.out ?_);refine h_op (fun Kz hK=>?_);refine St.o_load (ty:=57) H.out rfl rfl 1 rfl uPl_ sPl_ (hK.out _ _ ?_);clear hK Kz;try simp only[Array.reduceGetElem,zs]
      refine h_op (fun Kz hK=>?_);refine St.o_store (ty:=57) H.out rfl rfl rfl 2 rfl rfl rfl sPl_ (zad rfl) (fun wl _ _ H2=>?_);refine hK.out _ _ ?_;clear hK Kz;replace H:=hid H2;clear H2;try simp only[Array.reduceGetElem,zs]
      refine h_end ?_;go_wp2_with fail
      have H4:Hid (St (fun _=>False) w _ [(Wb,plC (sqPl 2 n m N cur) (.slice (some ⟨Ab,0,none⟩) 1 1) (.slice lt 2 ltc) (.slice none 0 0) (.slice none 0 0) (.slice none 0 0) (.slice none 0 0) (.slice none 0 0)),(Zb,[.string NN,.slice (some ⟨kb,ko,none⟩) K kc,.slice (some ⟨nb,no,none⟩) L nc,.int .i64 N])] [(plD (sqPl 2 n m N cur),plC (sqPl 2 n m N cur) (.slice (some ⟨Ab,0,none⟩) 1 1) (.slice lt 2 ltc) (.slice none 0 0) (.slice none 0 0) (.slice none 0 0) (.slice none 0 0) (.slice none 0 0))] []):=hid (H.out.drop (.cons _ (.cons _ (List.Sublist.refl _))));clear H;have HTX:Hid ((TT++⟨#[32,124,32]⟩)++((((⟨#[119,104,101,114,101,32]⟩:ByteArray)++X)++⟨#[60]⟩)++NB)=⟨(t++([32,124,32]++sqT 2 n m N)).toArray⟩):=by
       show _=_
       rw[HTT.out,← HXX.out,← HNBe.out];show ((⟨t.toArray⟩:ByteArray)++⟨([32,124,32]:Str).toArray⟩)++(((⟨([119,104,101,114,101,32]:Str).toArray⟩++⟨n.toArray⟩)++⟨([60]:Str).toArray⟩)++⟨(Lib.itoa N).toArray⟩)=_
       rw[apm,apm,apm,apm,apm];congr 2
       unfold sqT;simp[zbK,sKeep,sJoin,sLeft,zbM,zbL,zaE,zbu]
      go_roundw
      case rel=>exact ⟨k+1,_,sqPl 2 n m N cur,_,_,by omega,rfl,by go_num,HTX,HSQ.out 2 (by decide),H4⟩
      case measure=>simp[intOf];omega
     ·as_aux_lemma =>
      go_upto_region 14 with (fail)
      refine wp_region_lit (Nx.out ?_);refine h_v ?_;refine h_v ?_;refine h_end ?_;go_upto_region 17 with (fail)
      refine wp_region_lit (Nx.out ?_);refine h_v ?_;refine h_v ?_;refine h_end ?_;go_upto_region 18 with (fail)
      refine wp_region_lit (Nx.out ?_);refine h_v ?_;refine h_v ?_;refine h_op (fun Kz hK=>?_);refine H.out.o_lit2 (r1:=strD n) (r2:=strD m) rfl underlying48 zaR rfl rfl rfl (by decide) (by decide) rfl rfl rfl rfl (HRN.out _ _) (HRM.out _ _) (fun wl Sb _ H2=>?_);refine hK.out _ _ ?_;clear hK Kz;replace H:=hid H2;clear H2;try simp only[Array.reduceGetElem,zs]
      refine h_v ?_;refine h_op (fun Kz hK=>?_);go_simp;go_at_call 25
      (with_reducible (refine (HCM.out _).mono ?_))
      rintro e wc ⟨am,amc,rfl,hX,hb9⟩;have H2:=H.out.more (H.out.below hb9) (zbC hX);clear hX hb9;refine hK.out _ _ ?_;clear hK Kz;replace H:=hid H2;clear H2;try simp only[Array.reduceGetElem,zs]
      refine h_v ?_;refine h_op (fun Kz hK=>?_);go_simp;go_at_call 25
      (with_reducible (refine (HCN.out _).mono ?_))
      rintro e wc ⟨an,anc,rfl,hX,hb9⟩;have H2:=H.out.more (H.out.below hb9) (zbC hX);clear hX hb9;refine hK.out _ _ ?_;clear hK Kz;replace H:=hid H2;clear H2;try simp only[Array.reduceGetElem,zs]
      refine h_op (fun Kz hK=>?_);go_simp;go_at_call 29
      (with_reducible (refine (HUN.out _ _ _ _ (zfx (H.out.rowAt (j:=0) rfl))).mono ?_))
      rintro e wc ⟨au,auc,rfl,hX,hb9⟩;have H2:=H.out.more (H.out.below hb9) (zbC hX);clear hX hb9;refine hK.out _ _ ?_;clear hK Kz;replace H:=hid H2;clear H2;try simp only[Array.reduceGetElem,zs]
      refine h_op (fun Kz hK=>?_);refine H.out.o_lit2 (r1:=exD xcm) (r2:=exD xun) rfl underlying25 iEx2_ rfl rfl rfl (by decide) (by decide) rfl rfl (zbk _) (zbk _) (H.out.rowAt (j:=2) rfl) (H.out.rowAt (j:=0) rfl) (fun wl Eb _ H2=>?_);refine hK.out _ _ ?_;clear hK Kz;replace H:=hid H2;clear H2;try simp only[Array.reduceGetElem,zs]
      refine h_v ?_;refine h_op (fun Kz hK=>?_);refine St.o_store1 (ty:=48) H.out rfl rfl rfl 1 rfl (yI rfl) zef rfl (fun wl _ _ H2=>?_);refine hK.out _ _ ?_;clear hK Kz;replace H:=hid H2;clear H2;try simp only[Array.reduceGetElem,zs]
      refine h_v ?_;refine h_op (fun Kz hK=>?_);refine St.o_store1 (ty:=25) H.out rfl rfl rfl 1 rfl (yI rfl) sSEx_ rfl (fun wl _ _ H2=>?_);refine hK.out _ _ ?_;clear hK Kz;replace H:=hid H2;clear H2;try simp only[Array.reduceGetElem,zs]
      refine h_end ?_;go_upto_region 19 with (fail)
      refine wp_region_lit (Nx.out ?_);refine h_v ?_;refine h_v ?_;refine h_add ?_;refine h_add ?_;refine h_v ?_;refine h_add ?_;refine h_add ?_;refine h_v ?_;refine h_add ?_;refine h_add ?_;refine h_v ?_;refine h_add ?_;refine h_add ?_;refine h_v ?_;refine h_end ?_;go_upto_region 40 with (fail)
      replace H:=hid H.out.shut.shut.shut
      have H4:Hid (St (fun _=>False) w _ [(Ob,[.int .i64 1,.string Y,.slice none 0 0,.int .i64 0,.string ⟨#[]⟩,.int .i64 0,.int .i64 0,.string ⟨#[]⟩,.string ⟨#[]⟩,.slice none 0 0,.slice none 0 0,.slice none 0 0,.slice none 0 0,.slice none 0 0,.slice none 0 0,.int .i64 0]),(Pb,plC (sqPl 3 n m N cur) (.slice (some ⟨Ab,0,none⟩) 1 1) (.slice none 0 0) (.slice (some ⟨Sb,0,none⟩) 2 2) (.slice (some ⟨Eb,0,none⟩) 2 2) (.slice none 0 0) (.slice none 0 0) (.slice none 0 0)),(Wb,_),(Zb,[.string NN,.slice (some ⟨kb,ko,none⟩) K kc,.slice (some ⟨nb,no,none⟩) L nc,.int .i64 N])] [(plD (sqPl 3 n m N cur),plC (sqPl 3 n m N cur) (.slice (some ⟨Ab,0,none⟩) 1 1) (.slice none 0 0) (.slice (some ⟨Sb,0,none⟩) 2 2) (.slice (some ⟨Eb,0,none⟩) 2 2) (.slice none 0 0) (.slice none 0 0) (.slice none 0 0))] []):=hid ((H.out.put (zrv (repOf (H.out.rowAt (j:=0) rfl)) (repOf (H.out.rowAt (j:=1) rfl)) (by rw[HXCM.out,HXUN.out];exact repOf (H.out.rowAt (j:=2) rfl)))).less (D':=[(_,_)]) (fun q hq=>by rw[List.mem_singleton.1 hq];exact yX))
      clear H;have H:=H4;clear H4;refine wp_region_lit (Nx.out ?_);refine h_op (fun Kz hK=>?_);refine St.o_load (ty:=57) H.out rfl rfl 1 rfl uPl_ sPl_ (hK.out _ _ ?_);clear hK Kz;try simp only[Array.reduceGetElem,zs]
      refine h_op (fun Kz hK=>?_);refine St.o_store (ty:=57) H.out rfl rfl rfl 2 rfl rfl rfl sPl_ (zad rfl) (fun wl _ _ H2=>?_);refine hK.out _ _ ?_;clear hK Kz;replace H:=hid H2;clear H2;try simp only[Array.reduceGetElem,zs]
      refine h_end ?_;go_wp2_with fail
      have H4:Hid (St (fun _=>False) w _ [(Wb,plC (sqPl 3 n m N cur) (.slice (some ⟨Ab,0,none⟩) 1 1) (.slice none 0 0) (.slice (some ⟨Sb,0,none⟩) 2 2) (.slice (some ⟨Eb,0,none⟩) 2 2) (.slice none 0 0) (.slice none 0 0) (.slice none 0 0)),(Zb,[.string NN,.slice (some ⟨kb,ko,none⟩) K kc,.slice (some ⟨nb,no,none⟩) L nc,.int .i64 N])] [(plD (sqPl 3 n m N cur),plC (sqPl 3 n m N cur) (.slice (some ⟨Ab,0,none⟩) 1 1) (.slice none 0 0) (.slice (some ⟨Sb,0,none⟩) 2 2) (.slice (some ⟨Eb,0,none⟩) 2 2) (.slice none 0 0) (.slice none 0 0) (.slice none 0 0))] []):=hid (H.out.drop (.cons _ (.cons _ (List.Sublist.refl _))));clear H;have HTX:Hid ((TT++⟨#[32,124,32]⟩)++((((((((⟨#[107,101,101,112,32]⟩:ByteArray)++Y)++⟨#[32,97,115,32]⟩)++X)++⟨#[44,32,110,111,116,32]⟩)++X)++⟨#[32,97,115,32]⟩)++Y)=⟨(t++([32,124,32]++sqT 3 n m N)).toArray⟩):=by
       show _=_
       rw[HTT.out,← HXX.out,← HYY.out];show ((⟨t.toArray⟩:ByteArray)++⟨([32,124,32]:Str).toArray⟩)++(((((((⟨([107,101,101,112,32]:Str).toArray⟩++⟨m.toArray⟩)++⟨([32,97,115,32]:Str).toArray⟩)++⟨n.toArray⟩)++⟨([44,32,110,111,116,32]:Str).toArray⟩)++⟨n.toArray⟩)++⟨([32,97,115,32]:Str).toArray⟩)++⟨m.toArray⟩)=_
       rw[apm,apm,apm,apm,apm,apm,apm,apm,apm];congr 2
       unfold sqT;simp[zbK,sKeep,sJoin,sLeft,zbM,zbL,zaE,zbu]
      go_roundw
      case rel=>exact ⟨k+1,_,sqPl 3 n m N cur,_,_,by omega,rfl,by go_num,HTX,HSQ.out 3 (by decide),H4⟩
      case measure=>simp[intOf];omega
     ·as_aux_lemma =>
      go_upto_region 14 with (fail)
      refine wp_region_lit (Nx.out ?_);refine h_v ?_;refine h_v ?_;refine h_end ?_;go_upto_region 17 with (fail)
      refine wp_region_lit (Nx.out ?_);refine h_v ?_;refine h_v ?_;refine h_end ?_;go_upto_region 20 with (fail)
      refine wp_region_lit (Nx.out ?_);refine h_v ?_;refine h_v ?_;refine h_end ?_;go_upto_region 21 with (fail)
      refine wp_region_lit (Nx.out ?_);refine h_v ?_;refine h_v ?_;refine h_v ?_;refine h_v ?_;refine h_v ?_;refine h_v ?_;refine h_op (fun Kz hK=>?_);refine H.out.o_lit2 (r1:=pairD (n,m)) (r2:=pairD (m,n)) rfl underlying53 iPr2_ rfl rfl rfl (by decide) (by decide) rfl rfl rfl rfl (HRNM.out _ _) (HRMN.out _ _) (fun wl Rb _ H2=>?_);refine hK.out _ _ ?_;clear hK Kz;replace H:=hid H2;clear H2;try simp only[Array.reduceGetElem,zs]
      refine h_v ?_;refine h_op (fun Kz hK=>?_);refine St.o_store1 (ty:=53) H.out rfl rfl rfl 1 rfl (yI rfl) sSPr_ rfl (fun wl _ _ H2=>?_);refine hK.out _ _ ?_;clear hK Kz;replace H:=hid H2;clear H2;try simp only[Array.reduceGetElem,zs]
      refine h_end ?_;go_upto_region 22 with (fail)
      refine wp_region_lit (Nx.out ?_);refine h_v ?_;refine H.out.h_l1 1 ?_ uSPl_;refine h_op (fun Kz hK=>?_);refine St.o_load (ty:=57) H.out rfl rfl 0 rfl uPl_ sPl_ (hK.out _ _ ?_);clear hK Kz;try simp only[Array.reduceGetElem,zs]
      refine h_op (fun Kz hK=>?_);refine H.out.o_lit1 rfl underlying52 iPl2_ rfl rfl (by decide) (by decide) rfl rfl (fun wl Cl _ H2=>?_);refine hK.out _ _ ?_;clear hK Kz;replace H:=hid H2;clear H2;try simp only[Array.reduceGetElem,zs]
      refine h_op (fun Kz hK=>?_);refine H.out.o_append (r:=plD (scanL m)) rfl underlying52 iPl_ rfl (by decide) (by decide) 1 rfl rfl rfl rfl rfl 0 rfl (za7 _) (HRS.out _ _) (yI rfl) (fun wl ga gc _ H2=>?_);refine hK.out _ _ ?_;clear hK Kz;replace H:=hid (H2.drop (.cons _ (List.Sublist.refl _)));clear H2;try simp only[Array.reduceGetElem,zs]
      refine h_v ?_;refine h_op (fun Kz hK=>?_);refine St.o_store1 (ty:=52) H.out rfl rfl rfl 1 rfl (yI rfl) sSPl_ rfl (fun wl _ _ H2=>?_);refine hK.out _ _ ?_;clear hK Kz;replace H:=hid H2;clear H2;try simp only[Array.reduceGetElem,zs]
      refine h_end ?_;go_upto_region 23 with (fail)
      refine wp_region_lit (Nx.out ?_);refine h_v ?_;refine h_v ?_;refine h_add ?_;refine h_add ?_;refine h_v ?_;refine h_add ?_;refine h_add ?_;refine h_v ?_;refine h_add ?_;refine h_add ?_;refine h_v ?_;refine h_add ?_;refine h_add ?_;refine h_v ?_;refine h_add ?_;refine h_add ?_;refine h_v ?_;refine h_end ?_;go_upto_region 40 with (fail)
      replace H:=hid H.out.shut.shut
      have H4:Hid (St (fun _=>False) w _ [(Ob,[.int .i64 1,.string Y,.slice none 0 0,.int .i64 0,.string ⟨#[]⟩,.int .i64 0,.int .i64 0,.string ⟨#[]⟩,.string ⟨#[]⟩,.slice none 0 0,.slice none 0 0,.slice none 0 0,.slice none 0 0,.slice none 0 0,.slice none 0 0,.int .i64 0]),(Pb,plC (sqPl 4 n m N cur) (.slice ga 2 gc) (.slice none 0 0) (.slice none 0 0) (.slice none 0 0) (.slice (some ⟨Rb,0,none⟩) 2 2) (.slice none 0 0) (.slice none 0 0)),(Wb,_),(Zb,[.string NN,.slice (some ⟨kb,ko,none⟩) K kc,.slice (some ⟨nb,no,none⟩) L nc,.int .i64 N])] [(plD (sqPl 4 n m N cur),plC (sqPl 4 n m N cur) (.slice ga 2 gc) (.slice none 0 0) (.slice none 0 0) (.slice none 0 0) (.slice (some ⟨Rb,0,none⟩) 2 2) (.slice none 0 0) (.slice none 0 0))] []):=hid ((H.out.put (zru (repOf (H.out.rowAt (j:=0) rfl)) (repOf (H.out.rowAt (j:=1) rfl)))).less (D':=[(_,_)]) (fun q hq=>by rw[List.mem_singleton.1 hq];exact yX))
      clear H;have H:=H4;clear H4;refine wp_region_lit (Nx.out ?_);refine h_op (fun Kz hK=>?_);refine St.o_load (ty:=57) H.out rfl rfl 1 rfl uPl_ sPl_ (hK.out _ _ ?_);clear hK Kz;try simp only[Array.reduceGetElem,zs]
      refine h_op (fun Kz hK=>?_);refine St.o_store (ty:=57) H.out rfl rfl rfl 2 rfl rfl rfl sPl_ (zad rfl) (fun wl _ _ H2=>?_);refine hK.out _ _ ?_;clear hK Kz;replace H:=hid H2;clear H2;try simp only[Array.reduceGetElem,zs]
      refine h_end ?_;go_wp2_with fail
      have H4:Hid (St (fun _=>False) w _ [(Wb,plC (sqPl 4 n m N cur) (.slice ga 2 gc) (.slice none 0 0) (.slice none 0 0) (.slice none 0 0) (.slice (some ⟨Rb,0,none⟩) 2 2) (.slice none 0 0) (.slice none 0 0)),(Zb,[.string NN,.slice (some ⟨kb,ko,none⟩) K kc,.slice (some ⟨nb,no,none⟩) L nc,.int .i64 N])] [(plD (sqPl 4 n m N cur),plC (sqPl 4 n m N cur) (.slice ga 2 gc) (.slice none 0 0) (.slice none 0 0) (.slice none 0 0) (.slice (some ⟨Rb,0,none⟩) 2 2) (.slice none 0 0) (.slice none 0 0))] []):=hid (H.out.drop (.cons _ (.cons _ (List.Sublist.refl _))));clear H;have HTX:Hid ((TT++⟨#[32,124,32]⟩)++((((((((((⟨#[106,111,105,110,32]⟩:ByteArray)++Y)++⟨#[32,111,110,32]⟩)++X)++⟨#[32,61,32]⟩)++Y)++⟨#[44,32]⟩)++Y)++⟨#[32,61,32]⟩)++X)=⟨(t++([32,124,32]++sqT 4 n m N)).toArray⟩):=by
       show _=_
       rw[HTT.out,← HXX.out,← HYY.out];show ((⟨t.toArray⟩:ByteArray)++⟨([32,124,32]:Str).toArray⟩)++(((((((((⟨([106,111,105,110,32]:Str).toArray⟩++⟨m.toArray⟩)++⟨([32,111,110,32]:Str).toArray⟩)++⟨n.toArray⟩)++⟨([32,61,32]:Str).toArray⟩)++⟨m.toArray⟩)++⟨([44,32]:Str).toArray⟩)++⟨m.toArray⟩)++⟨([32,61,32]:Str).toArray⟩)++⟨n.toArray⟩)=_
       rw[apm,apm,apm,apm,apm,apm,apm,apm,apm,apm,apm];congr 2
       unfold sqT;simp[zbK,sKeep,sJoin,sLeft,zbM,zbL,zaE,zbu]
      go_roundw
      case rel=>exact ⟨k+1,_,sqPl 4 n m N cur,_,_,by omega,rfl,by go_num,HTX,HSQ.out 4 (by decide),H4⟩
      case measure=>simp[intOf];omega
     ·as_aux_lemma =>
      go_upto_region 14 with (fail)
      refine wp_region_lit (Nx.out ?_);refine h_v ?_;refine h_v ?_;refine h_end ?_;go_upto_region 17 with (fail)
      refine wp_region_lit (Nx.out ?_);refine h_v ?_;refine h_v ?_;refine h_end ?_;go_upto_region 20 with (fail)
      refine wp_region_lit (Nx.out ?_);refine h_v ?_;refine h_v ?_;refine h_end ?_;go_upto_region 24 with (fail)
      refine wp_region_lit (Nx.out ?_);refine h_v ?_;refine h_v ?_;refine h_end ?_;go_upto_region 25 with (fail)
      refine wp_region_lit (Nx.out ?_);refine h_v ?_;refine h_v ?_;refine h_v ?_;refine h_op (fun Kz hK=>?_);refine H.out.o_litO1 (r:=pairD (n,m)) (k:=2) rfl underlying53 iPr2_ rfl rfl (by decide) (by decide) rfl rfl rfl (HRNM.out _ _) (fun wl Rb _ H2=>?_);refine hK.out _ _ ?_;clear hK Kz;replace H:=hid H2;clear H2;try simp only[Array.reduceGetElem,zs]
      refine h_v ?_;refine h_op (fun Kz hK=>?_);refine St.o_store1 (ty:=53) H.out rfl rfl rfl 1 rfl (yI rfl) sSPr_ rfl (fun wl _ _ H2=>?_);refine hK.out _ _ ?_;clear hK Kz;replace H:=hid H2;clear H2;try simp only[Array.reduceGetElem,zs]
      refine h_end ?_;go_upto_region 26 with (fail)
      refine wp_region_lit (Nx.out ?_);refine h_v ?_;refine H.out.h_l1 1 ?_ uSPl_;refine h_op (fun Kz hK=>?_);refine St.o_load (ty:=57) H.out rfl rfl 0 rfl uPl_ sPl_ (hK.out _ _ ?_);clear hK Kz;try simp only[Array.reduceGetElem,zs]
      refine h_op (fun Kz hK=>?_);refine H.out.o_litO1 (r:=plD (scanL m)) (k:=16) rfl underlying52 iPl2_ rfl rfl (by decide) (by decide) rfl rfl (za7 _) (HRS.out _ _) (fun wl Ib _ H2=>?_);refine hK.out _ _ ?_;clear hK Kz;replace H:=hid H2.shut;clear H2;try simp only[Array.reduceGetElem,zs]
      refine h_v ?_;refine h_op (fun Kz hK=>?_);refine H.out.o_lit1 rfl underlying52 iPl2_ rfl rfl (by decide) (by decide) rfl rfl (fun wl Cl _ H2=>?_);refine hK.out _ _ ?_;clear hK Kz;replace H:=hid H2;clear H2;try simp only[Array.reduceGetElem,zs]
      refine h_op (fun Kz hK=>?_);refine H.out.o_append (r:=plD (distL m)) rfl underlying52 iPl_ rfl (by decide) (by decide) 1 rfl rfl rfl rfl rfl 0 rfl (za7 _) (zkw (repOf (H.out.rowAt (j:=0) rfl))) (yI rfl) (fun wl ga gc _ H2=>?_);refine hK.out _ _ ?_;clear hK Kz;replace H:=hid (H2.drop (.cons _ (List.Sublist.refl _)));clear H2;try simp only[Array.reduceGetElem,zs]
      refine h_v ?_;refine h_op (fun Kz hK=>?_);refine St.o_store1 (ty:=52) H.out rfl rfl rfl 1 rfl (yI rfl) sSPl_ rfl (fun wl _ _ H2=>?_);refine hK.out _ _ ?_;clear hK Kz;replace H:=hid H2;clear H2;try simp only[Array.reduceGetElem,zs]
      refine h_end ?_;go_upto_region 27 with (fail)
      refine wp_region_lit (Nx.out ?_);refine h_v ?_;refine h_v ?_;refine h_add ?_;refine h_add ?_;refine h_v ?_;refine h_add ?_;refine h_add ?_;refine h_v ?_;refine h_add ?_;refine h_add ?_;refine h_v ?_;refine h_end ?_;go_upto_region 40 with (fail)
      replace H:=hid H.out.shut.shut
      have H4:Hid (St (fun _=>False) w _ [(Ob,[.int .i64 1,.string Y,.slice none 0 0,.int .i64 0,.string ⟨#[]⟩,.int .i64 0,.int .i64 0,.string ⟨#[]⟩,.string ⟨#[]⟩,.slice none 0 0,.slice none 0 0,.slice none 0 0,.slice none 0 0,.slice none 0 0,.slice none 0 0,.int .i64 0]),(Pb,plC (sqPl 5 n m N cur) (.slice ga 2 gc) (.slice none 0 0) (.slice none 0 0) (.slice none 0 0) (.slice (some ⟨Rb,0,none⟩) 1 1) (.slice none 0 0) (.slice none 0 0)),(Wb,_),(Zb,[.string NN,.slice (some ⟨kb,ko,none⟩) K kc,.slice (some ⟨nb,no,none⟩) L nc,.int .i64 N])] [(plD (sqPl 5 n m N cur),plC (sqPl 5 n m N cur) (.slice ga 2 gc) (.slice none 0 0) (.slice none 0 0) (.slice none 0 0) (.slice (some ⟨Rb,0,none⟩) 1 1) (.slice none 0 0) (.slice none 0 0))] []):=hid ((H.out.put (zrt (repOf (H.out.rowAt (j:=0) rfl)) (repOf (H.out.rowAt (j:=1) rfl)))).less (D':=[(_,_)]) (fun q hq=>by rw[List.mem_singleton.1 hq];exact yX))
      clear H;have H:=H4;clear H4;refine wp_region_lit (Nx.out ?_);refine h_op (fun Kz hK=>?_);refine St.o_load (ty:=57) H.out rfl rfl 1 rfl uPl_ sPl_ (hK.out _ _ ?_);clear hK Kz;try simp only[Array.reduceGetElem,zs]
      refine h_op (fun Kz hK=>?_);refine St.o_store (ty:=57) H.out rfl rfl rfl 2 rfl rfl rfl sPl_ (zad rfl) (fun wl _ _ H2=>?_);refine hK.out _ _ ?_;clear hK Kz;replace H:=hid H2;clear H2;try simp only[Array.reduceGetElem,zs]
      refine h_end ?_;go_wp2_with fail
      have H4:Hid (St (fun _=>False) w _ [(Wb,plC (sqPl 5 n m N cur) (.slice ga 2 gc) (.slice none 0 0) (.slice none 0 0) (.slice none 0 0) (.slice (some ⟨Rb,0,none⟩) 1 1) (.slice none 0 0) (.slice none 0 0)),(Zb,[.string NN,.slice (some ⟨kb,ko,none⟩) K kc,.slice (some ⟨nb,no,none⟩) L nc,.int .i64 N])] [(plD (sqPl 5 n m N cur),plC (sqPl 5 n m N cur) (.slice ga 2 gc) (.slice none 0 0) (.slice none 0 0) (.slice none 0 0) (.slice (some ⟨Rb,0,none⟩) 1 1) (.slice none 0 0) (.slice none 0 0))] []):=hid (H.out.drop (.cons _ (.cons _ (List.Sublist.refl _))));clear H;have HTX:Hid ((TT++⟨#[32,124,32]⟩)++((((((⟨#[108,101,102,116,32,40]⟩:ByteArray)++Y)++⟨#[32,124,32,100,105,115,116,105,110,99,116,41,32,111,110,32]⟩)++X)++⟨#[32,61,32]⟩)++Y)=⟨(t++([32,124,32]++sqT 5 n m N)).toArray⟩):=by
       show _=_
       rw[HTT.out,← HXX.out,← HYY.out];show ((⟨t.toArray⟩:ByteArray)++⟨([32,124,32]:Str).toArray⟩)++(((((⟨([108,101,102,116,32,40]:Str).toArray⟩++⟨m.toArray⟩)++⟨([32,124,32,100,105,115,116,105,110,99,116,41,32,111,110,32]:Str).toArray⟩)++⟨n.toArray⟩)++⟨([32,61,32]:Str).toArray⟩)++⟨m.toArray⟩)=_
       rw[apm,apm,apm,apm,apm,apm,apm];congr 2
       unfold sqT;simp[zbK,sKeep,sJoin,sLeft,zbM,zbL,zaE,zbu]
      go_roundw
      case rel=>exact ⟨k+1,_,sqPl 5 n m N cur,_,_,by omega,rfl,by go_num,HTX,HSQ.out 5 (by decide),H4⟩
      case measure=>simp[intOf];omega
     ·as_aux_lemma =>
      go_upto_region 14 with (fail)
      refine wp_region_lit (Nx.out ?_);refine h_v ?_;refine h_v ?_;refine h_end ?_;go_upto_region 17 with (fail)
      refine wp_region_lit (Nx.out ?_);refine h_v ?_;refine h_v ?_;refine h_end ?_;go_upto_region 20 with (fail)
      refine wp_region_lit (Nx.out ?_);refine h_v ?_;refine h_v ?_;refine h_end ?_;go_upto_region 24 with (fail)
      refine wp_region_lit (Nx.out ?_);refine h_v ?_;refine h_v ?_;refine h_end ?_;go_upto_region 28 with (fail)
      refine wp_region_lit (Nx.out ?_);refine h_v ?_;refine h_v ?_;refine h_end ?_;go_upto_region 29 with (fail)
      refine wp_region_lit (Nx.out ?_);refine h_v ?_;refine h_op (fun Kz hK=>?_);refine H.out.o_litO1 (r:=strD n) (k:=1) rfl underlying48 zaR rfl rfl (by decide) (by decide) rfl rfl rfl (HRN.out _ _) (fun wl Sb _ H2=>?_);refine hK.out _ _ ?_;clear hK Kz;replace H:=hid H2;clear H2;try simp only[Array.reduceGetElem,zs]
      refine h_v ?_;refine h_op (fun Kz hK=>?_);refine St.o_store1 (ty:=48) H.out rfl rfl rfl 1 rfl (yI rfl) zef rfl (fun wl _ _ H2=>?_);refine hK.out _ _ ?_;clear hK Kz;replace H:=hid H2;clear H2;try simp only[Array.reduceGetElem,zs]
      refine h_end ?_;go_upto_region 30 with (fail)
      refine wp_region_lit (Nx.out ?_);refine h_v ?_;refine h_v ?_;refine h_v ?_;refine h_v ?_;refine h_v ?_;refine h_op (fun Kz hK=>?_);refine H.out.o_lit2 (r1:=aggD (zdS,[],m)) (r2:=aggD (sSum,m,n)) rfl underlying54 iAg2_ rfl rfl rfl (by decide) (by decide) rfl rfl rfl rfl (HRA1.out _ _) (HRA2.out _ _) (fun wl Gb _ H2=>?_);refine hK.out _ _ ?_;clear hK Kz;replace H:=hid H2;clear H2;try simp only[Array.reduceGetElem,zs]
      refine h_v ?_;refine h_op (fun Kz hK=>?_);refine St.o_store1 (ty:=54) H.out rfl rfl rfl 1 rfl (yI rfl) sSAg_ rfl (fun wl _ _ H2=>?_);refine hK.out _ _ ?_;clear hK Kz;replace H:=hid H2;clear H2;try simp only[Array.reduceGetElem,zs]
      refine h_end ?_;go_upto_region 31 with (fail)
      refine wp_region_lit (Nx.out ?_);refine h_v ?_;refine h_v ?_;refine h_add ?_;refine h_add ?_;refine h_v ?_;refine h_add ?_;refine h_add ?_;refine h_v ?_;refine h_add ?_;refine h_add ?_;refine h_v ?_;refine h_add ?_;refine h_add ?_;refine h_v ?_;refine h_end ?_;go_upto_region 40 with (fail)
      replace H:=hid H.out.shut.shut.shut
      have H4:Hid (St (fun _=>False) w _ [(Ob,[.int .i64 1,.string Y,.slice none 0 0,.int .i64 0,.string ⟨#[]⟩,.int .i64 0,.int .i64 0,.string ⟨#[]⟩,.string ⟨#[]⟩,.slice none 0 0,.slice none 0 0,.slice none 0 0,.slice none 0 0,.slice none 0 0,.slice none 0 0,.int .i64 0]),(Pb,plC (sqPl 6 n m N cur) (.slice (some ⟨Ab,0,none⟩) 1 1) (.slice none 0 0) (.slice (some ⟨Sb,0,none⟩) 1 1) (.slice none 0 0) (.slice none 0 0) (.slice (some ⟨Gb,0,none⟩) 2 2) (.slice none 0 0)),(Wb,_),(Zb,[.string NN,.slice (some ⟨kb,ko,none⟩) K kc,.slice (some ⟨nb,no,none⟩) L nc,.int .i64 N])] [(plD (sqPl 6 n m N cur),plC (sqPl 6 n m N cur) (.slice (some ⟨Ab,0,none⟩) 1 1) (.slice none 0 0) (.slice (some ⟨Sb,0,none⟩) 1 1) (.slice none 0 0) (.slice none 0 0) (.slice (some ⟨Gb,0,none⟩) 2 2) (.slice none 0 0))] []):=hid ((H.out.put (zrs (repOf (H.out.rowAt (j:=0) rfl)) (repOf (H.out.rowAt (j:=1) rfl)) (repOf (H.out.rowAt (j:=2) rfl)))).less (D':=[(_,_)]) (fun q hq=>by rw[List.mem_singleton.1 hq];exact yX))
      clear H;have H:=H4;clear H4;refine wp_region_lit (Nx.out ?_);refine h_op (fun Kz hK=>?_);refine St.o_load (ty:=57) H.out rfl rfl 1 rfl uPl_ sPl_ (hK.out _ _ ?_);clear hK Kz;try simp only[Array.reduceGetElem,zs]
      refine h_op (fun Kz hK=>?_);refine St.o_store (ty:=57) H.out rfl rfl rfl 2 rfl rfl rfl sPl_ (zad rfl) (fun wl _ _ H2=>?_);refine hK.out _ _ ?_;clear hK Kz;replace H:=hid H2;clear H2;try simp only[Array.reduceGetElem,zs]
      refine h_end ?_;go_wp2_with fail
      have H4:Hid (St (fun _=>False) w _ [(Wb,plC (sqPl 6 n m N cur) (.slice (some ⟨Ab,0,none⟩) 1 1) (.slice none 0 0) (.slice (some ⟨Sb,0,none⟩) 1 1) (.slice none 0 0) (.slice none 0 0) (.slice (some ⟨Gb,0,none⟩) 2 2) (.slice none 0 0)),(Zb,[.string NN,.slice (some ⟨kb,ko,none⟩) K kc,.slice (some ⟨nb,no,none⟩) L nc,.int .i64 N])] [(plD (sqPl 6 n m N cur),plC (sqPl 6 n m N cur) (.slice (some ⟨Ab,0,none⟩) 1 1) (.slice none 0 0) (.slice (some ⟨Sb,0,none⟩) 1 1) (.slice none 0 0) (.slice none 0 0) (.slice (some ⟨Gb,0,none⟩) 2 2) (.slice none 0 0))] []):=hid (H.out.drop (.cons _ (.cons _ (List.Sublist.refl _))));clear H;have HTX:Hid ((TT++⟨#[32,124,32]⟩)++((((((((⟨#[103,114,111,117,112,32]⟩:ByteArray)++X)++⟨#[32,58,32,99,111,117,110,116,40,41,32,97,115,32]⟩)++Y)++⟨#[44,32,115,117,109,40]⟩)++Y)++⟨#[41,32,97,115,32]⟩)++X)=⟨(t++([32,124,32]++sqT 6 n m N)).toArray⟩):=by
       show _=_
       rw[HTT.out,← HXX.out,← HYY.out];show ((⟨t.toArray⟩:ByteArray)++⟨([32,124,32]:Str).toArray⟩)++(((((((⟨([103,114,111,117,112,32]:Str).toArray⟩++⟨n.toArray⟩)++⟨([32,58,32,99,111,117,110,116,40,41,32,97,115,32]:Str).toArray⟩)++⟨m.toArray⟩)++⟨([44,32,115,117,109,40]:Str).toArray⟩)++⟨m.toArray⟩)++⟨([41,32,97,115,32]:Str).toArray⟩)++⟨n.toArray⟩)=_
       rw[apm,apm,apm,apm,apm,apm,apm,apm,apm];congr 2
       unfold sqT;simp[zbK,sKeep,sJoin,sLeft,zbM,zbL,zaE,zbu]
      go_roundw
      case rel=>exact ⟨k+1,_,sqPl 6 n m N cur,_,_,by omega,rfl,by go_num,HTX,HSQ.out 6 (by decide),H4⟩
      case measure=>simp[intOf];omega
     ·as_aux_lemma =>
      go_upto_region 14 with (fail)
      refine wp_region_lit (Nx.out ?_);refine h_v ?_;refine h_v ?_;refine h_end ?_;go_upto_region 17 with (fail)
      refine wp_region_lit (Nx.out ?_);refine h_v ?_;refine h_v ?_;refine h_end ?_;go_upto_region 20 with (fail)
      refine wp_region_lit (Nx.out ?_);refine h_v ?_;refine h_v ?_;refine h_end ?_;go_upto_region 24 with (fail)
      refine wp_region_lit (Nx.out ?_);refine h_v ?_;refine h_v ?_;refine h_end ?_;go_upto_region 28 with (fail)
      refine wp_region_lit (Nx.out ?_);refine h_v ?_;refine h_v ?_;refine h_end ?_;go_upto_region 32 with (fail)
      refine wp_region_lit (Nx.out ?_);refine h_v ?_;refine h_v ?_;refine h_end ?_;go_upto_region 33 with (fail)
      refine wp_region_lit (Nx.out ?_);refine h_v ?_;refine H.out.h_l1 1 ?_ uSPl_;refine h_op (fun Kz hK=>?_);refine St.o_load (ty:=57) H.out rfl rfl 0 rfl uPl_ sPl_ (hK.out _ _ ?_);clear hK Kz;try simp only[Array.reduceGetElem,zs]
      refine h_op (fun Kz hK=>?_);refine H.out.o_lit1 rfl underlying52 iPl2_ rfl rfl (by decide) (by decide) rfl rfl (fun wl Cl _ H2=>?_);refine hK.out _ _ ?_;clear hK Kz;replace H:=hid H2;clear H2;try simp only[Array.reduceGetElem,zs]
      refine h_op (fun Kz hK=>?_);refine H.out.o_append (r:=plD (scanL m)) rfl underlying52 iPl_ rfl (by decide) (by decide) 0 rfl rfl rfl rfl rfl 0 rfl (za7 _) (HRS.out _ _) (yI rfl) (fun wl ga gc _ H2=>?_);refine hK.out _ _ ?_;clear hK Kz;replace H:=hid (H2.drop (.cons _ (List.Sublist.refl _)));clear H2;try simp only[Array.reduceGetElem,zs]
      refine h_v ?_;refine h_op (fun Kz hK=>?_);refine St.o_store1 (ty:=52) H.out rfl rfl rfl 1 rfl (yI rfl) sSPl_ rfl (fun wl _ _ H2=>?_);refine hK.out _ _ ?_;clear hK Kz;replace H:=hid H2;clear H2;try simp only[Array.reduceGetElem,zs]
      refine h_end ?_;go_upto_region 34 with (fail)
      refine wp_region_lit (Nx.out ?_);refine h_v ?_;refine h_v ?_;refine h_add ?_;refine h_add ?_;refine h_v ?_;refine h_end ?_;go_upto_region 40 with (fail)
      replace H:=hid H.out.shut;have H4:Hid (St (fun _=>False) w _ [(Ob,[.int .i64 1,.string Y,.slice none 0 0,.int .i64 0,.string ⟨#[]⟩,.int .i64 0,.int .i64 0,.string ⟨#[]⟩,.string ⟨#[]⟩,.slice none 0 0,.slice none 0 0,.slice none 0 0,.slice none 0 0,.slice none 0 0,.slice none 0 0,.int .i64 0]),(Pb,plC (sqPl 7 n m N cur) (.slice ga 2 gc) (.slice none 0 0) (.slice none 0 0) (.slice none 0 0) (.slice none 0 0) (.slice none 0 0) (.slice none 0 0)),(Wb,_),(Zb,[.string NN,.slice (some ⟨kb,ko,none⟩) K kc,.slice (some ⟨nb,no,none⟩) L nc,.int .i64 N])] [(plD (sqPl 7 n m N cur),plC (sqPl 7 n m N cur) (.slice ga 2 gc) (.slice none 0 0) (.slice none 0 0) (.slice none 0 0) (.slice none 0 0) (.slice none 0 0) (.slice none 0 0))] []):=hid ((H.out.put (zrr (repOf (H.out.rowAt (j:=0) rfl)))).less (D':=[(_,_)]) (fun q hq=>by rw[List.mem_singleton.1 hq];exact yX));clear H
      have H:=H4;clear H4;refine wp_region_lit (Nx.out ?_);refine h_op (fun Kz hK=>?_);refine St.o_load (ty:=57) H.out rfl rfl 1 rfl uPl_ sPl_ (hK.out _ _ ?_);clear hK Kz;try simp only[Array.reduceGetElem,zs]
      refine h_op (fun Kz hK=>?_);refine St.o_store (ty:=57) H.out rfl rfl rfl 2 rfl rfl rfl sPl_ (zad rfl) (fun wl _ _ H2=>?_);refine hK.out _ _ ?_;clear hK Kz;replace H:=hid H2;clear H2;try simp only[Array.reduceGetElem,zs]
      refine h_end ?_;go_wp2_with fail
      have H4:Hid (St (fun _=>False) w _ [(Wb,plC (sqPl 7 n m N cur) (.slice ga 2 gc) (.slice none 0 0) (.slice none 0 0) (.slice none 0 0) (.slice none 0 0) (.slice none 0 0) (.slice none 0 0)),(Zb,[.string NN,.slice (some ⟨kb,ko,none⟩) K kc,.slice (some ⟨nb,no,none⟩) L nc,.int .i64 N])] [(plD (sqPl 7 n m N cur),plC (sqPl 7 n m N cur) (.slice ga 2 gc) (.slice none 0 0) (.slice none 0 0) (.slice none 0 0) (.slice none 0 0) (.slice none 0 0) (.slice none 0 0))] []):=hid (H.out.drop (.cons _ (.cons _ (List.Sublist.refl _))));clear H;have HTX:Hid ((TT++⟨#[32,124,32]⟩)++((⟨#[117,110,105,111,110,32]⟩:ByteArray)++Y)=⟨(t++([32,124,32]++sqT 7 n m N)).toArray⟩):=by
       show _=_
       rw[HTT.out,← HYY.out];show ((⟨t.toArray⟩:ByteArray)++⟨([32,124,32]:Str).toArray⟩)++(⟨([117,110,105,111,110,32]:Str).toArray⟩++⟨m.toArray⟩)=_
       rw[apm,apm,apm];congr 2
       unfold sqT;simp[zbK,sKeep,sJoin,sLeft,zbM,zbL,zaE,zbu]
      go_roundw
      case rel=>exact ⟨k+1,_,sqPl 7 n m N cur,_,_,by omega,rfl,by go_num,HTX,HSQ.out 7 (by decide),H4⟩
      case measure=>simp[intOf];omega
     ·as_aux_lemma =>
      go_upto_region 14 with (fail)
      refine wp_region_lit (Nx.out ?_);refine h_v ?_;refine h_v ?_;refine h_end ?_;go_upto_region 17 with (fail)
      refine wp_region_lit (Nx.out ?_);refine h_v ?_;refine h_v ?_;refine h_end ?_;go_upto_region 20 with (fail)
      refine wp_region_lit (Nx.out ?_);refine h_v ?_;refine h_v ?_;refine h_end ?_;go_upto_region 24 with (fail)
      refine wp_region_lit (Nx.out ?_);refine h_v ?_;refine h_v ?_;refine h_end ?_;go_upto_region 28 with (fail)
      refine wp_region_lit (Nx.out ?_);refine h_v ?_;refine h_v ?_;refine h_end ?_;go_upto_region 32 with (fail)
      refine wp_region_lit (Nx.out ?_);refine h_v ?_;refine h_v ?_;refine h_end ?_;go_upto_region 35 with (fail)
      refine wp_region_lit (Nx.out ?_);refine h_v ?_;refine h_v ?_;refine h_end ?_;go_upto_region 36 with (fail)
      refine wp_region_lit (Nx.out ?_);refine h_v ?_;refine h_add ?_;refine h_v ?_;refine h_end ?_;go_upto_region 40 with (fail)
      replace H:=hid H.out.shut
      have H4:Hid (St (fun _=>False) w _ [(Ob,[.int .i64 1,.string Y,.slice none 0 0,.int .i64 0,.string ⟨#[]⟩,.int .i64 0,.int .i64 0,.string ⟨#[]⟩,.string ⟨#[]⟩,.slice none 0 0,.slice none 0 0,.slice none 0 0,.slice none 0 0,.slice none 0 0,.slice none 0 0,.int .i64 0]),(Pb,plC (sqPl 8 n m N cur) (.slice (some ⟨Ab,0,none⟩) 1 1) (.slice none 0 0) (.slice none 0 0) (.slice none 0 0) (.slice none 0 0) (.slice none 0 0) (.slice none 0 0)),(Wb,_),(Zb,[.string NN,.slice (some ⟨kb,ko,none⟩) K kc,.slice (some ⟨nb,no,none⟩) L nc,.int .i64 N])] [(plD (sqPl 8 n m N cur),plC (sqPl 8 n m N cur) (.slice (some ⟨Ab,0,none⟩) 1 1) (.slice none 0 0) (.slice none 0 0) (.slice none 0 0) (.slice none 0 0) (.slice none 0 0) (.slice none 0 0))] []):=hid ((H.out.put (zrq (repOf (H.out.rowAt (j:=0) rfl)))).less (D':=[(_,_)]) (fun q hq=>by rw[List.mem_singleton.1 hq];exact yX));clear H
      have H:=H4;clear H4;refine wp_region_lit (Nx.out ?_);refine h_op (fun Kz hK=>?_);refine St.o_load (ty:=57) H.out rfl rfl 1 rfl uPl_ sPl_ (hK.out _ _ ?_);clear hK Kz;try simp only[Array.reduceGetElem,zs]
      refine h_op (fun Kz hK=>?_);refine St.o_store (ty:=57) H.out rfl rfl rfl 2 rfl rfl rfl sPl_ (zad rfl) (fun wl _ _ H2=>?_);refine hK.out _ _ ?_;clear hK Kz;replace H:=hid H2;clear H2;try simp only[Array.reduceGetElem,zs]
      refine h_end ?_;go_wp2_with fail
      have H4:Hid (St (fun _=>False) w _ [(Wb,plC (sqPl 8 n m N cur) (.slice (some ⟨Ab,0,none⟩) 1 1) (.slice none 0 0) (.slice none 0 0) (.slice none 0 0) (.slice none 0 0) (.slice none 0 0) (.slice none 0 0)),(Zb,[.string NN,.slice (some ⟨kb,ko,none⟩) K kc,.slice (some ⟨nb,no,none⟩) L nc,.int .i64 N])] [(plD (sqPl 8 n m N cur),plC (sqPl 8 n m N cur) (.slice (some ⟨Ab,0,none⟩) 1 1) (.slice none 0 0) (.slice none 0 0) (.slice none 0 0) (.slice none 0 0) (.slice none 0 0) (.slice none 0 0))] []):=hid (H.out.drop (.cons _ (.cons _ (List.Sublist.refl _))));clear H;have HTX:Hid ((TT++⟨#[32,124,32]⟩)++⟨#[100,105,115,116,105,110,99,116]⟩=⟨(t++([32,124,32]++sqT 8 n m N)).toArray⟩):=by
       show _=_
       rw[HTT.out];show ((⟨t.toArray⟩:ByteArray)++⟨([32,124,32]:Str).toArray⟩)++⟨([100,105,115,116,105,110,99,116]:Str).toArray⟩=_
       rw[apm,apm];congr 2
       unfold sqT;simp[zbK,sKeep,sJoin,sLeft,zbM,zbL,zaE,zbu]
      go_roundw
      case rel=>exact ⟨k+1,_,sqPl 8 n m N cur,_,_,by omega,rfl,by go_num,HTX,HSQ.out 8 (by decide),H4⟩
      case measure=>simp[intOf];omega
     ·as_aux_lemma =>
      go_upto_region 14 with (fail)
      refine wp_region_lit (Nx.out ?_);refine h_v ?_;refine h_v ?_;refine h_end ?_;go_upto_region 17 with (fail)
      refine wp_region_lit (Nx.out ?_);refine h_v ?_;refine h_v ?_;refine h_end ?_;go_upto_region 20 with (fail)
      refine wp_region_lit (Nx.out ?_);refine h_v ?_;refine h_v ?_;refine h_end ?_;go_upto_region 24 with (fail)
      refine wp_region_lit (Nx.out ?_);refine h_v ?_;refine h_v ?_;refine h_end ?_;go_upto_region 28 with (fail)
      refine wp_region_lit (Nx.out ?_);refine h_v ?_;refine h_v ?_;refine h_end ?_;go_upto_region 32 with (fail)
      refine wp_region_lit (Nx.out ?_);refine h_v ?_;refine h_v ?_;refine h_end ?_;go_upto_region 35 with (fail)
      refine wp_region_lit (Nx.out ?_);refine h_v ?_;refine h_v ?_;refine h_end ?_;go_upto_region 37 with (fail)
      refine wp_region_lit (Nx.out ?_);refine h_v ?_;refine h_v ?_;refine h_end ?_;go_upto_region 38 with (fail)
      refine wp_region_lit (Nx.out ?_);refine h_v ?_;refine H.out.h_l1 3 ?_ uInt_;refine h_v ?_;refine h_v ?_;refine h_v ?_;refine h_v ?_;refine h_op (fun Kz hK=>?_);refine H.out.o_lit2 (r1:=ordD (n,true)) (r2:=ordD (m,false)) rfl underlying55 iOr2_ rfl rfl rfl (by decide) (by decide) rfl rfl rfl rfl (HRO1.out _ _) (HRO2.out _ _) (fun wl Rb _ H2=>?_);refine hK.out _ _ ?_;clear hK Kz;replace H:=hid H2;clear H2;try simp only[Array.reduceGetElem,zs]
      refine h_v ?_;refine h_op (fun Kz hK=>?_);refine St.o_store1 (ty:=3) H.out rfl rfl rfl 1 rfl (yI rfl) sInt_ rfl (fun wl _ _ H2=>?_);refine hK.out _ _ ?_;clear hK Kz;replace H:=hid H2;clear H2;try simp only[Array.reduceGetElem,zs]
      refine h_v ?_;refine h_op (fun Kz hK=>?_);refine St.o_store1 (ty:=55) H.out rfl rfl rfl 1 rfl (yI rfl) sSOr_ rfl (fun wl _ _ H2=>?_);refine hK.out _ _ ?_;clear hK Kz;replace H:=hid H2;clear H2;try simp only[Array.reduceGetElem,zs]
      refine h_end ?_;go_upto_region 39 with (fail)
      refine wp_region_lit (Nx.out ?_);refine h_v ?_;refine h_v ?_;refine H.out.h_l1 3 ?_ uInt_;refine h_op (fun Kz hK=>?_);go_simp;go_at_call 28
      (with_reducible (refine (HNB.out _).mono ?_))
      rintro e wc ⟨rfl,hb9⟩;have H2:=H.out.below hb9;clear hb9;refine hK.out _ _ ?_;clear hK Kz;replace H:=hid H2;clear H2;try simp only[Array.reduceGetElem,zs]
      refine h_add ?_;refine h_add ?_;refine h_v ?_;refine h_add ?_;refine h_add ?_;refine h_v ?_;refine h_add ?_;refine h_add ?_;refine h_v ?_;refine h_end ?_;go_upto_region 40 with (fail)
      replace H:=hid H.out.shut.shut
      have H4:Hid (St (fun _=>False) w _ [(Ob,[.int .i64 1,.string Y,.slice none 0 0,.int .i64 0,.string ⟨#[]⟩,.int .i64 0,.int .i64 0,.string ⟨#[]⟩,.string ⟨#[]⟩,.slice none 0 0,.slice none 0 0,.slice none 0 0,.slice none 0 0,.slice none 0 0,.slice none 0 0,.int .i64 0]),(Pb,plC (sqPl 9 n m N cur) (.slice (some ⟨Ab,0,none⟩) 1 1) (.slice none 0 0) (.slice none 0 0) (.slice none 0 0) (.slice none 0 0) (.slice none 0 0) (.slice (some ⟨Rb,0,none⟩) 2 2)),(Wb,_),(Zb,[.string NN,.slice (some ⟨kb,ko,none⟩) K kc,.slice (some ⟨nb,no,none⟩) L nc,.int .i64 N])] [(plD (sqPl 9 n m N cur),plC (sqPl 9 n m N cur) (.slice (some ⟨Ab,0,none⟩) 1 1) (.slice none 0 0) (.slice none 0 0) (.slice none 0 0) (.slice none 0 0) (.slice none 0 0) (.slice (some ⟨Rb,0,none⟩) 2 2))] []):=hid ((H.out.put (zrp (repOf (H.out.rowAt (j:=0) rfl)) (repOf (H.out.rowAt (j:=1) rfl)))).less (D':=[(_,_)]) (fun q hq=>by rw[List.mem_singleton.1 hq];exact yX))
      clear H;have H:=H4;clear H4;refine wp_region_lit (Nx.out ?_);refine h_op (fun Kz hK=>?_);refine St.o_load (ty:=57) H.out rfl rfl 1 rfl uPl_ sPl_ (hK.out _ _ ?_);clear hK Kz;try simp only[Array.reduceGetElem,zs]
      refine h_op (fun Kz hK=>?_);refine St.o_store (ty:=57) H.out rfl rfl rfl 2 rfl rfl rfl sPl_ (zad rfl) (fun wl _ _ H2=>?_);refine hK.out _ _ ?_;clear hK Kz;replace H:=hid H2;clear H2;try simp only[Array.reduceGetElem,zs]
      refine h_end ?_;go_wp2_with fail
      have H4:Hid (St (fun _=>False) w _ [(Wb,plC (sqPl 9 n m N cur) (.slice (some ⟨Ab,0,none⟩) 1 1) (.slice none 0 0) (.slice none 0 0) (.slice none 0 0) (.slice none 0 0) (.slice none 0 0) (.slice (some ⟨Rb,0,none⟩) 2 2)),(Zb,[.string NN,.slice (some ⟨kb,ko,none⟩) K kc,.slice (some ⟨nb,no,none⟩) L nc,.int .i64 N])] [(plD (sqPl 9 n m N cur),plC (sqPl 9 n m N cur) (.slice (some ⟨Ab,0,none⟩) 1 1) (.slice none 0 0) (.slice none 0 0) (.slice none 0 0) (.slice none 0 0) (.slice none 0 0) (.slice (some ⟨Rb,0,none⟩) 2 2))] []):=hid (H.out.drop (.cons _ (.cons _ (List.Sublist.refl _))));clear H;have HTX:Hid ((TT++⟨#[32,124,32]⟩)++((((((⟨#[102,105,114,115,116,32]⟩:ByteArray)++NB)++⟨#[32,98,121,32]⟩)++X)++⟨#[32,100,111,119,110,44,32]⟩)++Y)=⟨(t++([32,124,32]++sqT 9 n m N)).toArray⟩):=by
       show _=_
       rw[HTT.out,← HXX.out,← HYY.out,← HNBe.out];show ((⟨t.toArray⟩:ByteArray)++⟨([32,124,32]:Str).toArray⟩)++(((((⟨([102,105,114,115,116,32]:Str).toArray⟩++⟨(Lib.itoa N).toArray⟩)++⟨([32,98,121,32]:Str).toArray⟩)++⟨n.toArray⟩)++⟨([32,100,111,119,110,44,32]:Str).toArray⟩)++⟨m.toArray⟩)=_
       rw[apm,apm,apm,apm,apm,apm,apm];congr 2
       unfold sqT;simp[zbK,sKeep,sJoin,sLeft,zbM,zbL,zaE,zbu]
      go_roundw
      case rel=>exact ⟨k+1,_,sqPl 9 n m N cur,_,_,by omega,rfl,by go_num,HTX,HSQ.out 9 (by decide),H4⟩
      case measure=>simp[intOf];omega
    ·as_aux_lemma =>
     have t2:(kd == 2)=false:=by rw[yT];omega
     have t3:(kd == 3)=false:=by rw[yT];omega
     have t4:(kd == 4)=false:=by rw[yT];omega
     have t5:(kd == 5)=false:=by rw[yT];omega
     have t6:(kd == 6)=false:=by rw[yT];omega
     have t7:(kd == 7)=false:=by rw[yT];omega
     have t8:(kd == 8)=false:=by rw[yT];omega
     have t9:(kd == 9)=false:=by rw[yT];omega
     clear hkd;go_upto_region 14 with (fail)
     refine wp_region_lit (Nx.out ?_);refine h_v ?_;refine h_v ?_;refine h_end ?_;go_upto_region 17 with (fail)
     refine wp_region_lit (Nx.out ?_);refine h_v ?_;refine h_v ?_;refine h_end ?_;go_upto_region 20 with (fail)
     refine wp_region_lit (Nx.out ?_);refine h_v ?_;refine h_v ?_;refine h_end ?_;go_upto_region 24 with (fail)
     refine wp_region_lit (Nx.out ?_);refine h_v ?_;refine h_v ?_;refine h_end ?_;go_upto_region 28 with (fail)
     refine wp_region_lit (Nx.out ?_);refine h_v ?_;refine h_v ?_;refine h_end ?_;go_upto_region 32 with (fail)
     refine wp_region_lit (Nx.out ?_);refine h_v ?_;refine h_v ?_;refine h_end ?_;go_upto_region 35 with (fail)
     refine wp_region_lit (Nx.out ?_);refine h_v ?_;refine h_v ?_;refine h_end ?_;go_upto_region 37 with (fail)
     refine wp_region_lit (Nx.out ?_);refine h_v ?_;refine h_v ?_;refine h_end ?_;go_upto_region 13 with (fail)
     refine wp_region_lit (Nx.out ?_);refine h_op (fun Kz hK=>?_);go_simp;go_at_call 23
     (with_reducible (refine (HAW.out _ (zac H.out)).mono ?_))
     rintro e wc ⟨rfl,hb9⟩;have H2:=H.out.below hb9;clear hb9;refine hK.out _ _ ?_;clear hK Kz;replace H:=hid H2;clear H2;try simp only[Array.reduceGetElem,zs]
     refine h_v ?_;refine h_end ?_;go_wp2_with fail
     go_ret
     exact ⟨rfl,zac H.out⟩
   ·as_aux_lemma =>
    obtain rfl:k=K:=by omega
    obtain ⟨b1,b2,b3,b4⟩:=HB.out;have hback:=zrx b2 b3 b1 (by omega);obtain ⟨M,hM⟩:∃ M,t.length=M:=⟨_,rfl⟩;rw[hM]at hback;have HQ1:Hid (∀ W,Below w.heap.size w W→Calls Tryz.prog 30 #[.string TT] W (QTo4 cur M 0 W)):=fun W hW=>by
     have:=zhG TT W (HE.out W hW);rw[show TT.data.toList=t from by rw[HTT.out],hback.1]at this;exact this
    have HQ2:Hid (∀ W,Below w.heap.size w W→Calls Tryz.prog 30 #[.string ((⟨#[40]⟩++TT)++⟨#[41]⟩)] W (QTo4 cur (M+2) 0 W)):=fun W hW=>by
     have e:((⟨#[40]⟩++TT)++⟨#[41]⟩:ByteArray)=⟨(([40]:Str)++t++[41]).toArray⟩:=by
      rw[HTT.out];show ((⟨([40]:Str).toArray⟩:ByteArray)++⟨t.toArray⟩)++⟨([41]:Str).toArray⟩=_
      rw[apm,apm]
     have:=zhG ((⟨#[40]⟩++TT)++⟨#[41]⟩) W (HE.out W hW);rw[show ((⟨#[40]⟩++TT)++⟨#[41]⟩:ByteArray).data.toList=[40]++t++[41] from by rw[e],hback.2]at this;exact this
    have hTM:TT.size=M:=by rw[HTT.out,szm,hM]
    have HEQ:Hid (∀ W b0 bc0 b1 bc1 b2 bc2 b3 bc3 b4 bc4 b5 bc5 b6 bc6 a0 ac0 a1 ac1 a2 ac2 a3 ac3 a4 ac4 a5 ac5 a6 ac6,PlAt W (fun _=>True) cur b0 bc0 b1 bc1 b2 bc2 b3 bc3 b4 bc4 b5 bc5 b6 bc6→PlAt W (fun _=>True) cur a0 ac0 a1 ac1 a2 ac2 a3 ac3 a4 ac4 a5 ac5 a6 ac6→Calls Tryz.prog 31 #[plV cur b0 bc0 b1 bc1 b2 bc2 b3 bc3 b4 bc4 b5 bc5 b6 bc6,plV cur a0 ac0 a1 ac1 a2 ac2 a3 ac3 a4 ac4 a5 ac5 a6 ac6] W (EqTo W true)):=fun W b0 bc0 b1 bc1 b2 bc2 b3 bc3 b4 bc4 b5 bc5 b6 bc6 a0 ac0 a1 ac1 a2 ac2 a3 ac3 a4 ac4 a5 ac5 a6 ac6 h1 h2=>ziD cur b0 bc0 b1 bc1 b2 bc2 b3 bc3 b4 bc4 b5 bc5 b6 bc6 a0 ac0 a1 ac1 a2 ac2 a3 ac3 a4 ac4 a5 ac5 a6 ac6 W (fun _=>True) h1 h2
    have hlt2:¬ ((k:Int)<(k:Int)):=by omega
    have hMs:M≤1500:=by omega
    clear hback hM b1 b2 b3 b4 HB HTT;go_upto_region 6 with (fail)
    refine wp_region_lit (Nx.out ?_);refine h_v ?_;refine h_end ?_;go_upto_region 42 with (fail)
    refine wp_region_lit (Nx.out ?_);refine h_v ?_;refine h_op (fun Kz hK=>?_);go_simp;go_at_call 30
    (with_reducible (refine (HQ1.out _ (zac H.out)).mono ?_))
    rintro e wc ⟨cs,rfl,hX,hb9⟩;obtain ⟨b0,bc0,b1,bc1,b2,bc2,b3,bc3,b4,bc4,b5,bc5,b6,bc6,rfl,_⟩:=zcb hX;have H2:=H.out.more (H.out.below hb9) hX;clear hX hb9;refine hK.out _ _ ?_;clear hK Kz;replace H:=hid H2;clear H2;try simp only[Array.reduceGetElem,zs]
    refine h_v ?_;refine h_v ?_;refine h_v ?_;refine h_v ?_;refine h_op (fun Kz hK=>?_);refine St.o_alloc (ty:=57) H.out rfl zPl_ rfl (fun wl Cn _ H2=>?_);refine hK.out _ _ ?_;clear hK Kz;replace H:=hid H2;clear H2;try simp only[Array.reduceGetElem,zs]
    refine h_op (fun Kz hK=>?_);refine St.o_store (ty:=57) H.out rfl rfl rfl 0 rfl rfl rfl sPl_ (zad rfl) (fun wl _ _ H2=>?_);refine hK.out _ _ ?_;clear hK Kz;replace H:=hid H2;clear H2;try simp only[Array.reduceGetElem,zs]
    refine h_v ?_;refine h_v ?_;refine h_end ?_;go_upto_region 43 with (fail)
    refine wp_region_lit (Nx.out ?_);refine h_v ?_;refine h_v ?_;refine h_v ?_;first|(refine h_s ?_)|(refine h_v ?_)
    first|(refine h_s ?_)|(refine h_v ?_)
    first|(refine h_s ?_)|(refine h_v ?_)
    first|(refine h_s ?_)|(refine h_v ?_)
    refine h_v ?_;refine h_v ?_;first|(refine h_s ?_)|(refine h_op (fun Kz hK=>?_);refine St.o_load (ty:=57) H.out rfl rfl 0 rfl uPl_ sPl_ (hK.out _ _ ?_);clear hK Kz;try simp only[Array.reduceGetElem,zs])
    first|(refine h_s ?_)|(refine h_op (fun Kz hK=>?_);refine St.o_load (ty:=57) H.out rfl rfl 1 rfl uPl_ sPl_ (hK.out _ _ ?_);clear hK Kz;try simp only[Array.reduceGetElem,zs])
    first|(refine h_s ?_)|(refine h_op (fun Kz hK=>?_);go_simp;go_at_call 31;(with_reducible (refine (HEQ.out _ b0 bc0 b1 bc1 b2 bc2 b3 bc3 b4 bc4 b5 bc5 b6 bc6 a0 ac0 a1 ac1 a2 ac2 a3 ac3 a4 ac4 a5 ac5 a6 ac6 (zhD (H.out.rowAt (j:=0) rfl)) (zhD (H.out.rowAt (j:=1) rfl))).mono ?_));rintro e wc ⟨rfl,hb9⟩;have H2:=H.out.below hb9;clear hb9;refine hK.out _ _ ?_;clear hK Kz;replace H:=hid H2;clear H2;try simp only[Array.reduceGetElem,zs])
    first|(refine h_s ?_)|(refine h_v ?_)
    refine h_v ?_;refine h_end ?_;go_upto_region 45 with (fail)
    refine wp_region_lit (Nx.out ?_);refine h_v ?_;refine h_add ?_;refine h_add ?_;refine h_op (fun Kz hK=>?_);go_simp;go_at_call 30
    (with_reducible (refine (HQ2.out _ (zac H.out)).mono ?_))
    rintro e wc ⟨cs,rfl,hX,hb9⟩;obtain ⟨c0,cc0,c1,cc1,c2,cc2,c3,cc3,c4,cc4,c5,cc5,c6,cc6,rfl,_⟩:=zcb hX;have H2:=H.out.more (H.out.below hb9) hX;clear hX hb9;refine hK.out _ _ ?_;clear hK Kz;replace H:=hid H2;clear H2;try simp only[Array.reduceGetElem,zs]
    refine h_v ?_;refine h_v ?_;refine h_v ?_;refine h_v ?_;refine h_op (fun Kz hK=>?_);refine St.o_alloc (ty:=57) H.out rfl zPl_ rfl (fun wl Cn _ H2=>?_);refine hK.out _ _ ?_;clear hK Kz;replace H:=hid H2;clear H2;try simp only[Array.reduceGetElem,zs]
    refine h_op (fun Kz hK=>?_);refine St.o_store (ty:=57) H.out rfl rfl rfl 0 rfl rfl rfl sPl_ (zad rfl) (fun wl _ _ H2=>?_);refine hK.out _ _ ?_;clear hK Kz;replace H:=hid H2;clear H2;try simp only[Array.reduceGetElem,zs]
    refine h_v ?_;refine h_v ?_;refine h_end ?_;go_upto_region 46 with (fail)
    refine wp_region_lit (Nx.out ?_);refine h_v ?_;refine h_v ?_;refine h_v ?_;first|(refine h_s ?_)|(refine h_op (fun Kz hK=>?_);refine St.o_load (ty:=57) H.out rfl rfl 0 rfl uPl_ sPl_ (hK.out _ _ ?_);clear hK Kz;try simp only[Array.reduceGetElem,zs])
    first|(refine h_s ?_)|(refine h_op (fun Kz hK=>?_);refine St.o_load (ty:=57) H.out rfl rfl 2 rfl uPl_ sPl_ (hK.out _ _ ?_);clear hK Kz;try simp only[Array.reduceGetElem,zs])
    first|(refine h_s ?_)|(refine h_op (fun Kz hK=>?_);go_simp;go_at_call 31;(with_reducible (refine (HEQ.out _ c0 cc0 c1 cc1 c2 cc2 c3 cc3 c4 cc4 c5 cc5 c6 cc6 a0 ac0 a1 ac1 a2 ac2 a3 ac3 a4 ac4 a5 ac5 a6 ac6 (zhD (H.out.rowAt (j:=0) rfl)) (zhD (H.out.rowAt (j:=2) rfl))).mono ?_));rintro e wc ⟨rfl,hb9⟩;have H2:=H.out.below hb9;clear hb9;refine hK.out _ _ ?_;clear hK Kz;replace H:=hid H2;clear H2;try simp only[Array.reduceGetElem,zs])
    refine h_v ?_;refine h_v ?_;first|(refine h_s ?_)|(refine h_op (fun Kz hK=>?_);go_simp;go_at_call 23;(with_reducible (refine (HAW.out _ (zac H.out)).mono ?_));rintro e wc ⟨rfl,hb9⟩;have H2:=H.out.below hb9;clear hb9;refine hK.out _ _ ?_;clear hK Kz;replace H:=hid H2;clear H2;try simp only[Array.reduceGetElem,zs])
    refine h_v ?_;refine h_v ?_;refine h_end ?_;go_wp2_with fail
    go_ret
    exact ⟨rfl,zac H.out⟩
 ·as_aux_lemma =>
  have hall':∀ (b1 b2:Bool),decide (12<(K:Int))=b1→decide (N<0)=b2→¬ (qn=true∧qs=true∧b1=false∧b2=false):=fun b1 b2 e1 e2 h=>by
   obtain ⟨h1,h2,rfl,rfl⟩:=h;rw[yK]at e1 e2;exact hall ⟨h1,h2,by omega,by omega⟩
  obtain ⟨b1,g1⟩:∃ b,decide (12<(K:Int))=b:=⟨_,rfl⟩;obtain ⟨b2,g2⟩:∃ b,decide (N<0)=b:=⟨_,rfl⟩;have HNO:=hid (hall' b1 b2 g1 g2);rw[hL,hKK,hNN];rw[hL]at HWS;clear hE hF hK hn hls hqn hqs hNN hL hKK HRA HRK hall hall' hN2;have hor:qn=false∨(qn=true∧qs=false)∨(qn=true∧qs=true∧b1=true)∨(qn=true∧qs=true∧b1=false∧b2=true):=by
   have h:=HNO.out;revert h
   cases qn<;>cases qs<;>cases b1<;>cases b2<;>decide
  clear HNO;rcases hor with rfl|⟨rfl,rfl⟩|⟨rfl,rfl,rfl⟩|⟨rfl,rfl,rfl,rfl⟩
  all_goals
   go_enter func5,ntmps5
   go_upto_region 0 with (fail)
   refine wp_region_lit (Nx.out ?_);refine h_op (fun Kz hK=>?_);refine St.o_box (vs:=[.string NN,.slice ka K kc,.slice na L nc,.int .i64 N]) H.out rfl rfl rfl (fun wl Zb _ H2=>?_);refine hK.out _ _ ?_;clear hK Kz;replace H:=hid H2;clear H2;try simp only[Array.reduceGetElem,zs]
   refine h_v ?_;refine h_end ?_;go_upto_region 1 with (fail)
   refine wp_region_lit (Nx.out ?_);refine h_v ?_;refine H.out.h_l1 0 ?_ uStr_;refine h_op (fun Kz hK=>?_);go_simp;go_at_call 21
   (with_reducible (refine (HW.out _ (zac H.out)).mono ?_))
   rintro e wc ⟨rfl,hb9⟩;have H2:=H.out.below hb9;clear hb9;refine hK.out _ _ ?_;clear hK Kz;replace H:=hid H2;clear H2;try simp only[Array.reduceGetElem,zs]
   refine h_v ?_;refine h_v ?_;first|(refine h_s ?_)|(refine h_v ?_)
   first|(refine h_s ?_)|(refine H.out.h_l1 0 ?_ zeB)
   first|(refine h_s ?_)|(refine h_op (fun Kz hK=>?_);go_simp;go_at_call 22;(with_reducible (refine (HWS.out _ (zac H.out)).mono ?_));rintro e wc ⟨rfl,hb9⟩;have H2:=H.out.below hb9;clear hb9;refine hK.out _ _ ?_;clear hK Kz;replace H:=hid H2;clear H2;try simp only[Array.reduceGetElem,zs])
   first|(refine h_s ?_)|(refine h_v ?_)
   refine h_v ?_;refine h_v ?_;first|(refine h_s ?_)|(refine h_v ?_)
   first|(refine h_s ?_)|(refine H.out.h_l1 0 ?_ uKi_)
   first|(refine h_s ?_)|(refine h_v ?_)
   first|(refine h_s ?_)|(refine h_v ?_)
   refine h_v ?_;refine h_v ?_;first|(refine h_s ?_)|(refine h_v ?_)
   first|(refine h_s ?_)|(refine H.out.h_l1 0 ?_ uInt_)
   first|(refine h_s ?_)|(refine h_v ?_)
   refine h_v ?_;refine h_end ?_;go_upto_region 2 with (fail)
   refine wp_region_lit (Nx.out ?_);refine h_op (fun Kz hK=>?_);go_simp;go_at_call 23
   (with_reducible (refine (HAW.out _ (zac H.out)).mono ?_))
   rintro e wc ⟨rfl,hb9⟩;have H2:=H.out.below hb9;clear hb9;refine hK.out _ _ ?_;clear hK Kz;replace H:=hid H2;clear H2;try simp only[Array.reduceGetElem,zs]
   refine h_v ?_;refine h_end ?_;go_wp2_with fail
   go_ret
   exact ⟨rfl,zac H.out⟩
