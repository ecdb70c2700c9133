/- Walks: any step; a query. Walks: queries at any depth; what is told, if all tokens were read. Walks: the query of a text. -/
import Derived.Test.YtonkjhmkppeagaaGreatDoorWQ8
set_option maxRecDepth 100000
set_option maxHeartbeats 1600000
set_option linter.unusedVariables false
set_option linter.unusedSimpArgs false
namespace Go.Proofs.YtonkjhmkppeagaaGreatDoor.Pz
open Go.Proofs.Tryz
open Go.Lib (hid)
open Go.RowKit Go Go.Sort Ba Lx
theorem zf9 {W:World} {ok:Nat→Prop} {x:Pl} {cs:List Value} (h:Row W ok (plD x) cs):∃ (u0:Option Addr) (m0 q0:Nat) (u1:Option Addr) (m1 q1:Nat) (u2:Option Addr) (m2 q2:Nat) (u3:Option Addr) (m3 q3:Nat) (u4:Option Addr) (m4 q4:Nat) (u5:Option Addr) (m5 q5:Nat) (u6:Option Addr) (m6 q6:Nat),cs=plC x (.slice u0 m0 q0) (.slice u1 m1 q1) (.slice u2 m2 q2) (.slice u3 m3 q3) (.slice u4 m4 q4) (.slice u5 m5 q5) (.slice u6 m6 q6):=by
 obtain ⟨s0,s1,s2,s3,s4,s5,s6,rfl,h4⟩:=zm3 h;obtain ⟨a0,k0,rfl,_⟩:=h4.args.len;obtain ⟨a1,k1,rfl,_⟩:=h4.cond.len;obtain ⟨a2,k2,rfl,_⟩:=h4.names.len;obtain ⟨a3,k3,rfl,_⟩:=h4.exprs.len;obtain ⟨a4,k4,rfl,_⟩:=h4.on.len;obtain ⟨a5,k5,rfl,_⟩:=h4.aggs.len;obtain ⟨a6,k6,rfl,_⟩:=h4.ord.len;exact ⟨_,_,_,_,_,_,_,_,_,_,_,_,_,_,_,_,_,_,_,_,_,rfl⟩
theorem zpd (dp:PQ) {B d:Nat} (hd:QOk 87 (partP dp) B d) {w0:World} {L:List Bx} {D:List (List Dat×List Value)} {O:List Ow} (over:Pl) (cs:List Value) (j:Nat) (hj:D[j]?=some (plD over,cs)) (w:World) (s:Ps) (h:Sr B d w0 w s L D O) :
 Calls Tryz.prog 89 #[.pointer (some ⟨B,0,none⟩),.agg cs.toArray] w fun e w'=>∃ cs',e=.returned (.agg cs'.toArray)∧Sr B d w0 w' (stepP dp over s).2 L ((plD (stepP dp over s).1,cs')::D) O:=by
 obtain ⟨u0,m0,q0,u1,m1,q1,u2,m2,q2,u3,m3,q3,u4,m4,q4,u5,m5,q5,u6,m6,q6,rfl⟩:=zf9 (h.st.rowAt hj);have hk:(oneP zaq s).1≤8:=by
  unfold oneP;rw[zch]
  cases hf:zaD zaq s with
  | none=>exact yS _
  | some k =>
   have:=(zbv hf).1;have e:zaq.length=8:=rfl;show 1+k≤8
   omega
 obtain ⟨⟨n,s1⟩,h1⟩:∃ r,oneP zaq s=r:=⟨_,rfl⟩;rw[h1]at hk;change n≤8 at hk
 match n,hk with
 | 0,_=>exact zsW dp hd over u0 m0 q0 u1 m1 q1 u2 m2 q2 u3 m3 q3 u4 m4 q4 u5 m5 q5 u6 m6 q6 j hj w s s1 h1 h
 | 1,_=>exact zsV dp hd over u0 m0 q0 u1 m1 q1 u2 m2 q2 u3 m3 q3 u4 m4 q4 u5 m5 q5 u6 m6 q6 j hj w s s1 h1 h
 | 2,_=>exact zsU dp hd over u0 m0 q0 u1 m1 q1 u2 m2 q2 u3 m3 q3 u4 m4 q4 u5 m5 q5 u6 m6 q6 j hj w s s1 h1 h
 | 3,_=>exact zsT dp hd over u0 m0 q0 u1 m1 q1 u2 m2 q2 u3 m3 q3 u4 m4 q4 u5 m5 q5 u6 m6 q6 j hj w s s1 h1 h
 | 4,_=>exact zsS dp hd over u0 m0 q0 u1 m1 q1 u2 m2 q2 u3 m3 q3 u4 m4 q4 u5 m5 q5 u6 m6 q6 j hj w s s1 h1 h
 | 5,_=>exact zsR dp hd over u0 m0 q0 u1 m1 q1 u2 m2 q2 u3 m3 q3 u4 m4 q4 u5 m5 q5 u6 m6 q6 j hj w s s1 h1 h
 | 6,_=>exact zsQ dp hd over u0 m0 q0 u1 m1 q1 u2 m2 q2 u3 m3 q3 u4 m4 q4 u5 m5 q5 u6 m6 q6 j hj w s s1 h1 h
 | 7,_=>exact zsP dp hd over u0 m0 q0 u1 m1 q1 u2 m2 q2 u3 m3 q3 u4 m4 q4 u5 m5 q5 u6 m6 q6 j hj w s s1 h1 h
 | 8,_=>exact zsO dp hd over u0 m0 q0 u1 m1 q1 u2 m2 q2 u3 m3 q3 u4 m4 q4 u5 m5 q5 u6 m6 q6 j hj w s s1 h1 h
 | n+9,hk=>omega
theorem zix (dp:PQ) (B d:Nat) (hg:GoesQ dp) (hd:QOk 87 (partP dp) B d):QOk 55 (za6 dp) B d:=fun w s hp=>by
 have htl:=hp.tl;have hil:=hp.il;have H:=hid (Sr.start hp);have HD:=hid hd;have HG:=hid hg;have HL:Hid (za6 dp s=zaI dp (s.T.length+1) (partP dp s).1 (partP dp s).2):=rfl;have HTT:Hid ((partP dp s).2.T=s.T):=(zcK hg s).T;have hgi:=(zcK hg s).i;clear hp hd hg;go_enter func55,ntmps55
 go_wp2_with (first|(refine Sr.w_alloc (ty:=57) H.out (by rfl) rfl zPl_ rfl ?_;(first|(have hh:Hid (QOk 87 (partP dp) B d):=HX;intro wn T H2)|(intro wn R H2));replace H:=hid H2;clear H2)|(go_at_call 87;(with_reducible (refine (HD.out _ s H.out.pat).mono ?_));intro e wc hR;obtain ⟨a0,n0,k0,a1,n1,k1,a2,n2,k2,a3,n3,k3,a4,n4,k4,a5,n5,k5,a6,n6,k6,rfl,hX,hK,hP⟩:=PlTo.of hR;have H2:=H.out.callR hK hP hX;clear hX hK hP hR;have HX:=HD;replace H:=hid H2;clear H2)|(first|(refine Sr.w_store (ty:=57) H.out (by rfl) rfl rfl rfl 0 rfl rfl rfl sPl_ (zad rfl) ?_;intro wn H2;replace H:=hid H2;clear H2)))
 have H2:=H.out;change Sr B d w _ (partP dp s).2 [(T,(plC (partP dp s).1 (.slice a0 n0 k0) (.slice a1 n1 k1) (.slice a2 n2 k2) (.slice a3 n3 k3) (.slice a4 n4 k4) (.slice a5 n5 k5) (.slice a6 n6 k6))),(R,zzQ)] [(plD (partP dp s).1,(plC (partP dp s).1 (.slice a0 n0 k0) (.slice a1 n1 k1) (.slice a2 n2 k2) (.slice a3 n3 k3) (.slice a4 n4 k4) (.slice a5 n5 k5) (.slice a6 n6 k6)))] []at H2
 clear H HX;have H:=hid H2;clear H2
 go_loopg [] s.T.length (fun kx wr=>∃ (x1:Pl) (s1:Ps) (fuel:Nat) (u0:Option Addr) (m0 q0:Nat) (u1:Option Addr) (m1 q1:Nat) (u2:Option Addr) (m2 q2:Nat) (u3:Option Addr) (m3 q3:Nat) (u4:Option Addr) (m4 q4:Nat) (u5:Option Addr) (m5 q5:Nat) (u6:Option Addr) (m6 q6:Nat),Hid (Sr B d w wr s1 [(T,(plC x1 (.slice u0 m0 q0) (.slice u1 m1 q1) (.slice u2 m2 q2) (.slice u3 m3 q3) (.slice u4 m4 q4) (.slice u5 m5 q5) (.slice u6 m6 q6))),(R,zzQ)] [(plD x1,(plC x1 (.slice u0 m0 q0) (.slice u1 m1 q1) (.slice u2 m2 q2) (.slice u3 m3 q3) (.slice u4 m4 q4) (.slice u5 m5 q5) (.slice u6 m6 q6)))] [])∧Hid (za6 dp s=zaI dp fuel x1 s1)∧Hid (s1.T=s.T)∧s.T.length<fuel+s1.i∧s.T.length≤kx+s1.i)
 case atStart=>exact ⟨(partP dp s).1,(partP dp s).2,s.T.length+1,_,_,_,_,_,_,_,_,_,_,_,_,_,_,_,_,_,_,_,_,_,H,HL,HTT,by omega,by omega⟩
 case round =>
  clear H;obtain ⟨x1,s1,fuel,u0,m0,q0,u1,m1,q1,u2,m2,q2,u3,m3,q3,u4,m4,q4,u5,m5,q5,u6,m6,q6,H,HL1,HT1,hfu,hkx⟩:=hrel;have hil2:=H.out.pat.il;rw[HT1.out]at hil2
  cases hx:isP s1 [124] with
  | true =>
   have hlt2:=(zbU hx).2;rw[HT1.out]at hlt2;obtain ⟨fu,rfl⟩:∃ fu,fuel=fu+1:=⟨fuel-1,by omega⟩;have HL3:Hid (za6 dp s=zaI dp fu (stepP dp x1 (advP s1)).1 (stepP dp x1 (advP s1)).2):=by
    show za6 dp s=_
    rw[HL1.out,zcx hx]
   have hgs:=zgs HG.out x1 (advP s1);have HT3:Hid ((stepP dp x1 (advP s1)).2.T=s.T):=hgs.T.trans HT1.out;have hgi2:s1.i+1≤(stepP dp x1 (advP s1)).2.i:=hgs.i;have hle3:(stepP dp x1 (advP s1)).2.i≤s.T.length:=by
    have:=hgs.le (by show s1.i+1≤(advP s1).T.length;rw[show (advP s1).T=s1.T from rfl,HT1.out];exact hlt2);rw[show (advP s1).T=s1.T from rfl,HT1.out]at this;exact this
   have HM:Hid (∀ W,PAt W B d s1→Calls Tryz.prog 88 #[.pointer (some ⟨B,0,none⟩),.string ⟨#[124]⟩] W (zdK W B d true (advP s1))):=fun W hW=>zbO _ _ hx W B d hW
   clear hx hgs
   go_wp2_with (first|(go_at_call 88;(with_reducible (refine (HM.out _ H.out.pat).mono ?_));rintro e wc ⟨rfl,hK,hP⟩;replace H:=hid (H.out.call hK hP);clear hK hP)|(refine St.w_load (ty:=57) H.out.st (by rfl) rfl rfl 0 rfl uPl_ sPl_ ?_)|(go_at_call 89;have hc:=zpd dp HD.out x1 (plC x1 (.slice u0 m0 q0) (.slice u1 m1 q1) (.slice u2 m2 q2) (.slice u3 m3 q3) (.slice u4 m4 q4) (.slice u5 m5 q5) (.slice u6 m6 q6)) 0 rfl _ (advP s1) H.out;(with_reducible (refine hc.mono ?_));clear hc;rintro e wc ⟨cs',rfl,H2⟩;obtain ⟨v0,b0,c0,v1,b1,c1,v2,b2,c2,v3,b3,c3,v4,b4,c4,v5,b5,c5,v6,b6,c6,rfl⟩:=zf9 (H2.st.rowAt (j:=0) rfl);replace H:=hid H2;clear H2)|(first|(refine Sr.w_store (ty:=57) H.out (by rfl) rfl rfl rfl 0 rfl rfl rfl sPl_ (zad rfl) ?_;intro wn H2;replace H:=hid H2;clear H2)))
   have H3:=H.out.less (D':=[(plD (stepP dp x1 (advP s1)).1,plC (stepP dp x1 (advP s1)).1 (.slice v0 b0 c0) (.slice v1 b1 c1) (.slice v2 b2 c2) (.slice v3 b3 c3) (.slice v4 b4 c4) (.slice v5 b5 c5) (.slice v6 b6 c6))]) (fun q hq=>by rw[List.mem_singleton.1 hq];exact yX);go_roundg (s.T.length-(stepP dp x1 (advP s1)).2.i)
   case measure=>omega
   case rel=>exact ⟨_,_,fu,_,_,_,_,_,_,_,_,_,_,_,_,_,_,_,_,_,_,_,_,_,H3,HL3,HT3,by omega,by omega⟩
  | false =>
   have HL3:Hid (za6 dp s=(x1,s1)):=by
    show za6 dp s=_
    rw[HL1.out,zc0 hx]
   have HM:Hid (∀ W,PAt W B d s1→Calls Tryz.prog 88 #[.pointer (some ⟨B,0,none⟩),.string ⟨#[124]⟩] W (zdK W B d false s1)):=fun W hW=>zbg _ _ hx W B d hW
   clear hx;go_wp2_with (first|(go_at_call 88;(with_reducible (refine (HM.out _ H.out.pat).mono ?_));rintro e wc ⟨rfl,hK,hP⟩;replace H:=hid (H.out.call hK hP);clear hK hP)|(refine St.w_load (ty:=57) H.out.st (by rfl) rfl rfl 0 rfl uPl_ sPl_ ?_)|(refine Sr.w_store (ty:=57) H.out (by rfl) rfl rfl rfl 1 rfl rfl rfl sPl_ (zad rfl) ?_;intro wn H2;replace H:=hid H2;clear H2))
   refine bodyPost_ret (H.out.st.results results55 (by rfl) 1 rfl uPl_ sPl_) rfl ?_;rw[HL3.out];exact H.out.rowTo (j:=0) rfl
theorem zqk (B:Nat):DpQ zkm B 32:=fun W C s h _ _=>(zl4 _ _ _ s W B h).mono fun _ _ hx=>zkE hx
theorem zk5 {F:FuncId} {va:Array Value} {w:World} {B d:Nat} {x:Pl} {s:Ps} (h:Calls Tryz.prog F va w (RowTo w B d (plD x) s)):Calls Tryz.prog F va w (PlTo w B d x s):=h.mono fun _ _ hx=>PlTo.of hx
theorem zjg {F:FuncId} {va:Array Value} {w:World} {B d:Nat} {x:Pl} {s:Ps} (h:Calls Tryz.prog F va w (PlTo w B d x s)):Calls Tryz.prog F va w (RowTo w B d (plD x) s):=h.mono fun _ _ hx=>zkE hx
theorem zj3:Enters Tryz.prog 108:=enters_of func108 (by kernel_rfl) rfl
theorem zi7:Enters Tryz.prog 55:=enters_of func55 (by kernel_rfl) rfl
theorem zql {q:PQ} {B d:Nat} (hd:d<32) (h:QOk 55 q B (d+1)):DpQ (zdL q) B d:=by
 intro W C s hp hc hcb;refine zjg (zgw 108 zj3 #[] #[.pointer (some ⟨C,0,none⟩)] s (zdL q s).1 (zdL q s).2 W B d hd hp ?_);intro W' hK hp';exact zk5 (zlB q B (d+1) h W' C s hp' (hc.kept hK hcb) hcb)
theorem zqO:∀ (n B d:Nat),d+n=32→QOk 55 (za6 (dparN n)) B d
 | 0,B,d,h=>by
  obtain rfl:d=32:=by omega
  exact zix _ B 32 (zbo 0) (zkG _ B 32 (zqk B))
 | n+1,B,d,h=>zix _ B d (zbo (n+1)) (zkG _ B d (zql (by omega) (zqO n B (d+1) (by omega))))
theorem zkl (B:Nat) (w:World) (s:Ps) (h:PAt w B 0 s):Calls Tryz.prog 54 #[.pointer (some ⟨B,0,none⟩),.func (.func 55) #[.pointer (some ⟨B,0,none⟩)] #[]] w (RowTo w B 0 (plD (topQ s).1) (topQ s).2) :=
 zjg (zgw 55 zi7 #[.pointer (some ⟨B,0,none⟩)] #[] s (topQ s).1 (topQ s).2 w B 0 (by omega) h fun W' _ hp'=>zk5 (zqO 31 B 1 (by omega) W' s hp'))
theorem zqz {B d:Nat} {w0:World} {L:List Bx} {D:List (List Dat×List Value)} {O:List Ow} (over:Pl) (u0:Option Addr) (m0 q0:Nat) (u1:Option Addr) (m1 q1:Nat) (u2:Option Addr) (m2 q2:Nat) (u3:Option Addr) (m3 q3:Nat) (u4:Option Addr) (m4 q4:Nat) (u5:Option Addr) (m5 q5:Nat) (u6:Option Addr) (m6 q6:Nat) (j:Nat) (hj:D[j]?=some (plD over,(plC over (.slice u0 m0 q0) (.slice u1 m1 q1) (.slice u2 m2 q2) (.slice u3 m3 q3) (.slice u4 m4 q4) (.slice u5 m5 q5) (.slice u6 m6 q6)))) (w:World) (s:Ps) (he:s.e≠0) (h:Sr B d w0 w s L D O) :
 Calls Tryz.prog 53 #[.pointer (some ⟨B,0,none⟩),.agg (plC over (.slice u0 m0 q0) (.slice u1 m1 q1) (.slice u2 m2 q2) (.slice u3 m3 q3) (.slice u4 m4 q4) (.slice u5 m5 q5) (.slice u6 m6 q6)).toArray] w fun e w'=>∃ cs',e=.returned (.tuple #[.agg cs'.toArray,.int .i64 ((allR zPl s over).2.1:Int),.int .i64 (allR zPl s over).2.2])∧St (fun b=>b=B) w0 w' L ((plD (allR zPl s over).1,cs')::D) O:=by
 have HE:Hid (allR zPl s over=(zPl,s.a,s.e)):=by show allR zPl s over=_;unfold allR;rw[zdj he,if_neg he]
 have H:=hid h;have he2:(s.e != 0)=true:=by simpa using he
 have he3:(s.e == 0)=false:=by simpa using he
 clear he h;go_enter func53,ntmps53
 go_wp2_with (first|(refine Sr.w_box (ty:=57) H.out (by rfl) rfl rfl rfl ?_;intro wn T H2;replace H:=hid H2;clear H2)|(refine Sr.w_alloc (ty:=57) H.out (by rfl) rfl zPl_ rfl ?_;intro wn Cn H2;replace H:=hid H2;clear H2))
 obtain ⟨il,tl,hdd,hn,sl,hb,ht⟩:=H.out.pat;obtain ⟨ta,tc,rfl,ht1,ht2,ht3⟩:=ht;obtain ⟨b0,b1,b2,b3,b4,b5,g1,g3,g4,g5⟩:=hb.six;clear ht1 ht2 ht3 hn hdd il tl;go_quiet (fail)
 have H2:=H.out.drewN nq;clear b0 b1 b2 b3 b4 b5 g1 g3 g4 g5 hb H;have H:=hid H2;clear H2;obtain ⟨il,tl,hdd,hn,sl,hb,ht⟩:=H.out.pat;obtain ⟨ta,tc,rfl,ht1,ht2,ht3⟩:=ht;obtain ⟨b0,b1,b2,b3,b4,b5,g1,g3,g4,g5⟩:=hb.six;clear ht1 ht2 ht3 hn hdd il tl;go_upto_region 5 with (refine Sr.w_alloc (ty:=57) H.out (by rfl) rfl zPl_ rfl ?_;intro wn Cn H2;replace H:=hid H2;clear H2)
 clear b0 b1 b2 b3 b4 b5 g1 g3 g4 g5 hb;replace H:=hid (H.out.drew);refine zaa 11 (S:=fun W=>(W.cell? ⟨B,5,none⟩=some (.int .i64 ((s).a:Int))∧W.cell? ⟨B,4,none⟩=some (.int .i64 s.e))) (by kernel_rfl) (by exact ⟨H.out.ca,H.out.ce rfl⟩) (fun zJ=>?_);refine tKm 1 ?_;refine tKm 2 ?_;refine tKm 3 ?_;refine tKm 4 ?_;refine tKm 5 ?_;refine tKm 6 ?_;refine tKm 7 ?_;refine tKm 8 ?_;refine rK1 0 fun K hK=>?_
 rw[if_pos (by rfl)];refine H.out.st.o_load (ty:=57) rfl rfl 0 rfl uPl_ sPl_ ?_;refine hK.out _ _ ?_ (fun zH=>?_)
 ·exact ⟨H.out.ca,H.out.ce rfl⟩
 replace zJ:=zH;clear hK K;refine rK1 9 fun K hK=>?_
 rw[if_pos (by rfl)];refine H.out.o_store (ty:=57) rfl rfl rfl 1 rfl rfl rfl sPl_ (zad rfl) (fun wl H2=>?_);refine hK.out _ _ ?_ (fun zH=>?_)
 ·exact ⟨H2.ca,H2.ce rfl⟩
 replace zJ:=zH;clear hK K;replace H:=hid H2;clear H2;refine tKm 10 ?_;refine rKl 11 fun K hK=>?_
 go_simp;refine hK.out _ _ ?_;clear hK K;refine rKd ?_;go_wp2_with fail
 refine bodyPost_ret (H.out.st.results3 results53 (by rfl) 1 rfl uPl_ sPl_) rfl ?_;rw[HE.out];exact ⟨_,rfl,(H.out.st.drop (.cons _ (.cons _ (.cons _ (List.Sublist.refl _))))).put (zdl _ _)⟩
theorem zoO {B d:Nat} {w0:World} {L:List Bx} {D:List (List Dat×List Value)} {O:List Ow} (over:Pl) (u0:Option Addr) (m0 q0:Nat) (u1:Option Addr) (m1 q1:Nat) (u2:Option Addr) (m2 q2:Nat) (u3:Option Addr) (m3 q3:Nat) (u4:Option Addr) (m4 q4:Nat) (u5:Option Addr) (m5 q5:Nat) (u6:Option Addr) (m6 q6:Nat) (j:Nat) (hj:D[j]?=some (plD over,(plC over (.slice u0 m0 q0) (.slice u1 m1 q1) (.slice u2 m2 q2) (.slice u3 m3 q3) (.slice u4 m4 q4) (.slice u5 m5 q5) (.slice u6 m6 q6)))) (w:World) (s:Ps) (he:s.e=0) (hi:s.i<s.T.length) (h:Sr B d w0 w s L D O) :
 Calls Tryz.prog 53 #[.pointer (some ⟨B,0,none⟩),.agg (plC over (.slice u0 m0 q0) (.slice u1 m1 q1) (.slice u2 m2 q2) (.slice u3 m3 q3) (.slice u4 m4 q4) (.slice u5 m5 q5) (.slice u6 m6 q6)).toArray] w fun e w'=>∃ cs',e=.returned (.tuple #[.agg cs'.toArray,.int .i64 ((allR zPl s over).2.1:Int),.int .i64 (allR zPl s over).2.2])∧St (fun b=>b=B) w0 w' L ((plD (allR zPl s over).1,cs')::D) O:=by
 have hf:(failP s 51).e=51:=by unfold failP;rw[if_pos he]
 have HE:Hid (allR zPl s over=(zPl,(failP s 51).a,51)):=by show allR zPl s over=_;unfold allR;rw[zd1 he hi,if_neg (by rw[hf];decide),hf]
 have H:=hid h;have HF:=hid hf;have HEE:=hid he;have hi2:(s.i:Int)<(s.T.length:Int):=by omega
 clear he h hf;go_enter func53,ntmps53
 go_wp2_with (first|(refine Sr.w_box (ty:=57) H.out (by rfl) rfl rfl rfl ?_;intro wn T H2;replace H:=hid H2;clear H2)|(refine Sr.w_alloc (ty:=57) H.out (by rfl) rfl zPl_ rfl ?_;intro wn Cn H2;replace H:=hid H2;clear H2))
 obtain ⟨il,tl,hdd,hn,sl,hb,ht⟩:=H.out.pat;obtain ⟨ta,tc,rfl,ht1,ht2,ht3⟩:=ht;obtain ⟨b0,b1,b2,b3,b4,b5,g1,g3,g4,g5⟩:=hb.six;clear ht1 ht2 ht3 hn hdd il tl;rw[HEE.out]at b4;go_quiet (fail)
 have H2:=H.out.drewN nq;clear b0 b1 b2 b3 b4 b5 g1 g3 g4 g5 hb H;have H:=hid H2;clear H2;go_upto_region 3 with (go_at_call 78;(with_reducible (refine (zcc s 51 _ B d H.out.pat).mono ?_));rintro e wc ⟨rfl,hK,hP⟩;replace H:=hid (H.out.call hK hP);clear hK hP)
 obtain ⟨il,tl,hdd,hn,sl,hb,ht⟩:=H.out.pat;obtain ⟨ta,tc,rfl,ht1,ht2,ht3⟩:=ht;obtain ⟨b0,b1,b2,b3,b4,b5,g1,g3,g4,g5⟩:=hb.six;clear ht1 ht2 ht3 hn hdd il tl;rw[HF.out]at b4;go_upto_region 5 with (refine Sr.w_alloc (ty:=57) H.out (by rfl) rfl zPl_ rfl ?_;intro wn Cn H2;replace H:=hid H2;clear H2)
 clear b0 b1 b2 b3 b4 b5 g1 g3 g4 g5 hb;replace H:=hid (H.out.drew);refine zaa 11 (S:=fun W=>(W.cell? ⟨B,5,none⟩=some (.int .i64 ((failP s 51).a:Int))∧W.cell? ⟨B,4,none⟩=some (.int .i64 51))) (by kernel_rfl) (by exact ⟨H.out.ca,H.out.ce HF.out⟩) (fun zJ=>?_);refine tKm 1 ?_;refine tKm 2 ?_;refine tKm 3 ?_;refine tKm 4 ?_;refine tKm 5 ?_;refine tKm 6 ?_;refine tKm 7 ?_;refine tKm 8 ?_;refine rK1 0 fun K hK=>?_
 rw[if_pos (by rfl)];refine H.out.st.o_load (ty:=57) rfl rfl 0 rfl uPl_ sPl_ ?_;refine hK.out _ _ ?_ (fun zH=>?_)
 ·exact ⟨H.out.ca,H.out.ce HF.out⟩
 replace zJ:=zH;clear hK K;refine rK1 9 fun K hK=>?_
 rw[if_pos (by rfl)];refine H.out.o_store (ty:=57) rfl rfl rfl 1 rfl rfl rfl sPl_ (zad rfl) (fun wl H2=>?_);refine hK.out _ _ ?_ (fun zH=>?_)
 ·exact ⟨H2.ca,H2.ce HF.out⟩
 replace zJ:=zH;clear hK K;replace H:=hid H2;clear H2;refine tKm 10 ?_;refine rKl 11 fun K hK=>?_
 go_simp;refine hK.out _ _ ?_;clear hK K;refine rKd ?_;go_wp2_with fail
 refine bodyPost_ret (H.out.st.results3 results53 (by rfl) 1 rfl uPl_ sPl_) rfl ?_;rw[HE.out];exact ⟨_,rfl,(H.out.st.drop (.cons _ (.cons _ (.cons _ (List.Sublist.refl _))))).put (zdl _ _)⟩
theorem zoP {B d:Nat} {w0:World} {L:List Bx} {D:List (List Dat×List Value)} {O:List Ow} (over:Pl) (u0:Option Addr) (m0 q0:Nat) (u1:Option Addr) (m1 q1:Nat) (u2:Option Addr) (m2 q2:Nat) (u3:Option Addr) (m3 q3:Nat) (u4:Option Addr) (m4 q4:Nat) (u5:Option Addr) (m5 q5:Nat) (u6:Option Addr) (m6 q6:Nat) (j:Nat) (hj:D[j]?=some (plD over,(plC over (.slice u0 m0 q0) (.slice u1 m1 q1) (.slice u2 m2 q2) (.slice u3 m3 q3) (.slice u4 m4 q4) (.slice u5 m5 q5) (.slice u6 m6 q6)))) (w:World) (s:Ps) (he:s.e=0) (hi:¬ s.i<s.T.length) (h:Sr B d w0 w s L D O) :
 Calls Tryz.prog 53 #[.pointer (some ⟨B,0,none⟩),.agg (plC over (.slice u0 m0 q0) (.slice u1 m1 q1) (.slice u2 m2 q2) (.slice u3 m3 q3) (.slice u4 m4 q4) (.slice u5 m5 q5) (.slice u6 m6 q6)).toArray] w fun e w'=>∃ cs',e=.returned (.tuple #[.agg cs'.toArray,.int .i64 ((allR zPl s over).2.1:Int),.int .i64 (allR zPl s over).2.2])∧St (fun b=>b=B) w0 w' L ((plD (allR zPl s over).1,cs')::D) O:=by
 have HE:Hid (allR zPl s over=(over,s.E,0)):=by show allR zPl s over=_;unfold allR;rw[zdA hi,if_pos he]
 have H:=hid h;have HEE:=hid he;have hi2:¬ ((s.i:Int)<(s.T.length:Int)):=by omega
 have hi3:(s.T.length:Int)≤(s.i:Int):=by omega
 clear he h;go_enter func53,ntmps53
 go_wp2_with (first|(refine Sr.w_box (ty:=57) H.out (by rfl) rfl rfl rfl ?_;intro wn T H2;replace H:=hid H2;clear H2)|(refine Sr.w_alloc (ty:=57) H.out (by rfl) rfl zPl_ rfl ?_;intro wn Cn H2;replace H:=hid H2;clear H2))
 obtain ⟨il,tl,hdd,hn,sl,hb,ht⟩:=H.out.pat;obtain ⟨ta,tc,rfl,ht1,ht2,ht3⟩:=ht;obtain ⟨b0,b1,b2,b3,b4,b5,g1,g3,g4,g5⟩:=hb.six;clear ht1 ht2 ht3 hn hdd il tl;rw[HEE.out]at b4;go_quiet (fail)
 have H2:=H.out.drewN nq;clear b0 b1 b2 b3 b4 b5 g1 g3 g4 g5 hb H;have H:=hid H2;clear H2;obtain ⟨il,tl,hdd,hn,sl,hb,ht⟩:=H.out.pat;obtain ⟨ta,tc,rfl,ht1,ht2,ht3⟩:=ht;obtain ⟨b0,b1,b2,b3,b4,b5,g1,g3,g4,g5⟩:=hb.six;clear ht1 ht2 ht3 hn hdd il tl;rw[HEE.out]at b4;go_upto_region 6 with (fail)
 clear b0 b1 b2 b3 b4 b5 g1 g3 g4 g5 hb;replace H:=hid (H.out.drew);refine zaa 7 (S:=fun W=>(W.cell? ⟨B,2,none⟩=some (.int .i64 (s.E:Int)))) (by kernel_rfl) (by exact H.out.cE) (fun zJ=>?_);refine tKm 1 ?_;refine tKm 2 ?_;refine tKm 3 ?_;refine tKm 4 ?_;refine rK1 0 fun K hK=>?_
 rw[if_pos (by rfl)];refine H.out.st.o_load (ty:=57) rfl rfl 1 rfl uPl_ sPl_ ?_;refine hK.out _ _ ?_ (fun zH=>?_)
 ·exact H.out.cE
 replace zJ:=zH;clear hK K;refine rK1 5 fun K hK=>?_
 rw[if_pos (by rfl)];refine H.out.o_store (ty:=57) rfl rfl rfl 0 rfl rfl rfl sPl_ (zad rfl) (fun wl H2=>?_);refine hK.out _ _ ?_ (fun zH=>?_)
 ·exact H2.cE
 replace zJ:=zH;clear hK K;replace H:=hid H2;clear H2;refine tKm 6 ?_;refine rKl 7 fun K hK=>?_
 go_simp;refine hK.out _ _ ?_;clear hK K;refine rKd ?_;go_wp2_with fail
 refine bodyPost_ret (H.out.st.results3 results53 (by rfl) 0 rfl uPl_ sPl_) rfl ?_;rw[HE.out];have H4:=H.out.st.drop (L':=L) (.cons _ (.cons _ (List.Sublist.refl _)));exact ⟨_,rfl,H4.put (H4.rowAt hj)⟩
theorem zqA {B d:Nat} {w0:World} {L:List Bx} {D:List (List Dat×List Value)} {O:List Ow} (over:Pl) (cs:List Value) (j:Nat) (hj:D[j]?=some (plD over,cs)) (w:World) (s:Ps) (h:Sr B d w0 w s L D O) :
 Calls Tryz.prog 53 #[.pointer (some ⟨B,0,none⟩),.agg cs.toArray] w fun e w'=>∃ cs',e=.returned (.tuple #[.agg cs'.toArray,.int .i64 ((allR zPl s over).2.1:Int),.int .i64 (allR zPl s over).2.2])∧St (fun b=>b=B) w0 w' L ((plD (allR zPl s over).1,cs')::D) O:=by
 obtain ⟨u0,m0,q0,u1,m1,q1,u2,m2,q2,u3,m3,q3,u4,m4,q4,u5,m5,q5,u6,m6,q6,rfl⟩:=zf9 (h.st.rowAt hj);by_cases he:s.e=0
 ·by_cases hi:s.i<s.T.length
  ·exact zoO over u0 m0 q0 u1 m1 q1 u2 m2 q2 u3 m3 q3 u4 m4 q4 u5 m5 q5 u6 m6 q6 j hj w s he hi h
  ·exact zoP over u0 m0 q0 u1 m1 q1 u2 m2 q2 u3 m3 q3 u4 m4 q4 u5 m5 q5 u6 m6 q6 j hj w s he hi h
 ·exact zqz over u0 m0 q0 u1 m1 q1 u2 m2 q2 u3 m3 q3 u4 m4 q4 u5 m5 q5 u6 m6 q6 j hj w s he h
theorem St.past {S:Nat→Prop} {w0 w w':World} {L:List Bx} (h:St S w0 w L [] []) {B:Nat} (hB:w0.heap.size≤B) (hL:∀ p∈L,p.1≠B) (g:Kept (fun b=>b=B) w w') {ds:List Dat} {cs:List Value} (hr:Row w' (fun b=>w.heap.size≤b) ds cs):St S w0 w' L [(ds,cs)] [] :=
 ⟨h.kept.then g (fun k hk e=>by have e':k=B:=e;omega),fun p hp=>(h.box p hp).kept g (hL p hp),h.new,h.nd,fun q hq=>by
  obtain rfl:=List.mem_singleton.1 hq;refine hr.weak fun b _ hb=>⟨yH h.kept.size hb,fun p hp e=>?_,fun x hx=>(by simp at hx)⟩
  have:=(h.box p hp).lt;have hb':w.heap.size≤b:=hb;omega,fun q h=>(by simp at h),fun q h=>(by simp at h),fun q h=>(by simp at h),fun q h=>(by simp at h),.nil⟩
def zsw (r:Pl×Nat×Int) (w:World) (e:Ending) (w':World):Prop :=
 ∃ cs,e=.returned (.tuple #[.agg cs.toArray,.int .i64 (r.2.1:Int),.int .i64 r.2.2])∧Row w' (fun b=>w.heap.size≤b) (plD r.1) cs∧Below w.heap.size w w'
theorem zlu (l:List UInt8):zdn l=allR zPl (topQ (openP l)).2 (topQ (openP l)).1:=by
 unfold zdn allR;rw[(zeV (openP l)).E];rfl
theorem zhG (s:ByteArray) (w:World) (hE:EnvL w):Calls Tryz.prog 30 #[.string s] w (zsw (zdn s.data.toList) w):=by
 have H:=hid (St.start (S:=fun _=>False) w);have HE:=hid hE;have HQ:=hid (zlu s.data.toList);clear hE;go_enter func30,ntmps30
 go_wp2_with (first|(refine St.w_alloc (ty:=57) H.out (by rfl) rfl zPl_ rfl ?_;intro w1 R _ hbw H2;replace H:=hid H2;clear H2;have HB:=hid hbw;clear hbw)|(go_at_call 43;(with_reducible (refine (zhJ s _ (HE.out.below HB.out)).mono ?_));rintro e w2 ⟨B,rfl,hB,hP,hb⟩;have HR:Hid (R<B):=Nat.lt_of_lt_of_le (H.out.at (i:=0) rfl).lt hB;have HW:Hid (w.heap.size≤B):=yH HB.out.size hB;have H2:=H.out.below hb;have HS:=hid (Sr.start hP);clear hP hb hB HB;replace H:=hid H2;clear H2)|(go_at_call 54;(with_reducible (refine (zkl B _ (openP s.data.toList) HS.out.pat).mono ?_));intro e wc hR;obtain ⟨a0,n0,k0,a1,n1,k1,a2,n2,k2,a3,n3,k3,a4,n4,k4,a5,n5,k5,a6,n6,k6,rfl,hX,hK,hP⟩:=PlTo.of hR;have H2:=HS.out.callR hK hP hX;clear hX hK hP hR;clear HS;have HS:=hid H2;clear H2)|(go_at_call 53;have hc:=zqA (topQ (openP s.data.toList)).1 _ 0 rfl _ _ HS.out;(with_reducible (refine hc.mono ?_));clear hc;rintro e wc ⟨cs',rfl,hst⟩;obtain ⟨v0,b0,c0,v1,b1,c1,v2,b2,c2,v3,b3,c3,v4,b4,c4,v5,b5,c5,v6,b6,c6,rfl⟩:=zf9 (hst.rowAt (j:=0) rfl);have H2:=H.out.past HW.out (fun p hp=>by have:=HR.out;rw[List.mem_singleton.1 hp];show R≠B;omega) hst.kept ((hst.rowAt (j:=0) rfl).weak fun b _ ho=>ho.1);clear hst HS;replace H:=hid H2;clear H2)|(refine St.w_store (ty:=57) H.out (by rfl) rfl rfl rfl 0 rfl rfl rfl sPl_ (zad rfl) ?_;intro wn _ _ H2;replace H:=hid H2;clear H2))
 refine bodyPost_ret (H.out.results3 results30 (by rfl) 0 rfl uPl_ sPl_) rfl ?_;rw[HQ.out];exact ⟨_,rfl,(H.out.rowAt (j:=0) rfl).weak fun b _ ho=>ho.1,H.out.kept.below (yG _) fun k h=>h.elim⟩
