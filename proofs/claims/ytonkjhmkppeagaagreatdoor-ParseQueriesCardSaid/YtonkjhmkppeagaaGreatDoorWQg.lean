/- Walks: the definitions of a text. Walks: parse.Parse. -/
import Derived.Test.YtonkjhmkppeagaaGreatDoorWQf
set_option maxRecDepth 100000
set_option maxHeartbeats 1600000
set_option linter.unusedVariables false
set_option linter.unusedSimpArgs false
namespace Go.Proofs.YtonkjhmkppeagaaGreatDoor.Pz
open Go.Proofs.Tryz
open Go.Lib (hid)
open Go.RowKit Go Go.Sort Ba Lx
def zc5 (s:Ps) (v:Value):Value:=if (allP s).e=0 then v else .slice none 0 0
theorem zqB (B d:Nat) (x:List Df) (ao:Option Addr) (n cp:Nat) (w:World) (s:Ps) (he:s.e≠0) (hp:PAt w B d s) :
 Calls Tryz.prog 62 #[.pointer (some ⟨B,0,none⟩),.slice ao n cp] w fun e w'=>e=.returned (.tuple #[zc5 s (.slice ao n cp),.int .i64 ((allR ([]:List Df) s x).2.1:Int),.int .i64 (allR ([]:List Df) s x).2.2])∧Kept (fun b=>b=B) w w':=by
 have HE:Hid (allR ([]:List Df) s x=([],s.a,s.e)):=by show allR _ s x=_;unfold allR;rw[zdj he,if_neg he]
 have HE2:Hid (zc5 s (.slice ao n cp)=.slice none 0 0):=by show zc5 s (.slice ao n cp)=_;unfold zc5;rw[zdj he,if_neg he]
 have HP:=hid hp;have he2:(s.e != 0)=true:=by simpa using he
 have he3:(s.e == 0)=false:=by simpa using he
 clear he hp;go_enter func62,ntmps62
 go_wp2_with fail
 obtain ⟨il,tl,hdd,hn,sl,hb,ht⟩:=HP.out;obtain ⟨ta,tc,rfl,ht1,ht2,ht3⟩:=ht;obtain ⟨b0,b1,b2,b3,b4,b5,g1,g3,g4,g5⟩:=hb.six;clear ht1 ht2 ht3 hn hdd il tl;go_quiet (fail)
 have hP2:PAt (w.drewN nq) B d s:=HP.out.kept (S:=fun _=>False) ((Kept.refl _ w).drewN nq) (fun _ x=>x.elim);have K2:=hid ((Kept.refl (fun b=>b=B) w).drewN nq);clear b0 b1 b2 b3 b4 b5 g1 g3 g4 g5 hb HP;have HP:=hid hP2;clear hP2;generalize w.drewN nq=w2 at *
 obtain ⟨il,tl,hdd,hn,sl,hb,ht⟩:=HP.out;obtain ⟨ta,tc,rfl,ht1,ht2,ht3⟩:=ht;obtain ⟨b0,b1,b2,b3,b4,b5,g1,g3,g4,g5⟩:=hb.six;clear ht1 ht2 ht3 hn hdd il tl;go_upto_region 5 with (fail)
 go_quiet (fail)
 go_wp2_with fail
 refine bodyPost_ret (by simp[results,results62,go_sem];try rfl) rfl ?_;rw[HE.out,HE2.out];exact ⟨rfl,(K2.out.drewN _)⟩
theorem zoQ (B d:Nat) (x:List Df) (ao:Option Addr) (n cp:Nat) (w:World) (s:Ps) (he:s.e=0) (hi:s.i<s.T.length) (hp:PAt w B d s) :
 Calls Tryz.prog 62 #[.pointer (some ⟨B,0,none⟩),.slice ao n cp] w fun e w'=>e=.returned (.tuple #[zc5 s (.slice ao n cp),.int .i64 ((allR ([]:List Df) s x).2.1:Int),.int .i64 (allR ([]:List Df) s x).2.2])∧Kept (fun b=>b=B) w w':=by
 have hf:(failP s 51).e=51:=by unfold failP;rw[if_pos he]
 have HE:Hid (allR ([]:List Df) s x=([],(failP s 51).a,51)):=by show allR _ s x=_;unfold allR;rw[zd1 he hi,if_neg (by rw[hf];decide),hf]
 have HE2:Hid (zc5 s (.slice ao n cp)=.slice none 0 0):=by show zc5 s (.slice ao n cp)=_;unfold zc5;rw[zd1 he hi,if_neg (by rw[hf];decide)]
 have HP:=hid hp;have HF:=hid hf;have HEE:=hid he;have hi2:(s.i:Int)<(s.T.length:Int):=by omega
 clear he hp hf;go_enter func62,ntmps62
 go_wp2_with fail
 obtain ⟨il,tl,hdd,hn,sl,hb,ht⟩:=HP.out;obtain ⟨ta,tc,rfl,ht1,ht2,ht3⟩:=ht;obtain ⟨b0,b1,b2,b3,b4,b5,g1,g3,g4,g5⟩:=hb.six;clear ht1 ht2 ht3 hn hdd il tl;rw[HEE.out]at b4;go_quiet (fail)
 have hP2:PAt (w.drewN nq) B d s:=HP.out.kept (S:=fun _=>False) ((Kept.refl _ w).drewN nq) (fun _ x=>x.elim);have K2:=hid ((Kept.refl (fun b=>b=B) w).drewN nq);clear b0 b1 b2 b3 b4 b5 g1 g3 g4 g5 hb HP;have HP:=hid hP2;clear hP2;generalize w.drewN nq=w2 at *
 go_upto_region 3 with (go_at_call 78;(with_reducible (refine (zcc s 51 _ B d HP.out).mono ?_));rintro e w3 ⟨rfl,hK,hP⟩;have K4:=hid (K2.out.trans hK);clear hK K2;have K2:=K4;clear K4 HP;have HP:=hid hP;clear hP)
 obtain ⟨il,tl,hdd,hn,sl,hb,ht⟩:=HP.out;obtain ⟨ta,tc,rfl,ht1,ht2,ht3⟩:=ht;obtain ⟨b0,b1,b2,b3,b4,b5,g1,g3,g4,g5⟩:=hb.six;clear ht1 ht2 ht3 hn hdd il tl;rw[HF.out]at b4;go_upto_region 5 with (fail)
 go_quiet (fail)
 go_wp2_with fail
 refine bodyPost_ret (by simp[results,results62,go_sem];try rfl) rfl ?_;rw[HE.out,HE2.out];exact ⟨rfl,(K2.out.drewN _)⟩
theorem zoR (B d:Nat) (x:List Df) (ao:Option Addr) (n cp:Nat) (w:World) (s:Ps) (he:s.e=0) (hi:¬ s.i<s.T.length) (hp:PAt w B d s) :
 Calls Tryz.prog 62 #[.pointer (some ⟨B,0,none⟩),.slice ao n cp] w fun e w'=>e=.returned (.tuple #[zc5 s (.slice ao n cp),.int .i64 ((allR ([]:List Df) s x).2.1:Int),.int .i64 (allR ([]:List Df) s x).2.2])∧Kept (fun b=>b=B) w w':=by
 have HE:Hid (allR ([]:List Df) s x=(x,s.E,0)):=by show allR _ s x=_;unfold allR;rw[zdA hi,if_pos he]
 have HE2:Hid (zc5 s (.slice ao n cp)=.slice ao n cp):=by show zc5 s (.slice ao n cp)=_;unfold zc5;rw[zdA hi,if_pos he]
 have HP:=hid hp;have HEE:=hid he;have hi2:¬ ((s.i:Int)<(s.T.length:Int)):=by omega
 have hi3:(s.T.length:Int)≤(s.i:Int):=by omega
 clear he hp;go_enter func62,ntmps62
 go_wp2_with fail
 obtain ⟨il,tl,hdd,hn,sl,hb,ht⟩:=HP.out;obtain ⟨ta,tc,rfl,ht1,ht2,ht3⟩:=ht;obtain ⟨b0,b1,b2,b3,b4,b5,g1,g3,g4,g5⟩:=hb.six;clear ht1 ht2 ht3 hn hdd il tl;rw[HEE.out]at b4;go_quiet (fail)
 have hP2:PAt (w.drewN nq) B d s:=HP.out.kept (S:=fun _=>False) ((Kept.refl _ w).drewN nq) (fun _ x=>x.elim);have K2:=hid ((Kept.refl (fun b=>b=B) w).drewN nq);clear b0 b1 b2 b3 b4 b5 g1 g3 g4 g5 hb HP;have HP:=hid hP2;clear hP2;generalize w.drewN nq=w2 at *
 obtain ⟨il,tl,hdd,hn,sl,hb,ht⟩:=HP.out;obtain ⟨ta,tc,rfl,ht1,ht2,ht3⟩:=ht;obtain ⟨b0,b1,b2,b3,b4,b5,g1,g3,g4,g5⟩:=hb.six;clear ht1 ht2 ht3 hn hdd il tl;rw[HEE.out]at b4;go_upto_region 6 with (fail)
 go_quiet (fail)
 go_wp2_with fail
 refine bodyPost_ret (by simp[results,results62,go_sem];try rfl) rfl ?_;rw[HE.out,HE2.out];exact ⟨rfl,(K2.out.drewN _)⟩
theorem zk8 (B d:Nat) (x:List Df) (ao:Option Addr) (n cp:Nat) (w:World) (s:Ps) (hp:PAt w B d s):Calls Tryz.prog 62 #[.pointer (some ⟨B,0,none⟩),.slice ao n cp] w fun e w'=>e=.returned (.tuple #[zc5 s (.slice ao n cp),.int .i64 ((allR ([]:List Df) s x).2.1:Int),.int .i64 (allR ([]:List Df) s x).2.2])∧Kept (fun b=>b=B) w w':=by
 by_cases he:s.e=0
 ·by_cases hi:s.i<s.T.length
  ·exact zoQ B d x ao n cp w s he hi hp
  ·exact zoR B d x ao n cp w s he hi hp
 ·exact zqB B d x ao n cp w s he hp
theorem iDf_:(Tryz.prog.info? 88).map (fun i=>(i.zero,i.size,i.bytes))=some (some (.agg #[.int .i64 0,.string ⟨#[]⟩,.slice none 0 0,.int .i64 0,.int .i64 0,.int .i64 0,.slice none 0 0,.int .i64 0,.string ⟨#[]⟩,.slice none 0 0,.int .i64 0,.string ⟨#[]⟩,.int .i64 0,.int .i64 0,.string ⟨#[]⟩,.string ⟨#[]⟩,.slice none 0 0,.slice none 0 0,.slice none 0 0,.slice none 0 0,.slice none 0 0,.slice none 0 0,.int .i64 0,.string ⟨#[]⟩,.slice none 0 0]),25,408):=by kernel_rfl
theorem iDf2_:(Tryz.prog.info? 88).map (fun i=>(i.zero,i.size))=some (some (.agg #[.int .i64 0,.string ⟨#[]⟩,.slice none 0 0,.int .i64 0,.int .i64 0,.int .i64 0,.slice none 0 0,.int .i64 0,.string ⟨#[]⟩,.slice none 0 0,.int .i64 0,.string ⟨#[]⟩,.int .i64 0,.int .i64 0,.string ⟨#[]⟩,.string ⟨#[]⟩,.slice none 0 0,.slice none 0 0,.slice none 0 0,.slice none 0 0,.slice none 0 0,.slice none 0 0,.int .i64 0,.string ⟨#[]⟩,.slice none 0 0]),25):=by kernel_rfl
def zsx (W:World) (base:Nat) (v:Value) (ds:List Df):Prop:=∃ cells:List (List Value),Own W base 88 25 v (ds.map dfD) cells
def zgB (r:List Df×Nat×Int) (w:World) (e:Ending) (w':World):Prop :=
 ∃ ao cp,e=.returned (.tuple #[.slice ao r.1.length cp,.int .i64 (r.2.1:Int),.int .i64 r.2.2])∧Rep w' (fun b=>w.heap.size≤b) (.sl 25 (r.1.map dfD)) (.slice ao r.1.length cp)∧zsx w' w.heap.size (.slice ao r.1.length cp) r.1∧Below w.heap.size w w'
theorem zgt (s:Ps):Goes s (defsP s).2:=zb5 _ _ _
theorem zgR (l:List UInt8):zaJ l=allR [] (defsP (openP l)).2 (defsP (openP l)).1:=by
 unfold zaJ allR;rw[(zgt (openP l)).E];rfl
theorem zoi (s:Ps) (e:Int) (he:e≠0):(failP s e).e≠0:=by
 unfold failP;split
 ·exact he
 ·rename_i h;exact h
theorem zoq (s:Ps):(defP s).2.e=0→s.i+1≤(defP s).2.i:=fun h=>by
 have hg:=((zbW zal s).trans (zeW (oneP zal s).1 (oneP zal s).2)).i;have e1:(defP s).2=wantP [59] (defK (oneP zal s).1 (oneP zal s).2).2:=rfl;rw[e1]at h ⊢;unfold wantP at h ⊢;split
 ·show s.i+1≤_+1;omega
 ·rename_i hx
  rw[if_neg hx]at h;exact absurd h (zoi _ _ (by decide))
theorem zop {n:Nat} {a:List Df} {s:Ps} (he:s.e=0) (hi:s.i<s.T.length):za4 (n+1) a s=za4 n (a++[(defP s).1]) (defP s).2:=by
 rw[za4,if_pos ⟨he,hi⟩]
theorem zfO {a:List Df} {s:Ps} (h:¬ (s.e=0∧s.i<s.T.length)):∀ n,za4 n a s=(a,s)
 | 0=>rfl
 | n+1=>by rw[za4,if_neg h]
theorem zoo {w w1 w2:World} {B:Nat} {ao:Option Addr} {cp:Nat} {cells:List (List Value)} (acc:List Df) (s1:Ps) (hW:w.heap.size≤B) (hB:Below w.heap.size w w1) (h:St (fun b=>b=B) w1 w2 [] [] [⟨88,25,.slice ao acc.length cp,acc.map dfD,cells⟩]) :
 zgB (allR [] s1 acc) w (.returned (.tuple #[zc5 s1 (.slice ao acc.length cp),.int .i64 ((allR ([]:List Df) s1 acc).2.1:Int),.int .i64 (allR ([]:List Df) s1 acc).2.2])) w2:=by
 have hbw:Below w.heap.size w w2:=hB.trans (h.kept.below (B:=w.heap.size) hB.size (fun k e=>by have e':k=B:=e;omega));have ho:=h.own _ yX;have hl:=h.len _ yX;have hr:=h.row _ yX;have hq:Own w2 w.heap.size 88 25 (.slice ao acc.length cp) (acc.map dfD) cells:=⟨⟨ho.1,ho.2.imp id fun ⟨g,c,cur,q1,q2,q⟩=>⟨g,c,cur,q1,yH hB.size q2,q⟩⟩,hl,fun i r cs hr' hc=>⟨(hr i r cs hr' hc).1,(hr i r cs hr' hc).2.weak fun b _ hb=>⟨yH hB.size hb.1,hb.2.2 _ yX⟩⟩⟩;unfold allR zc5;split
 ·exact ⟨ao,cp,rfl,(rep1 (h.shut.rowAt (j:=0) rfl)).weak fun b _ ho=>yH hB.size ho.1,⟨cells,hq⟩,hbw⟩
 ·exact ⟨none,0,rfl,Rep.nil _ _ _,⟨[],Own.nil _ _ _ _⟩,hbw⟩
theorem zeM (s:ByteArray) (w:World) (hE:EnvL w):Calls Tryz.prog 32 #[.string s] w (zgB (zaJ s.data.toList) w):=by
 obtain ⟨p0,hp0⟩:∃ p,openP s.data.toList=p:=⟨_,rfl⟩;have HE:=hid hE;have hq:=zgR s.data.toList;rw[hp0]at hq;have HO:Hid (∀ W,EnvL W→Calls Tryz.prog 43 #[.string s] W (zq2 p0 W)):=fun W hW=>by
  have:=zhJ s W hW;rw[hp0]at this;exact this
 have HQ0:=hid hq;have HL:Hid (defsP p0=za4 (p0.T.length+1) [] p0):=rfl;clear hE hq hp0;go_enter func32,ntmps32
 go_wp2_with (go_at_call 43;(with_reducible (refine (HO.out w HE.out).mono ?_));rintro e w1 ⟨B,rfl,hB,hP,hb⟩;have HW:=hid hB;have HB:=hid hb;have H:=hid ((Sr.start hP).gather 88 25);clear hB hP hb)
 have htl:=H.out.pat.tl;have hil:=H.out.pat.il;go_loopg [2] p0.T.length (fun kx s2 wr=>∃ (acc:List Df) (s1:Ps) (fuel:Nat) (ao1:Option Addr) (cp1:Nat) (cells:List (List Value)),s2=.slice ao1 acc.length cp1∧Hid (Sr B 0 w1 wr s1 [] [] [⟨88,25,.slice ao1 acc.length cp1,acc.map dfD,cells⟩])∧Hid (defsP p0=za4 fuel acc s1)∧Hid (s1.T=p0.T)∧acc.length≤s1.i+1∧(s1.e=0→acc.length≤s1.i∧p0.T.length<fuel+s1.i∧p0.T.length≤kx+s1.i))
 case atStart=>exact ⟨[],p0,p0.T.length+1,none,0,[],rfl,H,HL,rfl,yS _,fun _=>⟨yS _,by omega,by omega⟩⟩
 case round =>
  clear H;obtain ⟨acc,s1,fuel,ao1,cp1,cells,rfl,H,HL2,HT1,hac,hrest⟩:=hrel;have hil2:=H.out.pat.il;rw[HT1.out]at hil2;by_cases he:s1.e=0
  ·obtain ⟨hac2,hfu,hkx⟩:=hrest he;clear hrest;by_cases hi:s1.i<s1.T.length
   ·obtain ⟨fu,rfl⟩:∃ fu,fuel=fu+1:=⟨fuel-1,by rw[HT1.out]at hi;omega⟩;have HL3:Hid (defsP p0=za4 fu (acc++[(defP s1).1]) (defP s1).2):=by
     show defsP p0=_
     rw[HL2.out,zop he hi]
    have hgs:=zhX s1;have HT3:Hid ((defP s1).2.T=p0.T):=hgs.T.trans HT1.out;have HGI:Hid (s1.i≤(defP s1).2.i∧((defP s1).2.e=0→s1.i+1≤(defP s1).2.i)):=⟨hgs.i,zoq s1⟩;have HLT:Hid (s1.i<p0.T.length):=by show s1.i<p0.T.length;rw[← HT1.out];exact hi
    have HAC:Hid (acc.length≤20000):=by show acc.length≤20000;omega
    have HEE:=hid he;have hi2:(s1.i:Int)<(s1.T.length:Int):=by omega
    have HNN:=hid (And.intro hac2 (And.intro hfu hkx));clear he hi hgs hac hac2 hfu hkx hil2;obtain ⟨il,tl,hdd,hn,sl,hb,ht⟩:=H.out.pat;obtain ⟨ta,tc,rfl,ht1,ht2,ht3⟩:=ht;obtain ⟨b0,b1,b2,b3,b4,b5,g1,g3,g4,g5⟩:=hb.six;clear ht1 ht2 ht3 hn hdd il tl;rw[HEE.out]at b4;go_upto_region 2 with (fail)
    go_quiet (fail)
    have H2:=H.out.drewN nq;clear b0 b1 b2 b3 b4 b5 g1 g3 g4 g5 hb H;have H:=hid H2;clear H2
    go_wp2_with (first|(go_at_call 61;(with_reducible (refine (zso B _ s1 H.out.pat).mono ?_));rintro e wc ⟨cs,rfl,hX,hK,hP⟩;obtain ⟨b0,g0,h0,b1,g1,h1,b2,g2,h2,a0,n0,k0,a1,n1,k1,a2,n2,k2,a3,n3,k3,a4,n4,k4,a5,n5,k5,a6,n6,k6,rfl⟩:=zh2 hX;replace H:=hid (H.out.callR hK hP hX);clear hX hK hP)|(refine Sr.w_lit1 H.out (by rfl) rfl underlying74 iDf2_ rfl rfl (by decide) (by decide) rfl rfl ?_;intro wl Cl H2;replace H:=hid H2;clear H2)|(refine Sr.w_append (r:=dfD (defP s1).1) H.out (by rfl) rfl underlying74 iDf_ rfl (by decide) (by decide) 0 rfl rfl rfl rfl rfl 0 rfl (zj5 _) (H.out.st.rowAt (j:=0) rfl) (by show (acc.map dfD).length+1≤1000000;rw[yC];have:=HAC.out;omega) ?_;intro wl ao cap H2;replace H:=hid H2;clear H2))
    have H3:=(H.out.drop (L':=[]) (.cons _ (List.Sublist.refl _))).less (D':=[]) (fun q hq=>by cases hq);obtain ⟨g2a,g2b,g2c⟩:=HNN.out;obtain ⟨g1a,g1b⟩:=HGI.out;have hlt:=HLT.out;have e1:(acc++[(defP s1).1]).map dfD=acc.map dfD++[dfD (defP s1).1]:=by rw[List.map_append];rfl
    have e2:(acc.map dfD).length+1=(acc++[(defP s1).1]).length:=by rw[yC,yA];rfl
    have e3:acc.length+1=(acc++[(defP s1).1]).length:=by rw[yA];rfl
    go_roundg (p0.T.length-s1.i-1)
    case measure=>omega
    case rel=>exact ⟨acc++[(defP s1).1],(defP s1).2,fu,ao,cap,_,by rw[← e3],by show Sr _ _ _ _ _ _ _ _;rw[e1,← e2];exact H3,HL3,HT3,by rw[yA];show acc.length+1≤_;omega,fun hz=>by have:=g1b hz;rw[yA];show acc.length+1≤_∧_;omega⟩
   ·have HL1:Hid (defsP p0=(acc,s1)):=by show defsP p0=_;rw[HL2.out,zfO (fun x=>hi x.2)]
    have HQ:=HQ0;have HEE:=hid he;have hi2:¬ ((s1.i:Int)<(s1.T.length:Int)):=by omega
    have hi3:(s1.T.length:Int)≤(s1.i:Int):=by omega
    clear he hi hac hac2 hfu hkx hil2;obtain ⟨il,tl,hdd,hn,sl,hb,ht⟩:=H.out.pat;obtain ⟨ta,tc,rfl,ht1,ht2,ht3⟩:=ht;obtain ⟨b0,b1,b2,b3,b4,b5,g1,g3,g4,g5⟩:=hb.six;clear ht1 ht2 ht3 hn hdd il tl;rw[HEE.out]at b4;go_upto_region 2 with (fail)
    go_quiet (fail)
    have H2:=H.out.drewN nq;clear b0 b1 b2 b3 b4 b5 g1 g3 g4 g5 hb H;have H:=hid H2;clear H2;go_upto_region 4 with (fail)
    go_wp2_with (go_at_call 62;(with_reducible (refine (zk8 B 0 acc ao1 acc.length cp1 _ s1 H.out.pat).mono ?_));rintro e wc ⟨rfl,hK⟩;have H2:=H.out.st.next hK (fun k e=>⟨by have e':k=B:=e;have:=H.out.lt;omega,e⟩);clear hK;replace H:=hid H2;clear H2)
    refine bodyPost_ret (by simp[results,results32,go_sem];try rfl) rfl ?_;rw[HQ.out,HL1.out];exact zoo acc s1 HW.out HB.out H.out
  ·have HL1:Hid (defsP p0=(acc,s1)):=by show defsP p0=_;rw[HL2.out,zfO (fun x=>he x.1)]
   have HQ:=HQ0;have he2:(s1.e != 0)=true:=by simpa using he
   have he3:(s1.e == 0)=false:=by simpa using he
   clear he hac hrest hil2;obtain ⟨il,tl,hdd,hn,sl,hb,ht⟩:=H.out.pat;obtain ⟨ta,tc,rfl,ht1,ht2,ht3⟩:=ht;obtain ⟨b0,b1,b2,b3,b4,b5,g1,g3,g4,g5⟩:=hb.six;clear ht1 ht2 ht3 hn hdd il tl;go_upto_region 2 with (fail)
   go_quiet (fail)
   have H2:=H.out.drewN nq;clear b0 b1 b2 b3 b4 b5 g1 g3 g4 g5 hb H;have H:=hid H2;clear H2;go_upto_region 4 with (fail)
   go_wp2_with (go_at_call 62;(with_reducible (refine (zk8 B 0 acc ao1 acc.length cp1 _ s1 H.out.pat).mono ?_));rintro e wc ⟨rfl,hK⟩;have H2:=H.out.st.next hK (fun k e=>⟨by have e':k=B:=e;have:=H.out.lt;omega,e⟩);clear hK;replace H:=hid H2;clear H2)
   refine bodyPost_ret (by simp[results,results32,go_sem];try rfl) rfl ?_;rw[HQ.out,HL1.out];exact zoo acc s1 HW.out HB.out H.out
