/- Walks: the reader's next token, its first error. Walks: the reader's first error; does a word come; if it comes; it must come. Walks: what must come; a token of a kind; a name; one of some words. Walks: one of some words; which of some comes; expressions put together. Walks: expressions put together; what lies one deeper. Plans in memory: their cells, opened and shut. -/
import Derived.Test.YtonkjhmkppeagaaGreatDoorWPsA
import Derived.RegionTactic
import Derived.BigRegion
set_option maxHeartbeats 1600000
set_option linter.unusedVariables false
set_option linter.unusedSimpArgs false
namespace Go.Proofs.YtonkjhmkppeagaaGreatDoor.Pz
open Go.Proofs.Tryz
open Go.Lib (hid)
open Go.RowKit Go Go.Sort Ba Lx
abbrev tokV (t:Tok):Value:=.agg #[.int .i64 t.k,.string ⟨t.t.toArray⟩,.int .i64 t.n,.int .i64 (t.p:Int)]
abbrev zTokC:List Value:=[.int .i64 0,.string ⟨#[]⟩,.int .i64 0,.int .i64 0]
theorem zpA (s:Ps) (w:World) (B d:Nat) (h:PAt w B d s) :
 Calls Tryz.prog 143 #[.pointer (some ⟨B,0,none⟩)] w fun e w'=>e=.returned (tokV (peekP s))∧Below w.heap.size w w':=by
 obtain ⟨il,tl,hd,hn,sl,hb,ht⟩:=h;obtain ⟨ao,cap,rfl,hc1,hc2,ht⟩:=ht;have bw:=(Below.refl w.heap.size w).alloc (yG _) (.cells #[.int .i64 0,.string ⟨#[]⟩,.int .i64 0,.int .i64 0] 169);have R:=Box.new w zTokC 169;have hB:=hb.alloc (.cells #[.int .i64 0,.string ⟨#[]⟩,.int .i64 0,.int .i64 0] 169);by_cases he:s.e=0
 ·by_cases hi:s.i<s.T.length
  ·obtain ⟨t,hti⟩:∃ t,s.T[s.i]?=some t:=⟨_,yF hi⟩;have HP:Hid (peekP s=t):=zjH he hti;obtain ⟨g,rfl,g1,g2,g3⟩:=ht s.i t hti;obtain ⟨c0,c1,c2,c3⟩:=tok4 g3;replace c0:=(World.cell?_alloc_past (.cells #[.int .i64 0,.string ⟨#[]⟩,.int .i64 0,.int .i64 0] 169) _ _ g1).trans c0;replace c1:=(World.cell?_alloc_past (.cells #[.int .i64 0,.string ⟨#[]⟩,.int .i64 0,.int .i64 0] 169) _ _ g1).trans c1;replace c2:=(World.cell?_alloc_past (.cells #[.int .i64 0,.string ⟨#[]⟩,.int .i64 0,.int .i64 0] 169) _ _ g1).trans c2;replace c3:=(World.cell?_alloc_past (.cells #[.int .i64 0,.string ⟨#[]⟩,.int .i64 0,.int .i64 0] 169) _ _ g1).trans c3;rw[he]at hb hB;have HE:=hid he;clear he hti ht g3 hn hb;go_enter func143,ntmps143
   go_wp2_with fail
   generalize w.alloc (.cells #[.int .i64 0,.string ⟨#[]⟩,.int .i64 0,.int .i64 0] 169)=W1 at *
   obtain ⟨b0,b1,b2,b3,b4,b5,_⟩:=hB.six;obtain ⟨r0,r1,r2,r3⟩:=R.four';have hii:¬ s.T.length≤s.i:=by omega
   go_quiet (fail)
   go_wp2_with fail
   have R2:=R.drewN nq;have hB2:=hB.drewN nq;have bw2:=Below.drewN bw nq;replace c0:(W1.drewN nq).cell? ⟨g,s.i*4,none⟩=some (.int .i64 t.k):=c0;replace c1:(W1.drewN nq).cell? ⟨g,s.i*4+1,none⟩=some (.string ⟨t.t.toArray⟩):=c1;replace c2:(W1.drewN nq).cell? ⟨g,s.i*4+2,none⟩=some (.int .i64 t.n):=c2;replace c3:(W1.drewN nq).cell? ⟨g,s.i*4+3,none⟩=some (.int .i64 (t.p:Int)):=c3;clear b0 b1 b2 b3 b4 b5 r0 r1 r2 r3 R hB bw;generalize W1.drewN nq=W2 at *
   obtain ⟨b0,b1,b2,b3,b4,b5,_⟩:=hB2.six;obtain ⟨r0,r1,r2,r3⟩:=R2.four';have f0:=R2.fr 0 (by simp);have f1:=R2.fr 1 (by simp);have f2:=R2.fr 2 (by simp);have f3:=R2.fr 3 (by simp);go_region
   go_wp2_with fail
   have R3:=((((R2.put 0 (.int .i64 t.k)).put 1 (.string ⟨t.t.toArray⟩)).put 2 (.int .i64 t.n)).put 3 (.int .i64 (t.p:Int))).drew;obtain ⟨q0,q1,q2,q3⟩:=R3.four';refine bodyPost_ret (v:=tokV t) (by simp[results,results143,go_sem,q0,q1,q2,q3];try rfl) rfl ?_;rw[HP.out];exact ⟨rfl,zfl (zbS (zbS (zbS (zbS bw2 (yG _) 0 _) (yG _) 1 _) (yG _) 2 _) (yG _) 3 _)⟩
  ·have HP:Hid (peekP s=zTok):=zhI (by omega);rw[he]at hb hB;have HE:=hid he;clear he hn hb;go_enter func143,ntmps143
   go_wp2_with fail
   generalize w.alloc (.cells #[.int .i64 0,.string ⟨#[]⟩,.int .i64 0,.int .i64 0] 169)=W1 at *
   obtain ⟨b0,b1,b2,b3,b4,b5,_⟩:=hB.six;have hii:s.T.length≤s.i:=by omega
   clear hi il;go_quiet (fail)
   have R2:=R.drewN nq;have bw2:=Below.drewN bw nq;clear b0 b1 b2 b3 b4 b5 R hB bw;generalize W1.drewN nq=W2 at *
   obtain ⟨r0,r1,r2,r3⟩:=R2.four';have f0:=R2.fr 0 (by simp);have f1:=R2.fr 1 (by simp);have f2:=R2.fr 2 (by simp);have f3:=R2.fr 3 (by simp);go_wp2_with fail
   have R3:=((((R2.put 0 (.int .i64 0)).put 1 (.string ⟨#[]⟩)).put 2 (.int .i64 0)).put 3 (.int .i64 0));obtain ⟨q0,q1,q2,q3⟩:=R3.four';refine bodyPost_ret (v:=tokV zTok) (by simp[results,results143,go_sem,q0,q1,q2,q3,zTok];try rfl) rfl ?_;rw[HP.out];exact ⟨rfl,(zbS (zbS (zbS (zbS bw2 (yG _) 0 _) (yG _) 1 _) (yG _) 2 _) (yG _) 3 _)⟩
 ·have HP:Hid (peekP s=zTok):=zkF he;have hne:(s.e != 0)=true:=by simpa using he
  clear he hn hb;go_enter func143,ntmps143
  go_wp2_with fail
  generalize w.alloc (.cells #[.int .i64 0,.string ⟨#[]⟩,.int .i64 0,.int .i64 0] 169)=W1 at *
  obtain ⟨b0,b1,b2,b3,b4,b5,_⟩:=hB.six;go_quiet (fail)
  have R2:=R.drewN nq;have bw2:=Below.drewN bw nq;clear b0 b1 b2 b3 b4 b5 R hB bw;generalize W1.drewN nq=W2 at *
  obtain ⟨r0,r1,r2,r3⟩:=R2.four';have f0:=R2.fr 0 (by simp);have f1:=R2.fr 1 (by simp);have f2:=R2.fr 2 (by simp);have f3:=R2.fr 3 (by simp);go_wp2_with fail
  have R3:=((((R2.put 0 (.int .i64 0)).put 1 (.string ⟨#[]⟩)).put 2 (.int .i64 0)).put 3 (.int .i64 0));obtain ⟨q0,q1,q2,q3⟩:=R3.four';refine bodyPost_ret (v:=tokV zTok) (by simp[results,results143,go_sem,q0,q1,q2,q3,zTok];try rfl) rfl ?_;rw[HP.out];exact ⟨rfl,(zbS (zbS (zbS (zbS bw2 (yG _) 0 _) (yG _) 1 _) (yG _) 2 _) (yG _) 3 _)⟩
def GoTo (w:World) (B d:Nat) (s:Ps) (e:Ending) (w':World):Prop:=e=.returned (.tuple #[])∧Kept (fun b=>b=B) w w'∧PAt w' B d s
theorem zcc (s:Ps) (er:Int) (w:World) (B d:Nat) (h:PAt w B d s) :
 Calls Tryz.prog 78 #[.pointer (some ⟨B,0,none⟩),.int .i64 er] w (GoTo w B d (failP s er)):=by
 have HPA:=hid h;obtain ⟨il,tl,hd,hn,sl,hb,ht⟩:=h;have HHB:=hid hb;by_cases he:s.e=0
 ·have HT:=hid ht;obtain ⟨ao,cap,rfl,hc1,hc2,ht⟩:=ht;have HN:=hid hn;have KS:Hid (Kept (fun b=>b=B) w ((w.setCell ⟨B,4,none⟩ (.int .i64 er)).setCell ⟨B,5,none⟩ (.int .i64 (s.E:Int)))):=((Kept.refl (fun b=>b=B) w).set ⟨B,4,none⟩ (.inl rfl) _).set ⟨B,5,none⟩ (.inl rfl) _;have hB2:=(HHB.out.put 4 (.int .i64 er)).put 5 (.int .i64 (s.E:Int));have HE:=hid he;rw[he]at hb;obtain ⟨b0,b1,b2,b3,b4,b5,f1,f3,f4,f5⟩:=hb.six;by_cases hi:s.i<s.T.length
  ·obtain ⟨t,hti⟩:∃ t,s.T[s.i]?=some t:=⟨_,yF hi⟩;have HF:Hid (failP s er=⟨s.T,s.E,s.i,er,t.p⟩):=by show failP s er=_;unfold failP;rw[if_pos he,hti]
   obtain ⟨g,rfl,g1,g2,g3⟩:=ht s.i t hti;have c3:=(kcell KS.out g1 (by show ¬ g=B;omega)).trans (tok4 g3).2.2.2;clear he hti ht g3 hn hb;go_enter func78,ntmps78
   go_wp2_with fail
   generalize (w.setCell ⟨B,4,none⟩ (.int .i64 er)).setCell ⟨B,5,none⟩ (.int .i64 (s.E:Int))=W1 at *
   clear b0 b1 b2 b3 b4 b5 f1 f3 f4 f5;obtain ⟨b0,b1,b2,b3,b4,b5,f1,f3,f4,f5⟩:=hB2.six;go_quiet (fail)
   have KS2:=KS.out.drewN nq;replace hB2:=hB2.drewN nq;replace c3:(W1.drewN nq).cell? ⟨g,s.i*4+3,none⟩=some (.int .i64 (t.p:Int)):=c3;clear b0 b1 b2 b3 b4 b5 f1 f3 f4 f5 KS;go_wp2_with fail
   generalize W1.drewN nq=W2 at *
   obtain ⟨b0,b1,b2,b3,b4,b5,f1,f3,f4,f5⟩:=hB2.six;go_region
   go_wp2_with fail
   go_end0
   have KS3:=(KS2.set ⟨B,5,none⟩ (.inl rfl) (.int .i64 (t.p:Int))).drew;rw[HF.out];exact ⟨rfl,KS3,HPA.out.turn HT.out KS3 il hd (hB2.put 5 (.int .i64 (t.p:Int))).drew⟩
  ·have HF:Hid (failP s er=⟨s.T,s.E,s.i,er,s.E⟩):=by show failP s er=_;unfold failP;rw[if_pos he,List.getElem?_eq_none (by omega)]
   have hii:s.T.length≤s.i:=by omega
   clear he ht hn hb hi;go_enter func78,ntmps78
   go_wp2_with fail
   generalize (w.setCell ⟨B,4,none⟩ (.int .i64 er)).setCell ⟨B,5,none⟩ (.int .i64 (s.E:Int))=W1 at *
   clear b0 b1 b2 b3 b4 b5 f1 f3 f4 f5;obtain ⟨b0,b1,b2,b3,b4,b5,f1,f3,f4,f5⟩:=hB2.six;go_quiet (fail)
   have KS2:=KS.out.drewN nq;replace hB2:=hB2.drewN nq;clear b0 b1 b2 b3 b4 b5 f1 f3 f4 f5 KS;go_wp2_with fail
   go_end0
   rw[HF.out];exact ⟨rfl,KS2,HPA.out.turn HT.out KS2 il hd hB2⟩
 ·have HF:Hid (failP s er=s):=by show failP s er=s;unfold failP;rw[if_neg he]
  have hne:(s.e != 0)=true:=by simpa using he
  obtain ⟨b0,b1,b2,b3,b4,b5,f1,f3,f4,f5⟩:=hb.six;clear he hn hb;go_enter func78,ntmps78
  go_wp2_with fail
  go_end0
  rw[HF.out];exact ⟨rfl,Kept.refl _ _,HPA.out⟩
theorem zr7 (s:Ps) (x:Str):isP s x=decide (((peekP s).k=1∨(peekP s).k=4)∧(peekP s).t=x):=rfl
theorem zb0 (s:Ps) (t:Tok) (Y:ByteArray) (ht:peekP s=t) (hY:(⟨t.t.toArray⟩:ByteArray)=Y) (w:World) (B d:Nat) (h:PAt w B d s) :
 Calls Tryz.prog 143 #[.pointer (some ⟨B,0,none⟩)] w fun e w'=>e=.returned (.agg #[.int .i64 t.k,.string Y,.int .i64 t.n,.int .i64 (t.p:Int)])∧Below w.heap.size w w':=by
 have:=zpA s w B d h;rw[ht]at this;subst hY;exact this
theorem zeg {a b:Str}:(⟨a.toArray⟩:ByteArray)=⟨b.toArray⟩↔a=b:=⟨fun h=>by simpa using h,fun h=>by rw[h]⟩
theorem str_q {S T:ByteArray} {q:Bool} (h:S=T↔q=true):(S.toList == T.toList)=q:=by
 cases q with
 | true=>rw[h.2 rfl];simp
 | false =>
  cases e:(S.toList == T.toList) with
  | false=>rfl
  | true=>exact absurd (h.1 (by rw[beq_iff_eq,ByteArray.toList_eq,ByteArray.toList_eq]at e;exact Go.WideShapes.bytes_inj e)) (by decide)
theorem zbP (s:Ps) (x:Str) (b:Bool) (hx:isP s x=b) (w:World) (B d:Nat) (h:PAt w B d s) :
 Calls Tryz.prog 107 #[.pointer (some ⟨B,0,none⟩),.string ⟨x.toArray⟩] w fun e w'=>e=.returned (.bool b)∧Below w.heap.size w w':=by
 obtain ⟨X,hX⟩:∃ X:ByteArray,(⟨x.toArray⟩:ByteArray)=X:=⟨_,rfl⟩;obtain ⟨t,ht⟩:∃ t,peekP s=t:=⟨_,rfl⟩;obtain ⟨Y,hY⟩:∃ Y:ByteArray,(⟨t.t.toArray⟩:ByteArray)=Y:=⟨_,rfl⟩;have HPK:=hid (zb0 s t Y ht hY w B d h);obtain ⟨kk,hkk⟩:∃ q,t.k=q:=⟨_,rfl⟩;obtain ⟨q,hq⟩:∃ q,decide (t.t=x)=q:=⟨_,rfl⟩;have hxy:(Y.toList == X.toList)=q:=str_q (by rw[← hY,← hX,zeg,← hq,yL]);have hb:b=(decide (kk=1∨kk=4) && q):=by rw[← hx,zr7,ht,← hkk,← hq,Bool.decide_and]
 rw[hX];rw[hkk]at HPK;clear hX hY ht hx h hkk hq;by_cases h1:kk=1
 ·subst h1;have HB:Hid (q=b):=by rw[hb];exact (Bool.true_and q).symm
  clear hb;go_enter func107,ntmps107
  go_wp2_with (go_at_call 143;refine HPK.out.mono ?_;rintro e w1 ⟨rfl,hb⟩)
  go_ret
  exact ⟨zaT HB.out,hb.alloc hb.size _⟩
 by_cases h4:kk=4
 ·subst h4;have HB:Hid (q=b):=by rw[hb];exact (Bool.true_and q).symm
  clear hb h1;go_enter func107,ntmps107
  go_wp2_with (go_at_call 143;refine HPK.out.mono ?_;rintro e w1 ⟨rfl,hb⟩)
  go_ret
  exact ⟨zaT HB.out,hb.alloc hb.size _⟩
 ·have HB:Hid (false=b):=by rw[hb,yN (by rintro (h|h);exact h1 h;exact h4 h)];rfl
  have e1:(kk == 1)=false:=by simpa using h1
  have e4:(kk == 4)=false:=by simpa using h4
  clear hb h1 h4;go_enter func107,ntmps107
  go_wp2_with (go_at_call 143;refine HPK.out.mono ?_;rintro e w1 ⟨rfl,hb⟩)
  go_ret
  exact ⟨zaT HB.out,hb.alloc hb.size _⟩
def zdK (w:World) (B d:Nat) (b:Bool) (s:Ps) (e:Ending) (w':World):Prop:=e=.returned (.bool b)∧Kept (fun b=>b=B) w w'∧PAt w' B d s
theorem zbg (s:Ps) (x:Str) (hx:isP s x=false) (w:World) (B d:Nat) (h:PAt w B d s) :
 Calls Tryz.prog 88 #[.pointer (some ⟨B,0,none⟩),.string ⟨x.toArray⟩] w (zdK w B d false s):=by
 have HI:=hid (zbP s x false hx w B d h);have HPA:=hid h;clear h hx;go_enter func88,ntmps88
 go_wp2_with (go_at_call 107;refine HI.out.mono ?_;rintro e w1 ⟨rfl,hb⟩)
 go_ret
 exact ⟨rfl,Kept.of_below hb,HPA.out.below hb⟩
theorem zbO (s:Ps) (x:Str) (hx:isP s x=true) (w:World) (B d:Nat) (h:PAt w B d s) :
 Calls Tryz.prog 88 #[.pointer (some ⟨B,0,none⟩),.string ⟨x.toArray⟩] w (zdK w B d true (advP s)):=by
 have HI:=hid (zbP s x true hx w B d h);have hlt:=(zbU hx).2;have htl:=h.tl;have HPA:=hid h;clear h hx;go_enter func88,ntmps88
 go_wp2_with (go_at_call 107;refine HI.out.mono ?_;rintro e w1 ⟨rfl,hb⟩;have P1:=HPA.out.below hb;obtain ⟨_,_,hd,_,sl,hbx,ht⟩:=P1;obtain ⟨b0,b1,b2,b3,b4,b5,f1,f3,f4,f5⟩:=hbx.six)
 have HT:=hid ht;go_ret
 have K1:=(Kept.of_below (S:=fun b=>b=B) hb).set ⟨B,1,none⟩ (.inl rfl) (.int .i64 ((s.i+1:Nat):Int));have K2:=(Kept.refl (fun b=>b=B) w1).set ⟨B,1,none⟩ (.inl rfl) (.int .i64 ((s.i+1:Nat):Int));exact ⟨rfl,K1,(HPA.out.below hb).turn HT.out K2 (by omega) hd (hbx.put 1 _)⟩
theorem zar (s:Ps) (x:Str) (w:World) (B d:Nat) (h:PAt w B d s) :
 Calls Tryz.prog 94 #[.pointer (some ⟨B,0,none⟩),.string ⟨x.toArray⟩] w (GoTo w B d (wantP x s)):=by
 cases hx:isP s x with
 | true =>
  have HW:Hid (wantP x s=advP s):=by show wantP x s=_;unfold wantP;rw[if_pos hx]
  have HI:=hid (zbO s x hx w B d h);clear h hx;go_enter func94,ntmps94
  go_wp2_with (go_at_call 88;refine HI.out.mono ?_;rintro e w1 ⟨rfl,hK,hP⟩)
  go_end0
  rw[HW.out];exact ⟨rfl,hK,hP⟩
 | false =>
  have HW:Hid (wantP x s=failP s 51):=by show wantP x s=_;unfold wantP;rw[if_neg (by rw[hx];decide)]
  have HI:=hid (zbg s x hx w B d h);clear h hx;go_enter func94,ntmps94
  go_wp2_with (first|(go_at_call 88;refine HI.out.mono ?_;rintro e w1 ⟨rfl,hK,hP⟩)|(go_at_call 78;refine (zcc s 51 w1 B d hP).mono ?_;rintro e w2 ⟨rfl,hK2,hP2⟩))
  go_end0
  rw[HW.out];exact ⟨rfl,hK.trans hK2,hP2⟩
def TokTo (w:World) (B d:Nat) (r:Tok×Ps) (e:Ending) (w':World):Prop:=e=.returned (tokV r.1)∧Kept (fun b=>b=B) w w'∧PAt w' B d r.2
theorem zcn (s:Ps) (k:Int) (hk:k≠0) (w:World) (B d:Nat) (h:PAt w B d s) :
 Calls Tryz.prog 119 #[.pointer (some ⟨B,0,none⟩),.int .i64 k] w (TokTo w B d (zae k s)):=by
 obtain ⟨t,ht⟩:∃ t,peekP s=t:=⟨_,rfl⟩;obtain ⟨Y,hY⟩:∃ Y:ByteArray,(⟨t.t.toArray⟩:ByteArray)=Y:=⟨_,rfl⟩;have hlt:=h.lt;have HPA:=hid h;obtain ⟨il,tl,hd,_,sl,hb0,ht0⟩:=h;have HT0:=hid ht0;have bw:=(Below.refl w.heap.size w).alloc (yG _) (.cells #[.int .i64 0,.string ⟨#[]⟩,.int .i64 0,.int .i64 0] 169);have R:=Box.new w zTokC 169;have hB:=hb0.alloc (.cells #[.int .i64 0,.string ⟨#[]⟩,.int .i64 0,.int .i64 0] 169);have HPK:=hid (fun W hW=>zb0 s t Y ht hY W B d hW);by_cases hkk:t.k=k
 ·have hi:=(zbN (s:=s) (by rw[ht,hkk];exact hk)).2.1;have HW:Hid (zae k s=(t,advP s)):=by show zae k s=_;unfold zae;rw[ht,if_pos hkk]
  have HV:Hid (Value.agg #[Value.int IntKind.i64 k,Value.string Y,Value.int IntKind.i64 t.n,Value.int IntKind.i64 (t.p:Int)]=tokV t):=by show _=_;rw[← hkk,← hY]
  rw[hkk]at HPK;clear hkk ht hY hk ht0 hb0;go_enter func119,ntmps119
  go_wp2_with fail
  generalize w.alloc (.cells #[.int .i64 0,.string ⟨#[]⟩,.int .i64 0,.int .i64 0] 169)=W1 at *
  go_wp2_with (go_at_call 143;refine (HPK.out _ (HPA.out.below bw)).mono ?_;rintro e w1 ⟨rfl,hb⟩;have hbx:=hB.next hb;obtain ⟨b0,b1,b2,b3,b4,b5,f1,f3,f4,f5⟩:=hbx.six;have hz:=hbx.lt;have R1:=R.next hb;have hz2:=R1.lt;obtain ⟨r0,r1,r2,r3⟩:=R1.four';have q0:=R1.fr 0 (by simp);have q1:=R1.fr 1 (by simp);have q2:=R1.fr 2 (by simp);have q3:=R1.fr 3 (by simp))
  have R2:=(((((R1.other (C:=B) (by omega) 1 (.int .i64 ((s.i:Int)+1))).put 0 (.int .i64 k)).put 1 (.string Y)).put 2 (.int .i64 t.n)).put 3 (.int .i64 (t.p:Int))).alloc (.cells #[.int .i64 k,.string Y,.int .i64 t.n,.int .i64 (t.p:Int)] 169);have P2:=(((((hbx.put 1 (.int .i64 ((s.i:Int)+1))).other (C:=w.heap.size) (by omega) 0 (.int .i64 k)).other (C:=w.heap.size) (by omega) 1 (.string Y)).other (C:=w.heap.size) (by omega) 2 (.int .i64 t.n)).other (C:=w.heap.size) (by omega) 3 (.int .i64 (t.p:Int))).alloc (.cells #[.int .i64 k,.string Y,.int .i64 t.n,.int .i64 (t.p:Int)] 169)
  have K2:=((((((((Kept.of_below (S:=fun b=>b=B) bw).behind hb).set ⟨B,1,none⟩ (.inl rfl) (.int .i64 ((s.i:Int)+1))).set ⟨w.heap.size,0,none⟩ (.inr (yG _)) (.int .i64 k)).set ⟨w.heap.size,1,none⟩ (.inr (yG _)) (.string Y)).set ⟨w.heap.size,2,none⟩ (.inr (yG _)) (.int .i64 t.n)).set ⟨w.heap.size,3,none⟩ (.inr (yG _)) (.int .i64 (t.p:Int)))).alloc (.cells #[.int .i64 k,.string Y,.int .i64 t.n,.int .i64 (t.p:Int)] 169);obtain ⟨p0,p1,p2,p3⟩:=R2.four';refine bodyPost_ret (by simp[results,results119,go_sem,p0,p1,p2,p3];try rfl) rfl ?_;rw[HW.out];exact ⟨congrArg Ending.returned HV.out,K2,HPA.out.turn HT0.out K2 (by omega) hd P2⟩
 ·have HW:Hid (zae k s=(zTok,failP s 51)):=by show zae k s=_;unfold zae;rw[ht,if_neg hkk]
  have hne:(t.k != k)=true:=by simpa using hkk
  obtain ⟨kk,hk2⟩:∃ q,t.k=q:=⟨_,rfl⟩;rw[hk2]at HPK hne;clear hkk ht hY hk ht0 hb0 hB hk2;go_enter func119,ntmps119
  go_wp2_with fail
  generalize w.alloc (.cells #[.int .i64 0,.string ⟨#[]⟩,.int .i64 0,.int .i64 0] 169)=W1 at *
  go_wp2_with (first|(go_at_call 143;refine (HPK.out _ (HPA.out.below bw)).mono ?_;rintro e w1 ⟨rfl,hb⟩;have P1:=((HPA.out.below bw).below hb).below ((Below.refl w1.heap.size w1).alloc (yG _) (.cells #[.int .i64 kk,.string Y,.int .i64 t.n,.int .i64 (t.p:Int)] 169));have R1:=(R.next hb).alloc (.cells #[.int .i64 kk,.string Y,.int .i64 t.n,.int .i64 (t.p:Int)] 169))|(go_at_call 78;refine (zcc s 51 _ B d P1).mono ?_;rintro e w2 ⟨rfl,hK2,hP2⟩;have R2:=R1.kept hK2 (by show ¬ w.heap.size=B;omega);obtain ⟨r0,r1,r2,r3⟩:=R2.four';have q0:=R2.fr 0 (by simp);have q1:=R2.fr 1 (by simp);have q2:=R2.fr 2 (by simp);have q3:=R2.fr 3 (by simp)))
  have R3:=((((R2.put 0 (.int .i64 0)).put 1 (.string ⟨#[]⟩)).put 2 (.int .i64 0)).put 3 (.int .i64 0));obtain ⟨p0,p1,p2,p3⟩:=R3.four';have K2:=((((((((Kept.of_below (S:=fun b=>b=B) bw).behind hb).alloc (.cells #[.int .i64 kk,.string Y,.int .i64 t.n,.int .i64 (t.p:Int)] 169)).trans hK2).set ⟨w.heap.size,0,none⟩ (.inr (yG _)) (.int .i64 0)).set ⟨w.heap.size,1,none⟩ (.inr (yG _)) (.string ⟨#[]⟩)).set ⟨w.heap.size,2,none⟩ (.inr (yG _)) (.int .i64 0)).set ⟨w.heap.size,3,none⟩ (.inr (yG _)) (.int .i64 0));refine bodyPost_ret (by simp[results,results119,go_sem,p0,p1,p2,p3];try rfl) rfl ?_;rw[HW.out];refine ⟨rfl,K2,?_⟩
  have KS:Kept (fun b=>b=w.heap.size) w2 ((((w2.setCell ⟨w.heap.size,0,none⟩ (.int .i64 0)).setCell ⟨w.heap.size,1,none⟩ (.string ⟨#[]⟩)).setCell ⟨w.heap.size,2,none⟩ (.int .i64 0)).setCell ⟨w.heap.size,3,none⟩ (.int .i64 0)) :=
   ((((Kept.refl (fun b=>b=w.heap.size) w2).set ⟨w.heap.size,0,none⟩ (.inl rfl) _).set ⟨w.heap.size,1,none⟩ (.inl rfl) _).set ⟨w.heap.size,2,none⟩ (.inl rfl) _).set ⟨w.heap.size,3,none⟩ (.inl rfl) _
  exact hP2.kept KS fun k x=>by have x':k=w.heap.size:=x;omega
theorem zhg (k n p:Int) (Y:ByteArray) (W:World):(Instr.field 169 (.agg #[.int .i64 k,.string Y,.int .i64 n,.int .i64 p]) 1).run Tryz.prog W=.ok (.string Y) W:=by kernel_rfl
theorem zcT (k n p:Int) (Y:ByteArray) (W:World):(Instr.field 169 (.agg #[.int .i64 k,.string Y,.int .i64 n,.int .i64 p]) 2).run Tryz.prog W=.ok (.int .i64 n) W:=by kernel_rfl
theorem name_any (s:Ps) (w:World) (B d:Nat) (h:PAt w B d s) :
 Calls Tryz.prog 109 #[.pointer (some ⟨B,0,none⟩)] w fun e w'=>e=.returned (.string ⟨(nameP s).1.toArray⟩)∧Kept (fun b=>b=B) w w'∧PAt w' B d (nameP s).2:=by
 have hT:=zcn s 1 (by decide) w B d h;obtain ⟨r,hr⟩:∃ r,zae 1 s=r:=⟨_,rfl⟩;have HN:Hid (nameP s=(r.1.t,r.2)):=by show nameP s=_;unfold nameP;rw[hr]
 rw[hr]at hT;obtain ⟨t,s'⟩:=r;have HT:=hid hT;have hf:=fun W=>zhg t.k t.n t.p ⟨t.t.toArray⟩ W
 clear h hT hr;go_enter func109,ntmps109
 go_wp2_with (go_at_call 119;refine HT.out.mono ?_;rintro e w1 ⟨rfl,hK,hP⟩;dsimp only[tokV])
 go_ret
 rw[HN.out];exact ⟨rfl,hK,hP⟩
def OpsAt (W:World) (B:Nat) (v:Value) (ws:List Str):Prop :=
 ∃ g cap,v=.slice (some ⟨g,0,none⟩) ws.length cap∧ws.length≤cap∧cap≤maxLen∧B<g∧g<W.heap.size∧∀ i x,ws[i]?=some x→W.cell? ⟨g,i,none⟩=some (.string ⟨x.toArray⟩)
theorem OpsAt.kept {W W':World} {B:Nat} {v:Value} {ws:List Str} (h:OpsAt W B v ws) (g:Kept (fun b=>b=B) W W'):OpsAt W' B v ws:=by
 obtain ⟨b,cap,h1,h2,h3,h4,h5,h6⟩:=h;exact ⟨b,cap,h1,h2,h3,h4,Nat.lt_of_lt_of_le h5 g.size,fun i x hx=>(kcell g h5 (by show ¬ b=B;omega)).trans (h6 i x hx)⟩
theorem zfs {ws:List Str} {s:Ps} (h:zaD ws s=none):∀ (i:Nat) (x:Str),ws[i]?=some x→isP s x=false:=by
 induction ws with
 | nil=>intro i x hx;simp at hx
 | cons o r ih =>
  unfold zaD at h
  cases ho:isP s o with
  | true=>rw[if_pos ho]at h;cases h
  | false =>
   rw[if_neg (by rw[ho];decide)]at h;have hr:zaD r s=none:=by
    cases hr:zaD r s with
    | none=>rfl
    | some j=>rw[hr]at h;cases h
   intro i x hx
   cases i with
   | zero=>simp at hx;rw[← hx];exact ho
   | succ i=>exact ih hr i x (by simpa using hx)
theorem zbv {ws:List Str} {s:Ps} {k:Nat} (h:zaD ws s=some k):k<ws.length∧∀ (i:Nat) (x:Str),i<k→ws[i]?=some x→isP s x=false:=by
 induction ws generalizing k with
 | nil=>cases h
 | cons o r ih =>
  unfold zaD at h
  cases ho:isP s o with
  | true =>
   rw[if_pos ho]at h;obtain rfl:0=k:=by simpa using h
   exact ⟨by simp,fun i x hi=>by omega⟩
  | false =>
   rw[if_neg (by rw[ho];decide)]at h
   cases hr:zaD r s with
   | none=>rw[hr]at h;cases h
   | some j =>
    rw[hr]at h;obtain rfl:j+1=k:=by simpa using h
    obtain ⟨h1,h2⟩:=ih hr;refine ⟨by simpa using h1,fun i x hi hx=>?_⟩
    cases i with
    | zero=>simp at hx;rw[← hx];exact ho
    | succ i=>exact h2 i x (by omega) (by simpa using hx)
theorem zch:∀ (ws:List Str) (n:Nat) (s:Ps),zeq n ws s=match zaD ws s with|none=>(0,failP s 51)|some k=>(n+k,advP s)
 | [],n,s=>rfl
 | w::ws,n,s=>by
  unfold zeq zaD
  cases ho:isP s w with
  | true=>rfl
  | false =>
   rw[if_neg (by decide),if_neg (by decide),zch ws (n+1) s]
   cases zaD ws s with
   | none=>rfl
   | some k=>simp only[Option.map_some];rw[show n+1+k=n+(k+1) by omega]
def OneTo (w:World) (B d:Nat) (r:Nat×Ps) (e:Ending) (w':World):Prop:=e=.returned (.int .i64 (r.1:Int))∧Kept (fun b=>b=B) w w'∧PAt w' B d r.2
theorem zaY (ws:List Str) (s:Ps) (v:Value) (w:World) (B d:Nat) (hl:ws.length≤100) (h:PAt w B d s) (hv:OpsAt w B v ws) :
 Calls Tryz.prog 90 #[.pointer (some ⟨B,0,none⟩),v] w (OneTo w B d (oneP ws s)):=by
 have HPA:=hid h;have HOA:=hid hv;have HR:Hid (oneP ws s=match zaD ws s with|none=>(0,failP s 51)|some k=>(1+k,advP s)):=zch ws 1 s;have HN:=hid (fun h=>zfs (ws:=ws) (s:=s) h);have HS:=hid (fun k h=>zbv (ws:=ws) (s:=s) (k:=k) h);have HI:=hid (fun k h=>zbA (ops:=ws) (s:=s) (k:=k) h);obtain ⟨g,cap,rfl,h2,h3,h4,h5,h6⟩:=hv;have H6:=hid h6;obtain ⟨n,hn⟩:∃ n,ws.length=n:=⟨_,rfl⟩;rw[hn]at hl h2 HOA ⊢;have HL:=hid hn;clear h hn h6;obtain ⟨f,hf⟩:∃ f,zaD ws s=f:=⟨_,rfl⟩;rw[hf]at HN HS HI HR;go_enter func90,ntmps90
 go_wp2_with fail
 cases f with
 | none =>
  have HNO:=hid (HN.out rfl);clear HN HS HI hf;go_loopw [9] (fun i wr=>∃ k:Nat,k≤n∧i=.int .i64 k∧Hid (Kept (fun b=>b=B) w wr)∧Hid (PAt wr B d s)) (fun i _=>n-(intOf i).toNat)
  case atStart=>exact ⟨0,yS _,rfl,Kept.refl _ _,HPA.out⟩
  case round =>
   obtain ⟨k,hk,rfl,HK,HP⟩:=hrel;by_cases hlt:k<n
   ·obtain ⟨x,hx⟩:∃ x,ws[k]?=some x:=⟨_,yF (by rw[HL.out];exact hlt)⟩;have c0:=(kcell HK.out h5 (by show ¬ g=B;omega)).trans (H6.out k x hx);have hno:=hid (HNO.out k x hx);clear hx;go_wp2_with (go_at_call 88;refine (zbg s x hno.out _ B d HP.out).mono ?_;rintro e w1 ⟨rfl,hK1,hP1⟩)
    go_roundw
    case rel=>exact ⟨k+1,by omega,by go_num,HK.out.trans hK1,hP1⟩
    case measure=>simp[intOf];omega
   ·go_wp2_with (go_at_call 78;refine (zcc s 51 _ B d HP.out).mono ?_;rintro e w1 ⟨rfl,hK1,hP1⟩)
    go_ret
    rw[HR.out];exact ⟨rfl,HK.out.trans hK1,hP1⟩
 | some j =>
  obtain ⟨o,hoj,hoy⟩:=HI.out j rfl;obtain ⟨hjn,hjf⟩:=HS.out j rfl;rw[HL.out]at hjn;have HOJ:=hid hoj;have HOY:=hid hoy;have HJF:=hid hjf;clear HN HS HI hf hoj hoy hjf;go_loopw [9] (fun i wr=>∃ k:Nat,k≤j∧i=.int .i64 k∧Hid (Kept (fun b=>b=B) w wr)∧Hid (PAt wr B d s)) (fun i _=>n-(intOf i).toNat)
  case atStart=>exact ⟨0,yS _,rfl,Kept.refl _ _,HPA.out⟩
  case round =>
   obtain ⟨k,hk,rfl,HK,HP⟩:=hrel;have hkn:k<n:=by omega
   by_cases hlt:k<j
   ·obtain ⟨x,hx⟩:∃ x,ws[k]?=some x:=⟨_,yF (by rw[HL.out];exact hkn)⟩;have c0:=(kcell HK.out h5 (by show ¬ g=B;omega)).trans (H6.out k x hx);have hno:=hid (HJF.out k x hlt hx);clear hx;go_wp2_with (go_at_call 88;refine (zbg s x hno.out _ B d HP.out).mono ?_;rintro e w1 ⟨rfl,hK1,hP1⟩)
    go_roundw
    case rel=>exact ⟨k+1,by omega,by go_num,HK.out.trans hK1,hP1⟩
    case measure=>simp[intOf];omega
   ·obtain rfl:k=j:=by omega
    have c0:=(kcell HK.out h5 (by show ¬ g=B;omega)).trans (H6.out k o HOJ.out);go_wp2_with (go_at_call 88;refine (zbO s o HOY.out _ B d HP.out).mono ?_;rintro e w1 ⟨rfl,hK1,hP1⟩)
    go_ret
    rw[HR.out];exact ⟨zrF (by push_cast;omega),HK.out.trans hK1,hP1⟩
def zgA (w:World) (B d:Nat) (f:Option Nat) (s:Ps) (e:Ending) (w':World):Prop:=e=.returned (.int .i64 (match f with|none=>-1|some k=>(k:Int)))∧Kept (fun b=>b=B) w w'∧PAt w' B d (match f with|none=>s|some _=>advP s)
theorem zeU (ws:List Str) (s:Ps) (f:Option Nat) (hf:zaD ws s=f) (v:Value) (w:World) (B d:Nat) (hl:ws.length≤100) (h:PAt w B d s) (hv:OpsAt w B v ws) :
 Calls Tryz.prog 139 #[v,.func (.func 88) #[.pointer (some ⟨B,0,none⟩)] #[]] w (zgA w B d f s):=by
 have HPA:=hid h;have HOA:=hid hv;have HN:=hid (fun h=>zfs (ws:=ws) (s:=s) h);have HS:=hid (fun k h=>zbv (ws:=ws) (s:=s) (k:=k) h);have HI:=hid (fun k h=>zbA (ops:=ws) (s:=s) (k:=k) h);obtain ⟨g,cap,rfl,h2,h3,h4,h5,h6⟩:=hv;have H6:=hid h6;obtain ⟨n,hn⟩:∃ n,ws.length=n:=⟨_,rfl⟩;rw[hn]at hl h2 HOA ⊢;have HL:=hid hn;clear h hn h6;rw[hf]at HN HS HI;go_enter func139,ntmps139
 go_wp2_with fail
 cases f with
 | none =>
  have HNO:=hid (HN.out rfl);clear HN HS HI hf;go_loopw [8] (fun i wr=>∃ k:Nat,k≤n∧i=.int .i64 k∧Hid (Kept (fun b=>b=B) w wr)∧Hid (PAt wr B d s)) (fun i _=>n-(intOf i).toNat)
  case atStart=>exact ⟨0,yS _,rfl,Kept.refl _ _,HPA.out⟩
  case round =>
   obtain ⟨k,hk,rfl,HK,HP⟩:=hrel;by_cases hlt:k<n
   ·obtain ⟨x,hx⟩:∃ x,ws[k]?=some x:=⟨_,yF (by rw[HL.out];exact hlt)⟩;have c0:=(kcell HK.out h5 (by show ¬ g=B;omega)).trans (H6.out k x hx);have hno:=hid (HNO.out k x hx);clear hx;go_wp2_with (go_at_call 88;refine (zbg s x hno.out _ B d HP.out).mono ?_;rintro e w1 ⟨rfl,hK1,hP1⟩)
    go_roundw
    case rel=>exact ⟨k+1,by omega,by go_num,HK.out.trans hK1,hP1⟩
    case measure=>simp[intOf];omega
   ·go_wp2_with fail
    go_ret
    exact ⟨rfl,HK.out,HP.out⟩
 | some j =>
  obtain ⟨o,hoj,hoy⟩:=HI.out j rfl;obtain ⟨hjn,hjf⟩:=HS.out j rfl;rw[HL.out]at hjn;have HOJ:=hid hoj;have HOY:=hid hoy;have HJF:=hid hjf;clear HN HS HI hf hoj hoy hjf;go_loopw [8] (fun i wr=>∃ k:Nat,k≤j∧i=.int .i64 k∧Hid (Kept (fun b=>b=B) w wr)∧Hid (PAt wr B d s)) (fun i _=>n-(intOf i).toNat)
  case atStart=>exact ⟨0,yS _,rfl,Kept.refl _ _,HPA.out⟩
  case round =>
   obtain ⟨k,hk,rfl,HK,HP⟩:=hrel;have hkn:k<n:=by omega
   by_cases hlt:k<j
   ·obtain ⟨x,hx⟩:∃ x,ws[k]?=some x:=⟨_,yF (by rw[HL.out];exact hkn)⟩;have c0:=(kcell HK.out h5 (by show ¬ g=B;omega)).trans (H6.out k x hx);have hno:=hid (HJF.out k x hlt hx);clear hx;go_wp2_with (go_at_call 88;refine (zbg s x hno.out _ B d HP.out).mono ?_;rintro e w1 ⟨rfl,hK1,hP1⟩)
    go_roundw
    case rel=>exact ⟨k+1,by omega,by go_num,HK.out.trans hK1,hP1⟩
    case measure=>simp[intOf];omega
   ·obtain rfl:k=j:=by omega
    have c0:=(kcell HK.out h5 (by show ¬ g=B;omega)).trans (H6.out k o HOJ.out);go_wp2_with (go_at_call 88;refine (zbO s o HOY.out _ B d HP.out).mono ?_;rintro e w1 ⟨rfl,hK1,hP1⟩)
    go_ret
    exact ⟨rfl,HK.out.trans hK1,hP1⟩
theorem zaN (W:World) (ok:Nat→Prop):XArgs W ok (.slice none 0 0) []:=by unfold XArgs;rw[exDs];exact Rep.nil W ok 7
def ze2 (w:World) (ok:Nat→Prop) (x:Ex) (e:Ending) (w':World):Prop :=
 ∃ ao cap,e=.returned (exV x (.slice ao x.xs.length cap))∧XArgs w' (fun b=>ok b∨w.heap.size≤b) (.slice ao x.xs.length cap) x.xs∧Below w.heap.size w w'
theorem zd0 (k n:Int) (Y:Str) (w:World) (ok:Nat→Prop) :
 Calls Tryz.prog 26 #[.agg #[.int .i64 k,.int .i64 n,.string ⟨Y.toArray⟩]] w (ze2 w ok (zam ⟨k,n,Y⟩)):=by
 obtain ⟨X,hX⟩:∃ X:ByteArray,(⟨Y.toArray⟩:ByteArray)=X:=⟨_,rfl⟩;rw[hX];have HX:Hid (Value.agg #[.int .i64 2,.string ⟨#[]⟩,.int .i64 k,.int .i64 n,.string X,.string ⟨#[]⟩,.slice none 0 0]=exV (zam ⟨k,n,Y⟩) (.slice none 0 0)):=by show _=_;rw[← hX];rfl
 clear hX;go_enter func26,ntmps26
 go_wp2_with fail
 go_returns
 exact ⟨none,0,congrArg Ending.returned HX.out,zaN _ _,by go_grown⟩
theorem zhm (Y:Str) (w:World) (ok:Nat→Prop) :
 Calls Tryz.prog 25 #[.string ⟨Y.toArray⟩] w (ze2 w ok (zax Y)):=by
 obtain ⟨X,hX⟩:∃ X:ByteArray,(⟨Y.toArray⟩:ByteArray)=X:=⟨_,rfl⟩;rw[hX];have HX:Hid (Value.agg #[.int .i64 1,.string X,.int .i64 0,.int .i64 0,.string ⟨#[]⟩,.string ⟨#[]⟩,.slice none 0 0]=exV (zax Y) (.slice none 0 0)):=by show _=_;rw[← hX];rfl
 clear hX;go_enter func25,ntmps25
 go_wp2_with fail
 go_returns
 exact ⟨none,0,congrArg Ending.returned HX.out,zaN _ _,by go_grown⟩
theorem zoK {V:World} {ok ok':Nat→Prop} {x:Ex} {sl:Value} {t:TypeId} (hA:XArgs V ok sl x.xs) (h1:∀ b,ok b→ok' b) (h2:ok' V.heap.size) :
 XArgs (V.alloc (.cells (exC x sl).toArray t)) ok' (.slice (some ⟨V.heap.size,0,none⟩) 1 1) [x]:=by
 unfold XArgs;rw[exDs,exDs];refine Rep.lit (cells:=[exC x sl]) (ok:=ok) rfl (by simp) (by simp) (fun i r cs hr hc=>?_) h1 h2;match i,hr,hc with
 | 0,hr,hc =>
  simp only[List.getElem?_cons_zero,Option.some.injEq]at hr hc;subst hr hc;exact ⟨zbk x,zbC hA⟩
theorem zoJ {V:World} {ok ok':Nat→Prop} {x y:Ex} {sl sm:Value} {t:TypeId} (hA:XArgs V ok sl x.xs) (hB:XArgs V ok sm y.xs) (h1:∀ b,ok b→ok' b) (h2:ok' V.heap.size) :
 XArgs (V.alloc (.cells (exC x sl++exC y sm).toArray t)) ok' (.slice (some ⟨V.heap.size,0,none⟩) 2 2) [x,y]:=by
 unfold XArgs;rw[exDs,exDs,exDs];refine Rep.lit (cells:=[exC x sl,exC y sm]) (ok:=ok) rfl (by simp) (by simp) (fun i r cs hr hc=>?_) h1 h2;match i,hr,hc with
 | 0,hr,hc =>
  simp only[List.getElem?_cons_zero,Option.some.injEq]at hr hc;subst hr hc;exact ⟨zbk x,zbC hA⟩
 | 1,hr,hc =>
  simp only[List.getElem?_cons_succ,List.getElem?_cons_zero,Option.some.injEq]at hr hc;subst hr hc;exact ⟨zbk y,zbC hB⟩
theorem zfV (op:Str) (x:Ex) (sl:Value) (w:World) (ok:Nat→Prop) (hA:XArgs w ok sl x.xs) :
 Calls Tryz.prog 157 #[.string ⟨op.toArray⟩,exV x sl] w (ze2 w ok (zat op x)):=by
 have HA:=hid hA;clear hA;go_enter func157,ntmps157
 go_wp2_with fail
 go_returns
 refine ⟨_,_,rfl,?_,by go_grown⟩;have h2:=(HA.out.kept (S:=fun _=>False) (Kept.of_below (((Below.refl _ w).alloc (yG _) (.cells (exC x sl).toArray 27)).alloc (by simp) (.cells #[Value.int .i64 3,.string ⟨#[]⟩,.int .i64 0,.int .i64 0,.string ⟨#[]⟩,.string ⟨op.toArray⟩,.slice (some ⟨w.heap.size+1+1,0,none⟩) 1 1] 27))) (fun _ _ _ h=>h));have h3:=zoK (t:=27) (ok':=fun b=>ok b∨w.heap.size≤b) h2 (fun _ h=>.inl h) (.inr (by simp;omega));simp only[World.size_alloc]at h3;exact h3
theorem zho (op:Str) (x y:Ex) (sl sm:Value) (w:World) (ok:Nat→Prop) (hA:XArgs w ok sl x.xs) (hB:XArgs w ok sm y.xs) :
 Calls Tryz.prog 140 #[.string ⟨op.toArray⟩,exV x sl,exV y sm] w (ze2 w ok (zaj op x y)):=by
 have HA:=hid hA;have HB:=hid hB;clear hA hB;go_enter func140,ntmps140
 go_wp2_with fail
 go_returns
 refine ⟨_,_,rfl,?_,by go_grown⟩;have hk:Kept (fun _=>False) w (((w.alloc (.cells (exC x sl).toArray 27)).alloc (.cells (exC y sm).toArray 27)).alloc (.cells #[Value.int .i64 4,.string ⟨#[]⟩,.int .i64 0,.int .i64 0,.string ⟨#[]⟩,.string ⟨op.toArray⟩,.slice (some ⟨w.heap.size+1+1+1,0,none⟩) 2 2] 27)) :=
  Kept.of_below ((((Below.refl _ w).alloc (yG _) _).alloc (by simp) _).alloc (by simp;omega) _)
 have h3:=zoJ (t:=27) (ok':=fun b=>ok b∨w.heap.size≤b) (HA.out.kept hk (fun _ _ _ h=>h)) (HB.out.kept hk (fun _ _ _ h=>h)) (fun _ h=>.inl h) (.inr (by simp;omega));simp only[World.size_alloc]at h3;exact h3
end Go.Proofs.YtonkjhmkppeagaaGreatDoor.Pz
namespace Go.Proofs.YtonkjhmkppeagaaGreatDoor.Pz
open Go.Proofs.Tryz
open Go.Lib (hid)
open Go.RowKit Go Ba Lx
def Pl.k:Pl→Int|.mk k _ _ _ _ _ _ _ _ _=>k
def Pl.nm:Pl→Str|.mk _ n _ _ _ _ _ _ _ _=>n
def Pl.xs:Pl→List Pl|.mk _ _ a _ _ _ _ _ _ _=>a
def Pl.cond:Pl→Ex|.mk _ _ _ c _ _ _ _ _ _=>c
def Pl.names:Pl→List Str|.mk _ _ _ _ a _ _ _ _ _=>a
def Pl.exprs:Pl→List Ex|.mk _ _ _ _ _ a _ _ _ _=>a
def Pl.on:Pl→List (Str×Str)|.mk _ _ _ _ _ _ a _ _ _=>a
def Pl.aggs:Pl→List (Str×Str×Str)|.mk _ _ _ _ _ _ _ a _ _=>a
def Pl.ord:Pl→List (Str×Bool)|.mk _ _ _ _ _ _ _ _ a _=>a
def Pl.cnt:Pl→Int|.mk _ _ _ _ _ _ _ _ _ c=>c
abbrev plC (x:Pl) (s0 s1 s2 s3 s4 s5 s6:Value):List Value :=
 [.int .i64 x.k,.string ⟨x.nm.toArray⟩,s0,.int .i64 x.cond.k,.string ⟨x.cond.nm.toArray⟩,.int .i64 x.cond.v.k,.int .i64 x.cond.v.n,.string ⟨x.cond.v.t.toArray⟩,.string ⟨x.cond.op.toArray⟩,s1,s2,s3,s4,s5,s6,.int .i64 x.cnt]
theorem ziF (x:Pl):plD x=[dI x.k,dS x.nm,.sl 16 (plDs x.xs),dI x.cond.k,dS x.cond.nm,dI x.cond.v.k,dI x.cond.v.n,dS x.cond.v.t,dS x.cond.op,.sl 7 (exDs x.cond.xs),.sl 1 (x.names.map strD),.sl 7 (exDs x.exprs),.sl 2 (x.on.map pairD),.sl 3 (x.aggs.map aggD),.sl 2 (x.ord.map ordD),dI x.cnt]:=by
 cases x with
 | mk k nm xs cond names exprs on aggs ord cnt=>rw[plD,zi6];rfl
structure PlRep (W:World) (ok:Nat→Prop) (x:Pl) (s0 s1 s2 s3 s4 s5 s6:Value):Prop where
 args:Rep W ok (.sl 16 (plDs x.xs)) s0
 cond:Rep W ok (.sl 7 (exDs x.cond.xs)) s1
 names:Rep W ok (.sl 1 (x.names.map strD)) s2
 exprs:Rep W ok (.sl 7 (exDs x.exprs)) s3
 on:Rep W ok (.sl 2 (x.on.map pairD)) s4
 aggs:Rep W ok (.sl 3 (x.aggs.map aggD)) s5
 ord:Rep W ok (.sl 2 (x.ord.map ordD)) s6
theorem zb6 {ok:Nat→Prop} {W:World} {x:Pl} {s0 s1 s2 s3 s4 s5 s6:Value} (h:PlRep W ok x s0 s1 s2 s3 s4 s5 s6):Row W ok (plD x) (plC x s0 s1 s2 s3 s4 s5 s6):=by
 rw[ziF];exact ((((((((((((((((Row.nil W ok).cons (.v _ rfl)).cons h.ord).cons h.aggs).cons h.on).cons h.exprs).cons h.names).cons h.cond).cons (.v _ rfl)).cons (.v _ rfl)).cons (.v _ rfl)).cons (.v _ rfl)).cons (.v _ rfl)).cons (.v _ rfl)).cons h.args).cons (.v _ rfl)).cons (.v _ rfl)
theorem zm3 {ok:Nat→Prop} {W:World} {x:Pl} {cs:List Value} (h:Row W ok (plD x) cs):∃ s0 s1 s2 s3 s4 s5 s6,cs=plC x s0 s1 s2 s3 s4 s5 s6∧PlRep W ok x s0 s1 s2 s3 s4 s5 s6:=by
 rw[ziF]at h;obtain ⟨c0,r0,rfl,h0,h⟩:=h.uncons;obtain ⟨c1,r1,rfl,h1,h⟩:=h.uncons;obtain ⟨c2,r2,rfl,h2,h⟩:=h.uncons;obtain ⟨c3,r3,rfl,h3,h⟩:=h.uncons;obtain ⟨c4,r4,rfl,h4,h⟩:=h.uncons;obtain ⟨c5,r5,rfl,h5,h⟩:=h.uncons;obtain ⟨c6,r6,rfl,h6,h⟩:=h.uncons;obtain ⟨c7,r7,rfl,h7,h⟩:=h.uncons;obtain ⟨c8,r8,rfl,h8,h⟩:=h.uncons;obtain ⟨c9,r9,rfl,h9,h⟩:=h.uncons;obtain ⟨c10,r10,rfl,h10,h⟩:=h.uncons;obtain ⟨c11,r11,rfl,h11,h⟩:=h.uncons;obtain ⟨c12,r12,rfl,h12,h⟩:=h.uncons;obtain ⟨c13,r13,rfl,h13,h⟩:=h.uncons;obtain ⟨c14,r14,rfl,h14,h⟩:=h.uncons;obtain ⟨c15,r15,rfl,h15,h⟩:=h.uncons;obtain rfl:=h.unnil;obtain rfl:=h0.val;obtain rfl:=h1.val;obtain rfl:=h3.val;obtain rfl:=h4.val;obtain rfl:=h5.val;obtain rfl:=h6.val;obtain rfl:=h7.val;obtain rfl:=h8.val;obtain rfl:=h15.val;exact ⟨c2,c9,c10,c11,c12,c13,c14,rfl,⟨h2,h9,h10,h11,h12,h13,h14⟩⟩
def PlTo (w:World) (B d:Nat) (x:Pl) (s:Ps) (e:Ending) (w':World):Prop :=
 ∃ a0 n0 k0 a1 n1 k1 a2 n2 k2 a3 n3 k3 a4 n4 k4 a5 n5 k5 a6 n6 k6,
  e=.returned (.agg (plC x (.slice a0 n0 k0) (.slice a1 n1 k1) (.slice a2 n2 k2) (.slice a3 n3 k3) (.slice a4 n4 k4) (.slice a5 n5 k5) (.slice a6 n6 k6)).toArray)∧
  Row w' (fun b=>w.heap.size≤b) (plD x) (plC x (.slice a0 n0 k0) (.slice a1 n1 k1) (.slice a2 n2 k2) (.slice a3 n3 k3) (.slice a4 n4 k4) (.slice a5 n5 k5) (.slice a6 n6 k6))∧Kept (fun b=>b=B) w w'∧PAt w' B d s
theorem PlTo.of {w w':World} {B d:Nat} {x:Pl} {s:Ps} {e:Ending} (h:RowTo w B d (plD x) s e w'):PlTo w B d x s e w':=by
 obtain ⟨cs,rfl,h1,h2,h3⟩:=h;obtain ⟨s0,s1,s2,s3,s4,s5,s6,rfl,h4⟩:=zm3 h1;obtain ⟨a0,k0,rfl,_⟩:=h4.args.len;obtain ⟨a1,k1,rfl,_⟩:=h4.cond.len;obtain ⟨a2,k2,rfl,_⟩:=h4.names.len;obtain ⟨a3,k3,rfl,_⟩:=h4.exprs.len;obtain ⟨a4,k4,rfl,_⟩:=h4.on.len;obtain ⟨a5,k5,rfl,_⟩:=h4.aggs.len;obtain ⟨a6,k6,rfl,_⟩:=h4.ord.len;exact ⟨_,_,_,_,_,_,_,_,_,_,_,_,_,_,_,_,_,_,_,_,_,rfl,h1,h2,h3⟩
theorem zpz:plD zPl=[dI 0,dS [],.sl 16 [],dI 0,dS [],dI 0,dI 0,dS [],dS [],.sl 7 [],.sl 1 [],.sl 7 [],.sl 2 [],.sl 3 [],.sl 2 [],dI 0]:=by
 rw[ziF];show [dI 0,dS [],Dat.sl 16 (plDs []),dI 0,dS [],dI 0,dI 0,dS [],dS [],.sl 7 (exDs []),.sl 1 [],.sl 7 (exDs []),.sl 2 [],.sl 3 [],.sl 2 [],dI 0]=_
 rw[plDs,exDs]
theorem zdl (W:World) (ok:Nat→Prop):Row W ok (plD zPl) (plC zPl (.slice none 0 0) (.slice none 0 0) (.slice none 0 0) (.slice none 0 0) (.slice none 0 0) (.slice none 0 0) (.slice none 0 0)):=by
 rw[zpz];exact ((((((((((((((((Row.nil W ok).cons (.v _ rfl)).cons (Rep.nil _ _ _)).cons (Rep.nil _ _ _)).cons (Rep.nil _ _ _)).cons (Rep.nil _ _ _)).cons (Rep.nil _ _ _)).cons (Rep.nil _ _ _)).cons (.v _ rfl)).cons (.v _ rfl)).cons (.v _ rfl)).cons (.v _ rfl)).cons (.v _ rfl)).cons (.v _ rfl)).cons (Rep.nil _ _ _)).cons (.v _ rfl)).cons (.v _ rfl)
