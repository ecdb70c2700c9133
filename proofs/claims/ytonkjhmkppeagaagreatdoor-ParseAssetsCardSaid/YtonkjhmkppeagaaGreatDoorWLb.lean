/- Walks of layer 14's laws: assets. -/
import Derived.Test.YtonkjhmkppeagaaGreatDoorWTs
import Derived.Test.YtonkjhmkppeagaaGreatDoorWNx
set_option linter.unusedVariables false
set_option linter.unusedSimpArgs false
namespace Go.Proofs.YtonkjhmkppeagaaGreatDoor.Pz
open Go.Proofs.Tryz
open Go.Lib (hid)
open Go.RowKit Go Go.Sort Ba Lx
theorem uMz_:(Tryz.prog.underlying 96).map (·.isRow)=some false:=by kernel_rfl
def mapD (m:Int×Int):List Dat:=[dI m.1,dI m.2]
def MpgOk (m:Int×Int):Prop:=(1≤m.1∧m.1≤5)∧(m.1≠2→m.1≠3→m.2=0)∧(m.1=2→0≤m.2)∧-1000≤m.2∧m.2≤1000
def mpAt (ms:List (Int×Int)) (i:Nat):Int×Int:=ms.getD (i % ms.length) (0,0)
def insOf (l:List Str) (ms:List (Int×Int)):List Inp:=l.mapIdx fun i f=>⟨f,(mpAt ms i).1,(mpAt ms i).2,f⟩
theorem zdU (l:List Str) (ms:List (Int×Int)):(insOf l ms).length=l.length:=by unfold insOf;rw[List.length_mapIdx]
theorem zkU {l:List Str} (ms:List (Int×Int)) {k:Nat} {x:Str} (h:l[k]?=some x):(insOf l ms)[k]?=some ⟨x,(mpAt ms k).1,(mpAt ms k).2,x⟩:=by
 unfold insOf;rw[List.getElem?_mapIdx,h];rfl
theorem ok_in {x:Str} {m:Int×Int} (hx:zao x) (h:MpgOk m):OkIn ⟨x,m.1,m.2,x⟩ :=
 ⟨hx,hx,h.1,fun e=>⟨h.2.2.1 e,by have:=h.2.2.2.2;show m.2≤_;omega⟩,fun _=>⟨by have:=h.2.2.2.1;show _≤m.2;omega,by have:=h.2.2.2.2;show m.2≤_;omega⟩,h.2.1⟩
theorem zpO (m1 m2:Int):(decide (m1<1)=true)∨(decide (m1<1)=false∧decide (5<m1)=true)∨(decide (m1<1)=false∧decide (5<m1)=false∧(m1 != 2)=true∧(m1 != 3)=true∧(m2 != 0)=true)∨
 (decide (m1<1)=false∧decide (5<m1)=false∧(m1 != 2)=false∧(m1 == 2)=true∧decide (m2<0)=true)∨(decide (m1<1)=false∧decide (5<m1)=false∧(m1 != 2)=true∧(m1 != 3)=false∧(m1 == 2)=false∧decide (m2 < -1000)=true)∨
 (decide (m1<1)=false∧decide (5<m1)=false∧(m1 != 2)=false∧(m1 == 2)=true∧decide (m2<0)=false∧decide (m2 < -1000)=false∧decide (1000<m2)=true)∨(decide (m1<1)=false∧decide (5<m1)=false∧(m1 != 2)=true∧(m1 != 3)=false∧(m1 == 2)=false∧decide (m2 < -1000)=false∧decide (1000<m2)=true)∨
 (decide (m1<1)=false∧decide (5<m1)=false∧decide (m2 < -1000)=false∧decide (1000<m2)=false∧MpgOk (m1,m2)∧(((m1 != 2)=true∧(m1 != 3)=true∧(m2 != 0)=false∧(m1 == 2)=false∧(m1 == 3)=false)∨((m1 != 2)=false∧(m1 == 2)=true∧decide (m2<0)=false)∨((m1 != 2)=true∧(m1 != 3)=false∧(m1 == 2)=false∧(m1 == 3)=true))):=by
 simp only[yL,yK,bne_iff_ne,bne_eq_false_iff_eq,beq_iff_eq,yT,MpgOk,ne_eq];by_cases h1:m1<1
 ·exact .inl h1
 refine .inr ?_;by_cases h5:5<m1
 ·exact .inl ⟨h1,h5⟩
 refine .inr ?_;by_cases h2:m1=2
 ·subst h2;by_cases h6:m2<0
  ·exact .inr (.inl ⟨h1,h5,by omega,rfl,h6⟩)
  by_cases h7:1000<m2
  ·exact .inr (.inr (.inr (.inl ⟨h1,h5,by omega,rfl,h6,by omega,h7⟩)))
  exact .inr (.inr (.inr (.inr (.inr ⟨h1,h5,by omega,h7,⟨by omega,by omega,by omega,by omega,by omega⟩,.inr (.inl ⟨by omega,rfl,h6⟩)⟩))))
 by_cases h3:m1=3
 ·subst h3;by_cases h6:m2 < -1000
  ·exact .inr (.inr (.inl ⟨h1,h5,by omega,by omega,by omega,h6⟩))
  by_cases h7:1000<m2
  ·exact .inr (.inr (.inr (.inr (.inl ⟨h1,h5,by omega,by omega,by omega,h6,h7⟩))))
  exact .inr (.inr (.inr (.inr (.inr ⟨h1,h5,h6,h7,⟨by omega,by omega,by omega,by omega,by omega⟩,.inr (.inr ⟨by omega,by omega,by omega,rfl⟩)⟩))))
 by_cases h0:m2=0
 ·subst h0;exact .inr (.inr (.inr (.inr (.inr ⟨h1,h5,by omega,by omega,⟨by omega,by omega,by omega,by omega,by omega⟩,.inl ⟨h2,h3,rfl,h2,h3⟩⟩))))
 exact .inl ⟨h1,h5,h2,h3,h0⟩
theorem build_df {N:ByteArray} {kk A B:Int} {Pb:Nat} {a:Act} {o:Oper} {w:World} {x y z:Operand} (ho:o.op=.build 88 #[(0,Operand.const (Value.int IntKind.i64 2)),(1,x),(3,y),(5,z)]) (hx:a.eval x=.string N) (hy:a.eval y=.agg #[.int .i64 kk,.int .i64 A,.int .i64 B]) (hz:a.eval z=.agg #[.int .i64 8,.string ⟨#[]⟩,.slice (some ⟨Pb,0,none⟩) 1 1,.int .i64 0,.string ⟨#[]⟩,.int .i64 0,.int .i64 0,.string ⟨#[]⟩,.string ⟨#[]⟩,.slice none 0 0,.slice none 0 0,.slice none 0 0,.slice none 0 0,.slice none 0 0,.slice none 0 0,.int .i64 0]):(execOp a.eval o).run Tryz.prog w=.ok (.value (.agg #[.int .i64 2,.string N,.slice none 0 0,.int .i64 kk,.int .i64 A,.int .i64 B,.slice none 0 0,.int .i64 8,.string ⟨#[]⟩,.slice (some ⟨Pb,0,none⟩) 1 1,.int .i64 0,.string ⟨#[]⟩,.int .i64 0,.int .i64 0,.string ⟨#[]⟩,.string ⟨#[]⟩,.slice none 0 0,.slice none 0 0,.slice none 0 0,.slice none 0 0,.slice none 0 0,.slice none 0 0,.int .i64 0,.string ⟨#[]⟩,.slice none 0 0])) w:=by
 unfold execOp;rw[ho];simp only[List.map_toArray,List.map_cons,List.map_nil,hx,hy,hz];kernel_rfl
set_option maxRecDepth 100000 in
set_option maxHeartbeats 200000000 in
theorem assets_law (name:ByteArray) (K A B:Int) (l:List Str) (ms:List (Int×Int)) (hn:name.size≤9223372036854775807) (hls:∀ s∈l,s.length≤9223372036854775807) (hA2:A≤9223372036854775807) (hB2:B≤9223372036854775807) (fa ma:Option Addr) (fc mc:Nat) (w:World) (ok:Nat→Prop) (hF:Rep w ok (.sl 1 (l.map strD)) (.slice fa l.length fc)) (hM:Rep w ok (.sl 2 (ms.map mapD)) (.slice ma ms.length mc)) (hE:EnvL w) :
 Calls Tryz.prog 8 #[.agg #[.string name,.int .i64 K,.int .i64 A,.int .i64 B,.slice fa l.length fc,.slice ma ms.length mc]] w (EqTo w true):=by
 have HAW:Hid (∀ W,Below w.heap.size w W→Calls Tryz.prog 23 #[] W (EqTo W true)):=fun W hW=>zhq W (hE.below hW)
 have HRA:=hid (fun W (hW:Below w.heap.size w W)=>hF.kept (S:=fun _=>False) (Kept.of_below hW) (fun _ _ _ x=>x));obtain ⟨n,rfl⟩:∃ n:Str,name=⟨n.toArray⟩:=⟨name.data.toList,by rw[Array.toArray_toList]⟩;obtain ⟨qn,hqn⟩:∃ q,wordQ n=q:=⟨_,rfl⟩;obtain ⟨qs,hqs⟩:∃ q,zdQ l=q:=⟨_,rfl⟩;obtain ⟨N,hN⟩:∃ N:ByteArray,(⟨n.toArray⟩:ByteArray)=N:=⟨_,rfl⟩;have HW:Hid (∀ W,Below w.heap.size w W→Calls Tryz.prog 21 #[.string N] W (EqTo W qn)):=fun W hW=>by
  have:=zd3 n W (by rw[← szm];exact hn);rw[hqn,hN]at this;exact this
 have HWS:Hid (∀ W,Below w.heap.size w W→Calls Tryz.prog 22 #[.slice fa l.length fc] W (EqTo W qs)):=fun W hW=>by
  have:=zgG l hls fa fc W ok (HRA.out W hW);rw[hqs]at this;exact this
 have H:=hid (St.start (S:=fun _=>False) w);obtain ⟨L,hL⟩:∃ L,l.length=L:=⟨_,rfl⟩;obtain ⟨M,hMM⟩:∃ M,ms.length=M:=⟨_,rfl⟩;by_cases hall:qn=true∧qs=true∧M≠0∧(1≤K∧K≤5)∧0≤A∧0≤B
 ·obtain ⟨rfl,rfl,hM0,⟨hK1,hK5⟩,hA0,hB0⟩:=hall;have hnw:=zfA hqn;have hmw:∀ m∈l,zao m∧m.length≤16:=fun m hm=>by
   unfold zdQ at hqs;rw[Bool.and_eq_true,List.all_eq_true]at hqs;have:=zfA (hqs.1 m hm);exact ⟨this.1,this.2.1⟩
  have hml:0<l.length∧l.length≤20:=by
   unfold zdQ at hqs;rw[Bool.and_eq_true,yL]at hqs;exact hqs.2
  obtain ⟨kk,rfl⟩:∃ kk:Nat,K=kk:=⟨K.toNat,by omega⟩;have hsc:OkSc ⟨(kk:Int),A,B⟩:=⟨⟨hK1,hK5⟩,⟨hA0,hA2⟩,⟨hB0,hB2⟩⟩;obtain ⟨f0,hf0⟩:∃ x,l[0]?=some x:=⟨_,yF hml.1⟩;have hfw:=hmw f0 (yP hf0);obtain ⟨p0,hp0⟩:∃ x,ms[0]?=some x:=⟨_,yF (by omega)⟩;obtain ⟨fb,fo,rfl,_⟩:=hF.cells_at (i:=0) (r:=strD f0) (vs:=[.string ⟨f0.toArray⟩]) (by rw[yQ,hf0];rfl) rfl;obtain ⟨mb,mo,rfl,_⟩:=hM.cells_at (i:=0) (r:=mapD p0) (vs:=[.int .i64 p0.1,.int .i64 p0.2]) (by rw[yQ,hp0];rfl) rfl;have HFC:Hid (∀ (k:Nat) (x:Str),l[k]?=some x→∀ W,Below w.heap.size w W→W.cell? ⟨fb,fo+k,none⟩=some (.string ⟨x.toArray⟩)):=fun k x hx W hW=>by
   obtain ⟨b,o,he,h⟩:=hF.cells_at (i:=k) (r:=strD x) (vs:=[.string ⟨x.toArray⟩]) (by rw[yQ,hx];rfl) rfl;have he:=Option.some.inj he;injection he with h1 h2 _
   subst h1 h2;have:=h W hW 0 _ rfl;simpa using this
  have HMC:Hid (∀ (k:Nat) (p:Int×Int),ms[k]?=some p→∀ W,Below w.heap.size w W→W.cell? ⟨mb,mo+k*2,none⟩=some (.int .i64 p.1)∧W.cell? ⟨mb,mo+k*2+1,none⟩=some (.int .i64 p.2)):=fun k p hx W hW=>by
   obtain ⟨b,o,he,h⟩:=hM.cells_at (i:=k) (r:=mapD p) (vs:=[.int .i64 p.1,.int .i64 p.2]) (by rw[yQ,hx];rfl) rfl;have he:=Option.some.inj he;injection he with h1 h2 _
   subst h1 h2;exact ⟨h W hW 0 _ rfl,h W hW 1 _ rfl⟩
  obtain ⟨F0,hF0⟩:∃ J:ByteArray,(⟨f0.toArray⟩:ByteArray)=J:=⟨_,rfl⟩;have HF0:Hid (∀ W,Below w.heap.size w W→W.cell? ⟨fb,fo,none⟩=some (.string F0)):=fun W hW=>by have:=HFC.out 0 f0 hf0 W hW;rw[hF0]at this;exact this
  have HP0:Hid (∀ (W:World) (q:Nat→Prop),Row W q (plD (scanL f0)) [.int .i64 1,.string F0,.slice none 0 0,.int .i64 0,.string ⟨#[]⟩,.int .i64 0,.int .i64 0,.string ⟨#[]⟩,.string ⟨#[]⟩,.slice none 0 0,.slice none 0 0,.slice none 0 0,.slice none 0 0,.slice none 0 0,.slice none 0 0,.int .i64 0]):=fun W q=>by rw[← hF0];exact zfF f0
  obtain ⟨KS,hKS⟩:∃ J:ByteArray,(⟨(wAt zaw (kk:Int)).toArray⟩:ByteArray)=J:=⟨_,rfl⟩;obtain ⟨NA,hNA⟩:∃ J:ByteArray,(⟨(Lib.itoa A).toArray⟩:ByteArray)=J:=⟨_,rfl⟩;obtain ⟨NB,hNB⟩:∃ J:ByteArray,(⟨(Lib.itoa B).toArray⟩:ByteArray)=J:=⟨_,rfl⟩;have HNA:Hid (∀ W,Calls Tryz.prog 28 #[.int .i64 A] W fun e w'=>e=.returned (.string NA)∧Below W.heap.size W w'):=fun W=>by
   have:=Va.number_any A W (by omega) hA2;rw[hNA]at this;exact this
  have HNB:Hid (∀ W,Calls Tryz.prog 28 #[.int .i64 B] W fun e w'=>e=.returned (.string NB)∧Below W.heap.size W w'):=fun W=>by
   have:=Va.number_any B W (by omega) hB2;rw[hNB]at this;exact this
  have HFIN:Hid ((∀ j,j<L→MpgOk (mpAt ms j))→∃ J:ByteArray,J.size≤4000∧Hid (∀ W (q:Nat→Prop) ao cp,Rep W q (.sl 1 (((insOf l ms).map inT2).map strD)) (.slice ao L cp)→Calls Tryz.prog 35 #[.slice ao L cp,.string ⟨#[44,32]⟩] W fun e w'=>e=.returned (.string J)∧Below W.heap.size W w')∧
   Hid (∀ W (q:Nat→Prop) bo bp Pb,Rep W q (.sl 4 ((insOf l ms).map inpD)) (.slice bo L bp)→Rep W q (.sl 16 [plD (scanL f0)]) (.slice (some ⟨Pb,0,none⟩) 1 1)→Below w.heap.size w W→Calls Tryz.prog 36 #[.string (((((((((((((⟨#[97,115,115,101,116,32]⟩:ByteArray)++N)++⟨#[32]⟩)++KS)++⟨#[32]⟩)++NA)++⟨#[32,46,46,32]⟩)++NB)++⟨#[10,102,114,111,109,32]⟩)++J)++⟨#[10,100,111,32]⟩)++F0)++⟨#[32,124,32,100,105,115,116,105,110,99,116,59]⟩),.agg #[.int .i64 2,.string N,.slice none 0 0,.int .i64 (kk:Int),.int .i64 A,.int .i64 B,.slice bo L bp,.int .i64 8,.string ⟨#[]⟩,.slice (some ⟨Pb,0,none⟩) 1 1,.int .i64 0,.string ⟨#[]⟩,.int .i64 0,.int .i64 0,.string ⟨#[]⟩,.string ⟨#[]⟩,.slice none 0 0,.slice none 0 0,.slice none 0 0,.slice none 0 0,.slice none 0 0,.slice none 0 0,.int .i64 0,.string ⟨#[]⟩,.slice none 0 0]] W (EqTo W true))):=fun hmp=>by
   have hins:∀ x∈insOf l ms,OkIn x∧x.a.length≤16∧x.s.length≤16:=fun y hy=>by
    obtain ⟨k,hk⟩:=List.mem_iff_getElem?.1 hy;have hkl:k<l.length:=by rw[← zdU l ms];exact (yE.1 hk).1
    obtain ⟨x,hx⟩:∃ x,l[k]?=some x:=⟨_,yF hkl⟩;rw[zkU ms hx]at hk;obtain rfl:=Option.some.inj hk;have hw:=hmw x (yP hx);exact ⟨ok_in hw.1 (hmp k (by omega)),hw.2,hw.2⟩
   have hi0:insOf l ms≠[]:=fun e=>by have:=zdU l ms;rw[e]at this;simp at this;omega
   have hlaw:=zoH (n:=n) (s:=⟨(kk:Int),A,B⟩) (ins:=insOf l ms) (m:=f0) hnw.1 hnw.2.1 hsc hi0 (by rw[zdU];exact hml.2) hins hfw.1 hfw.2;have hjb:(joinS [44,32] ((insOf l ms).map inT2)).length≤4000:=by
    have:=hlaw.2.2;unfold assT0 at this;simp only[yA,yB]at this;omega
   obtain ⟨J,hJ⟩:∃ J:ByteArray,(⟨(joinS [44,32] ((insOf l ms).map inT2)).toArray⟩:ByteArray)=J:=⟨_,rfl⟩;have hTe:((((((((((((⟨#[97,115,115,101,116,32]⟩:ByteArray)++N)++⟨#[32]⟩)++KS)++⟨#[32]⟩)++NA)++⟨#[32,46,46,32]⟩)++NB)++⟨#[10,102,114,111,109,32]⟩)++J)++⟨#[10,100,111,32]⟩)++F0)++⟨#[32,124,32,100,105,115,116,105,110,99,116,59]⟩=⟨(assT0 n ⟨(kk:Int),A,B⟩ (insOf l ms) f0++[59]).toArray⟩:=by
    rw[← hN,← hJ,← hKS,← hNA,← hNB,← hF0];show ((((((((((((⟨([97,115,115,101,116,32]:Str).toArray⟩:ByteArray)++⟨n.toArray⟩)++⟨([32]:Str).toArray⟩)++⟨(wAt zaw (kk:Int)).toArray⟩)++⟨([32]:Str).toArray⟩)++⟨(Lib.itoa A).toArray⟩)++⟨([32,46,46,32]:Str).toArray⟩)++⟨(Lib.itoa B).toArray⟩)++⟨([10,102,114,111,109,32]:Str).toArray⟩)++⟨(joinS [44,32] ((insOf l ms).map inT2)).toArray⟩)++⟨([10,100,111,32]:Str).toArray⟩)++⟨f0.toArray⟩)++⟨([32,124,32,100,105,115,116,105,110,99,116,59]:Str).toArray⟩=_
    rw[apm,apm,apm,apm,apm,apm,apm,apm,apm,apm,apm,apm];congr 2
    unfold assT0 scT2;simp[zbl,sFrom,sDo,zaE]
   refine ⟨J,by rw[← hJ,szm];exact hjb,fun W q ao cp hR=>?_,fun W q bo bp Pb hR hP hW=>?_⟩
   ·have hlen:((insOf l ms).map inT2).length=L:=by rw[yC,zdU,hL]
    have:=znP ((insOf l ms).map inT2) [44,32] (by omega) (by omega) (by decide) ao cp W q (by rw[hlen];exact hR);unfold StrTo at this;rw[hJ,hlen]at this;exact this
   ·have:=zjL (assT0 n ⟨(kk:Int),A,B⟩ (insOf l ms) f0) ⟨2,n,[],⟨(kk:Int),A,B⟩,insOf l ms,distL f0,[],[]⟩ ⟨hlaw.1,hlaw.2.1⟩ (by have:=hlaw.2.2;omega) _ hTe (.slice none 0 0) (.slice bo L bp) (.slice none 0 0) _ W (fun _=>True) ⟨Rep.nil _ _ _,hR.weak fun _ _ _=>trivial,zkw (hP.weak fun _ _ _=>trivial),Rep.nil _ _ _⟩ (hE.below hW);unfold dfV at this;simp only[hN]at this;exact this
  have hNs:N.size≤1000:=by rw[← hN,szm];omega
  have hFs:F0.size≤1000:=by rw[← hF0,szm];have:=hfw.2;omega
  have hKs:KS.size≤1000:=by rw[← hKS,szm];have h7:(wAt zaw (kk:Int)).length≤7:=(zem hsc.1).1;omega
  have hNAs:NA.size≤1000:=by rw[← hNA,szm];have:=Lib.itoa_length_le A (by omega) hA2;omega
  have hNBs:NB.size≤1000:=by rw[← hNB,szm];have:=Lib.itoa_length_le B (by omega) hB2;omega
  have HKS:Hid ((zz4:List Value)[kk]?=some (.string KS)):=by
   show _=_
   rw[← hKS];have:kk=1∨kk=2∨kk=3∨kk=4∨kk=5:=by omega
   rcases this with rfl|rfl|rfl|rfl|rfl<;>rfl
  have HXA:Hid (∀ (k:Nat) (x:Str),l[k]?=some x→x.length≤16):=fun k x hx=>(hmw x (yP hx)).2
  have HLL:=hid hL;have HML:=hid hMM;have hL20:L≤20:=by omega
  have hL0:(0:Int)<(L:Int):=by omega
  have hL1:0<L:=by omega
  have g0:((M:Int) == 0)=false:=by rw[yT];omega
  have g1:decide ((kk:Int)<1)=false:=by rw[yK];omega
  have g2:decide (5<(kk:Int))=false:=by rw[yK];omega
  have g3:decide (A<0)=false:=by rw[yK];omega
  have g4:decide (B<0)=false:=by rw[yK];omega
  have hk6:kk<6:=by omega
  rw[hL,hMM,hN];rw[hL]at HWS HRA;clear hE hF hM hn hls hqn hqs hN hL hMM hnw hmw hml hsc hK1 hK5 hA0 hB0 hA2 hB2 hf0 hfw hp0 hF0 hKS hNA hNB;go_enter func8,ntmps8
  go_upto_region 0 with (fail)
  refine wp_region_lit (Nx.out ?_);refine h_op (fun Kz hK=>?_);refine St.o_box (vs:=[.string N,.int .i64 (kk:Int),.int .i64 A,.int .i64 B,.slice (some ⟨fb,fo,none⟩) L fc,.slice (some ⟨mb,mo,none⟩) M mc]) H.out rfl rfl rfl (fun wl Zb _ H2=>?_);refine hK.out _ _ ?_;clear hK Kz;replace H:=hid H2;clear H2;try simp only[Array.reduceGetElem,zs]
  refine h_v ?_;refine h_end ?_;go_upto_region 1 with (fail)
  refine wp_region_lit (Nx.out ?_);refine h_v ?_;refine h_v (hr:=zbG (ty:=85) (cs:=[.int .i64 (kk:Int),.int .i64 A,.int .i64 B]) rfl rfl uSc_ sSc_ (H.out.sub (i:=0) rfl 1 (vs:=[.int .i64 (kk:Int),.int .i64 A,.int .i64 B]) rfl)) ?_;refine h_op (fun Kz hK=>?_);refine St.o_alloc (ty:=85) H.out rfl zSc_ rfl (fun wl Sb _ H2=>?_);refine hK.out _ _ ?_;clear hK Kz;replace H:=hid H2;clear H2;try simp only[Array.reduceGetElem,zs]
  refine h_op (fun Kz hK=>?_);refine St.o_store (ty:=85) H.out rfl rfl rfl 0 rfl rfl rfl sSc_ (zad rfl) (fun wl _ _ H2=>?_);refine hK.out _ _ ?_;clear hK Kz;replace H:=hid H2;clear H2;try simp only[Array.reduceGetElem,zs]
  refine h_end ?_;go_upto_region 2 with (fail)
  refine wp_region_lit (Nx.out ?_);refine h_v ?_;refine H.out.h_l1 1 ?_ uStr_;refine h_op (fun Kz hK=>?_);go_simp;go_at_call 21
  (with_reducible (refine (HW.out _ (zac H.out)).mono ?_))
  rintro e wc ⟨rfl,hb9⟩;have H2:=H.out.below hb9;clear hb9;refine hK.out _ _ ?_;clear hK Kz;replace H:=hid H2;clear H2;try simp only[Array.reduceGetElem,zs]
  refine h_v ?_;refine h_v ?_;first|(refine h_s ?_)|(refine h_v ?_)
  first|(refine h_s ?_)|(refine H.out.h_l1 1 ?_ zeB)
  first|(refine h_s ?_)|(refine h_op (fun Kz hK=>?_);go_simp;go_at_call 22;(with_reducible (refine (HWS.out _ (zac H.out)).mono ?_));rintro e wc ⟨rfl,hb9⟩;have H2:=H.out.below hb9;clear hb9;refine hK.out _ _ ?_;clear hK Kz;replace H:=hid H2;clear H2;try simp only[Array.reduceGetElem,zs])
  first|(refine h_s ?_)|(refine h_v ?_)
  refine h_v ?_;refine h_v ?_;first|(refine h_s ?_)|(refine h_v ?_)
  first|(refine h_s ?_)|(refine H.out.h_l1 1 ?_ uMz_)
  first|(refine h_s ?_)|(refine h_v ?_)
  first|(refine h_s ?_)|(refine h_v ?_)
  refine h_v ?_;refine h_v ?_;first|(refine h_s ?_)|(refine h_v ?_)
  first|(refine h_s ?_)|(refine H.out.h_l1 0 ?_ uInt_)
  first|(refine h_s ?_)|(refine h_v ?_)
  refine h_v ?_;refine h_v ?_;first|(refine h_s ?_)|(refine h_v ?_)
  first|(refine h_s ?_)|(refine H.out.h_l1 0 ?_ uInt_)
  first|(refine h_s ?_)|(refine h_v ?_)
  refine h_v ?_;refine h_v ?_;first|(refine h_s ?_)|(refine h_v ?_)
  first|(refine h_s ?_)|(refine H.out.h_l1 0 ?_ uInt_)
  first|(refine h_s ?_)|(refine h_v ?_)
  refine h_v ?_;refine h_v ?_;first|(refine h_s ?_)|(refine h_v ?_)
  first|(refine h_s ?_)|(refine H.out.h_l1 0 ?_ uInt_)
  first|(refine h_s ?_)|(refine h_v ?_)
  refine h_v ?_;refine h_end ?_;go_upto_region 5 with (fail)
  go_cut [5] (fun s5 wx=>∃ Wb Pb,s5=.pointer (some ⟨Wb,0,none⟩)∧Hid (St (fun _=>False) w wx [(Wb,[.int .i64 2,.string N,.slice none 0 0,.int .i64 (kk:Int),.int .i64 A,.int .i64 B,.slice none 0 0,.int .i64 8,.string ⟨#[]⟩,.slice (some ⟨Pb,0,none⟩) 1 1,.int .i64 0,.string ⟨#[]⟩,.int .i64 0,.int .i64 0,.string ⟨#[]⟩,.string ⟨#[]⟩,.slice none 0 0,.slice none 0 0,.slice none 0 0,.slice none 0 0,.slice none 0 0,.slice none 0 0,.int .i64 0,.string ⟨#[]⟩,.slice none 0 0]),(Sb,[.int .i64 (kk:Int),.int .i64 A,.int .i64 B]),(Zb,[.string N,.int .i64 (kk:Int),.int .i64 A,.int .i64 B,.slice (some ⟨fb,fo,none⟩) L fc,.slice (some ⟨mb,mo,none⟩) M mc])] [([.sl 16 [plD (scanL f0)]],[.slice (some ⟨Pb,0,none⟩) 1 1])] []))
  case first=>as_aux_lemma =>
   refine zaa 12 (S:=fun W=>W.cell? ⟨Zb,0,none⟩=some (.string N)∧W.cell? ⟨Zb,4,none⟩=some (.slice (some ⟨fb,fo,none⟩) L fc)∧W.cell? ⟨Sb,0,none⟩=some (.int .i64 (kk:Int))∧W.cell? ⟨Sb,1,none⟩=some (.int .i64 A)∧W.cell? ⟨Sb,2,none⟩=some (.int .i64 B)∧W.cell? ⟨fb,fo,none⟩=some (.string F0)) (by kernel_rfl) (by exact ⟨H.out.drew.cellS (i:=1) rfl rfl,H.out.drew.cellS (i:=1) rfl rfl,H.out.drew.cellS (i:=0) rfl rfl,H.out.drew.cellS (i:=0) rfl rfl,H.out.drew.cellS (i:=0) rfl rfl,HF0.out _ (zac H.out.drew)⟩) (fun zJ=>?_);replace H:=hid H.out.drew;refine tKm 0 ?_;refine tKm 1 ?_;refine tkM 2 rfl (by kernel_rfl) zJ (Or.inl ⟨by rfl,fun w hSw=>zbG (ty:=85) (cs:=[.int .i64 (kk:Int),.int .i64 A,.int .i64 B]) rfl rfl uSc_ sSc_ (ztL hSw.2.2.1 hSw.2.2.2.1 hSw.2.2.2.2.1)⟩) ?_;refine tKm 3 ?_;refine tKm 4 ?_;refine tKm 5 ?_;refine tKm 6 ?_
   refine tKm 7 ?_;refine rKs [8,11] ?_;refine zai.cons rfl (fun K hK=>?_) (zai.cons rfl (fun K hK=>?_) zai.nil)
   ·rw[if_pos (by rfl)];refine H.out.o_litO1 (r:=plD (scanL f0)) (k:=16) rfl underlying52 iPl2_ rfl rfl (by decide) (by decide) rfl rfl (za7 _) (HP0.out _ _) (fun wl Pb _ H2=>?_);refine hK.out _ _ ?_ (fun zH=>?_)
    ·exact ⟨H2.cellS (i:=1) rfl rfl,H2.cellS (i:=1) rfl rfl,H2.cellS (i:=0) rfl rfl,H2.cellS (i:=0) rfl rfl,H2.cellS (i:=0) rfl rfl,HF0.out _ (zac H2)⟩
    replace zJ:=zH;clear hK K;replace H:=hid H2.shut;clear H2;refine tKm 9 ?_;refine tkM 10 rfl (by kernel_rfl) zJ (Or.inl ⟨by rfl,fun w hSw=>build_df rfl rfl rfl rfl⟩) ?_;refine rK1 11 fun K hK=>?_
    rw[if_pos (by rfl)];refine H.out.o_alloc (ty:=88) rfl zDf_ rfl (fun wl Wb _ H2=>?_);refine hK.out _ _ ?_ (fun zH=>?_)
    ·exact ⟨H2.cellS (i:=2) rfl rfl,H2.cellS (i:=2) rfl rfl,H2.cellS (i:=1) rfl rfl,H2.cellS (i:=1) rfl rfl,H2.cellS (i:=1) rfl rfl,HF0.out _ (zac H2)⟩
    replace zJ:=zH;clear hK K;replace H:=hid H2;clear H2;refine rKl 12 fun K hK=>?_
    rw[if_pos (by rfl)];refine H.out.o_store (ty:=88) rfl rfl rfl 0 rfl rfl rfl sDf_ (zad rfl) (fun wl _ _ H2=>?_);refine hK.out _ _ ?_;clear hK K;replace H:=hid H2;clear H2;refine rKd ?_;go_wp2_with fail
    go_meet
    exact ⟨Wb,Pb,rfl,H⟩
   ·rw[if_pos (by rfl)];refine H.out.o_alloc (ty:=88) rfl zDf_ rfl (fun wl Wb _ H2=>?_);refine hK.out _ _ ?_ (fun zH=>?_)
    ·exact ⟨H2.cellS (i:=2) rfl rfl,H2.cellS (i:=2) rfl rfl,H2.cellS (i:=1) rfl rfl,H2.cellS (i:=1) rfl rfl,H2.cellS (i:=1) rfl rfl,HF0.out _ (zac H2)⟩
    replace zJ:=zH;clear hK K;replace H:=hid H2;clear H2;refine rK1 8 fun K hK=>?_
    rw[if_pos (by rfl)];refine H.out.o_litO1 (r:=plD (scanL f0)) (k:=16) rfl underlying52 iPl2_ rfl rfl (by decide) (by decide) rfl rfl (za7 _) (HP0.out _ _) (fun wl Pb _ H2=>?_);refine hK.out _ _ ?_ (fun zH=>?_)
    ·exact ⟨H2.cellS (i:=2) rfl rfl,H2.cellS (i:=2) rfl rfl,H2.cellS (i:=1) rfl rfl,H2.cellS (i:=1) rfl rfl,H2.cellS (i:=1) rfl rfl,HF0.out _ (zac H2)⟩
    replace zJ:=zH;clear hK K;replace H:=hid H2.shut;clear H2;refine tKm 9 ?_;refine tkM 10 rfl (by kernel_rfl) zJ (Or.inl ⟨by rfl,fun w hSw=>build_df rfl rfl rfl rfl⟩) ?_;refine rKl 12 fun K hK=>?_
    rw[if_pos (by rfl)];refine H.out.o_store (ty:=88) rfl rfl rfl 0 rfl rfl rfl sDf_ (zad rfl) (fun wl _ _ H2=>?_);refine hK.out _ _ ?_;clear hK K;replace H:=hid H2;clear H2;refine rKd ?_;go_wp2_with fail
    go_meet
    exact ⟨Wb,Pb,rfl,H⟩
  case rest =>
  obtain ⟨Wb,Pb,rfl,H2⟩:=hcut;replace H:=hid ((H2.out.gather 102 4).gather 9 1);clear H2 HW HWS HP0;go_upto_region 6 with (fail)
  refine wp_region_lit (Nx.out ?_);refine h_v ?_;refine H.out.h_l1 2 ?_ zeB;refine h_v ?_;refine h_v ?_;refine h_end ?_;go_wp2_with fail
  go_loopw [4,64] (fun v i wr=>∃ (k:Nat) (ao:Option Addr) (cp:Nat) (cells:List (List Value)) (bo:Option Addr) (bp:Nat) (zb2:List (List Value)),k≤L∧v=.slice ao k cp∧i=.int .i64 k∧Hid (∀ j,j<k→MpgOk (mpAt ms j))∧Hid (St (fun _=>False) w wr [(Wb,[.int .i64 2,.string N,.slice none 0 0,.int .i64 (kk:Int),.int .i64 A,.int .i64 B,.slice bo k bp,.int .i64 8,.string ⟨#[]⟩,.slice (some ⟨Pb,0,none⟩) 1 1,.int .i64 0,.string ⟨#[]⟩,.int .i64 0,.int .i64 0,.string ⟨#[]⟩,.string ⟨#[]⟩,.slice none 0 0,.slice none 0 0,.slice none 0 0,.slice none 0 0,.slice none 0 0,.slice none 0 0,.int .i64 0,.string ⟨#[]⟩,.slice none 0 0]),(Sb,[.int .i64 (kk:Int),.int .i64 A,.int .i64 B]),(Zb,[.string N,.int .i64 (kk:Int),.int .i64 A,.int .i64 B,.slice (some ⟨fb,fo,none⟩) L fc,.slice (some ⟨mb,mo,none⟩) M mc])] [([.sl 16 [plD (scanL f0)]],[.slice (some ⟨Pb,0,none⟩) 1 1])] [⟨9,1,.slice ao k cp,((insOf l ms).take k).map (fun x=>strD (inT2 x)),cells⟩,⟨102,4,.slice bo k bp,((insOf l ms).take k).map inpD,zb2⟩])) (fun _ i _=>L-(intOf i).toNat)
  case atStart=>exact ⟨0,none,0,[],none,0,[],yS _,rfl,rfl,(fun j hj=>absurd hj (Nat.not_lt_zero j)),H⟩
  case round =>
   clear H;obtain ⟨k,ao,cp,cells,bo,bp,zb2,hk,rfl,rfl,HPK,H⟩:=hrel;have HCL:Hid ((insOf l ms).length=L):=by show _=_;rw[zdU,HLL.out]
   by_cases hlt:k<L
   ·obtain ⟨x,hx⟩:∃ x,l[k]?=some x:=⟨_,yF (by rw[HLL.out];exact hlt)⟩;obtain ⟨⟨m1,m2⟩,hp⟩:∃ p,ms[k % M]?=some p:=⟨_,yF (by rw[HML.out];exact Nat.mod_lt _ (by omega))⟩;have hat:mpAt ms k=(m1,m2):=by unfold mpAt;rw[HML.out,List.getD_eq_getElem?_getD,hp];rfl
    have hkM:k % M<M:=Nat.mod_lt _ (by omega);obtain ⟨kM,hkm⟩:∃ q,k % M=q:=⟨_,rfl⟩;have hrem:(k:Int).tmod (M:Int)=(kM:Int):=by rw[Int.tmod_eq_emod_of_nonneg (by omega),← hkm];exact (Int.natCast_emod k M).symm
    rw[hkm]at hp hkM;have hkM2:(kM:Int)<(M:Int):=by omega
    have hxl:=HXA.out k x hx;obtain ⟨X,hX⟩:∃ X:ByteArray,(⟨x.toArray⟩:ByteArray)=X:=⟨_,rfl⟩;have hXs:X.size≤1000:=by rw[← hX,szm];omega
    have HC:Hid (∀ W,Below w.heap.size w W→W.cell? ⟨fb,fo+k,none⟩=some (.string X)):=fun W hW=>by have:=HFC.out k x hx W hW;rw[hX]at this;exact this
    have HM0:Hid (∀ W,Below w.heap.size w W→W.cell? ⟨mb,mo+kM*2,none⟩=some (.int .i64 m1)):=fun W hW=>(HMC.out kM _ hp W hW).1
    have HM1:Hid (∀ W,Below w.heap.size w W→W.cell? ⟨mb,mo+kM*2+1,none⟩=some (.int .i64 m2)):=fun W hW=>(HMC.out kM _ hp W hW).2
    have HX:=hid hx;have HXX:=hid hX;have HAT:=hid hat;have e2:=zkU ms hx;rw[hat]at e2;have HE2:=hid e2;have HRL:Hid ((((insOf l ms).take k).map (fun x=>strD (inT2 x))).length=k):=by show _=_;rw[yC,List.length_take,HCL.out];omega
    have HRL2:Hid ((((insOf l ms).take k).map inpD).length=k):=by show _=_;rw[yC,List.length_take,HCL.out];omega
    have HMIN:Hid (min k (insOf l ms).length=k):=by show _=_;rw[HCL.out];omega
    have hkn:k+1≤1000000:=by omega
    have HKL:=hid hkn;have hlt2:(k:Int)<(L:Int):=by omega
    clear hx hp hat hkm hX hxl e2 hkn;go_upto_region 7 with (fail)
    refine wp_region_lit (Nx.out ?_);refine h_v ?_;refine h_end ?_;go_upto_region 8 with (fail)
    refine wp_region_lit (Nx.out ?_);refine h_v ?_;refine h_v ?_;refine h_op (fun Kz hK=>?_);refine zdF (ty:=9) rfl rfl (HC.out _ (zac H.out)) uStr_ (hK.out _ _ ?_);clear hK Kz;try simp only[Array.reduceGetElem,zs]
    refine h_v ?_;refine h_v ?_;refine h_end ?_;go_upto_region 9 with (fail)
    go_cut [8] (fun s8 wx=>∃ Mb,s8=.pointer (some ⟨Mb,0,none⟩)∧Hid (St (fun _=>False) w wx [(Mb,[.int .i64 m1,.int .i64 m2]),(Wb,[.int .i64 2,.string N,.slice none 0 0,.int .i64 (kk:Int),.int .i64 A,.int .i64 B,.slice bo k bp,.int .i64 8,.string ⟨#[]⟩,.slice (some ⟨Pb,0,none⟩) 1 1,.int .i64 0,.string ⟨#[]⟩,.int .i64 0,.int .i64 0,.string ⟨#[]⟩,.string ⟨#[]⟩,.slice none 0 0,.slice none 0 0,.slice none 0 0,.slice none 0 0,.slice none 0 0,.slice none 0 0,.int .i64 0,.string ⟨#[]⟩,.slice none 0 0]),(Sb,[.int .i64 (kk:Int),.int .i64 A,.int .i64 B]),(Zb,[.string N,.int .i64 (kk:Int),.int .i64 A,.int .i64 B,.slice (some ⟨fb,fo,none⟩) L fc,.slice (some ⟨mb,mo,none⟩) M mc])] [([.sl 16 [plD (scanL f0)]],[.slice (some ⟨Pb,0,none⟩) 1 1])] [⟨9,1,.slice ao k cp,((insOf l ms).take k).map (fun x=>strD (inT2 x)),cells⟩,⟨102,4,.slice bo k bp,((insOf l ms).take k).map inpD,zb2⟩]))
    case first=>as_aux_lemma =>
     refine zaa 10 (S:=fun W=>W.cell? ⟨Zb,5,none⟩=some (.slice (some ⟨mb,mo,none⟩) M mc)∧W.cell? ⟨mb,mo+kM*2,none⟩=some (.int .i64 (m1:Int))∧W.cell? ⟨mb,mo+kM*2+1,none⟩=some (.int .i64 m2)) (by kernel_rfl) (by exact ⟨H.out.drew.cellS (i:=2) rfl rfl,HM0.out _ (zac H.out.drew),HM1.out _ (zac H.out.drew)⟩) (fun zJ=>?_);replace H:=hid H.out.drew;refine tKm 0 ?_;refine tKm 1 ?_;refine tKm 2 ?_;refine tKm 3 ?_;refine tKm 4 ?_;refine tKm 5 ?_;refine tKm 6 ?_;refine tKm 7 ?_;refine tkM 8 rfl (by kernel_rfl) zJ (Or.inl ⟨by rfl,fun w hSw=>zbG (ty:=100) (cs:=[.int .i64 m1,.int .i64 m2]) rfl rfl uMp_ sMp_ (ztM hSw.2.1 hSw.2.2)⟩) ?_;refine rK1 9 fun K hK=>?_
     rw[if_pos (by rfl)];refine H.out.o_alloc (ty:=100) rfl zMp_ rfl (fun wl Mb _ H2=>?_);refine hK.out _ _ ?_ (fun zH=>?_)
     ·exact ⟨H2.cellS (i:=3) rfl rfl,HM0.out _ (zac H2),HM1.out _ (zac H2)⟩
     replace zJ:=zH;clear hK K;replace H:=hid H2;clear H2;refine rKl 10 fun K hK=>?_
     rw[if_pos (by rfl)];refine H.out.o_store (ty:=100) rfl rfl rfl 0 rfl rfl rfl sMp_ (zad rfl) (fun wl _ _ H2=>?_);refine hK.out _ _ ?_;clear hK K;replace H:=hid H2;clear H2;refine rKd ?_;go_wp2_with fail
     go_meet
     exact ⟨Mb,rfl,H⟩
    case rest =>
    obtain ⟨Mb,rfl,H2⟩:=hcut;clear H HM0 HM1 HC hrem;have H:=H2;clear H2;rcases zpO m1 m2 with t1|⟨t1,t2⟩|⟨t1,t2,t3,t4,t5⟩|⟨t1,t2,t3,t4,t5⟩|⟨t1,t2,t3,t4,t5,t6⟩|⟨t1,t2,t3,t4,t5,t6,t7⟩|⟨t1,t2,t3,t4,t5,t6,t7⟩|⟨t1,t2,t3,t4,hmp,hg⟩
    iterate 7
     ·as_aux_lemma =>
      go_upto_region 10 with (fail)
      refine wp_region_lit (Nx.out ?_);refine h_v ?_;refine H.out.h_l1 0 ?_ uInt_;refine h_v ?_;refine h_v ?_;first|(refine h_s ?_)|(refine h_v ?_)
      first|(refine h_s ?_)|(refine H.out.h_l1 0 ?_ uInt_)
      first|(refine h_s ?_)|(refine h_v ?_)
      refine h_v ?_;refine h_v ?_;first|(refine h_s ?_)|(refine h_v ?_)
      first|(refine h_s ?_)|(refine H.out.h_l1 0 ?_ uInt_)
      first|(refine h_s ?_)|(refine h_v ?_)
      first|(refine h_s ?_)|(refine h_v ?_)
      first|(refine h_s ?_)|(refine h_v ?_)
      first|(refine h_s ?_)|(refine H.out.h_l1 0 ?_ uInt_)
      first|(refine h_s ?_)|(refine h_v ?_)
      first|(refine h_s ?_)|(refine h_v ?_)
      first|(refine h_s ?_)|(refine h_v ?_)
      first|(refine h_s ?_)|(refine h_v ?_)
      first|(refine h_s ?_)|(refine H.out.h_l1 0 ?_ uInt_)
      first|(refine h_s ?_)|(refine h_v ?_)
      first|(refine h_s ?_)|(refine h_v ?_)
      refine h_v ?_;refine h_v ?_;first|(refine h_s ?_)|(refine h_v ?_)
      first|(refine h_s ?_)|(refine H.out.h_l1 0 ?_ uInt_)
      first|(refine h_s ?_)|(refine h_v ?_)
      first|(refine h_s ?_)|(refine h_v ?_)
      first|(refine h_s ?_)|(refine h_v ?_)
      first|(refine h_s ?_)|(refine H.out.h_l1 0 ?_ uInt_)
      first|(refine h_s ?_)|(refine h_v ?_)
      first|(refine h_s ?_)|(refine h_v ?_)
      refine h_v ?_;refine h_v ?_;first|(refine h_s ?_)|(refine h_v ?_)
      first|(refine h_s ?_)|(refine H.out.h_l1 0 ?_ uInt_)
      first|(refine h_s ?_)|(refine h_v ?_)
      refine h_v ?_;refine h_v ?_;first|(refine h_s ?_)|(refine h_v ?_)
      first|(refine h_s ?_)|(refine H.out.h_l1 0 ?_ uInt_)
      first|(refine h_s ?_)|(refine h_v ?_)
      refine h_v ?_;refine h_end ?_;go_upto_region 11 with (fail)
      refine wp_region_lit (Nx.out ?_);refine h_op (fun Kz hK=>?_);go_simp;go_at_call 23
      (with_reducible (refine (HAW.out _ (zac H.out)).mono ?_))
      rintro e wc ⟨rfl,hb9⟩;have H2:=H.out.below hb9;clear hb9;refine hK.out _ _ ?_;clear hK Kz;replace H:=hid H2;clear H2;try simp only[Array.reduceGetElem,zs]
      refine h_v ?_;refine h_end ?_;go_wp2_with fail
      go_ret
      exact ⟨rfl,zac H.out⟩
    obtain ⟨mm,rfl⟩:∃ mm:Nat,m1=mm:=⟨m1.toNat,by have:=hmp.1.1;simp only at this;omega⟩;have hb5:1≤mm∧mm≤5:=by have:=hmp.1;simp only at this;omega
    have hm2:-1000≤m2∧m2≤1000:=by have:=hmp.2.2.2;simp only at this;exact this
    have hmm6:(mm:Int)<6:=by omega
    obtain ⟨MW,hMW⟩:∃ J:ByteArray,(⟨(wAt zaf (mm:Int)).toArray⟩:ByteArray)=J:=⟨_,rfl⟩;have HMW:Hid ((zz6:List Value)[mm]?=some (.string MW)):=by
     show _=_
     rw[← hMW];have:mm=1∨mm=2∨mm=3∨mm=4∨mm=5:=by omega
     rcases this with rfl|rfl|rfl|rfl|rfl<;>rfl
    have hMWs:MW.size≤1000:=by rw[← hMW,szm];have h7:=(zem (k:=(mm:Int)) ⟨by omega,by omega⟩).2;omega
    obtain ⟨NM,hNM⟩:∃ J:ByteArray,(⟨(Lib.itoa m2).toArray⟩:ByteArray)=J:=⟨_,rfl⟩;have hNMs:NM.size≤1000:=by rw[← hNM,szm];have:=Lib.itoa_length_le m2 (by omega) (by omega);omega
    have HNM:Hid (∀ W,Calls Tryz.prog 28 #[.int .i64 m2] W fun e w'=>e=.returned (.string NM)∧Below W.heap.size W w'):=fun W=>by
     have:=Va.number_any m2 W (by omega) (by omega);rw[hNM]at this;exact this
    have HPK1:Hid (∀ j,j<k+1→MpgOk (mpAt ms j)):=fun j hj=>by
     by_cases e:j=k
     ·subst e;rw[HAT.out];exact hmp
     ·exact HPK.out j (by omega)
    have HTK1:=hid (zbF (fun x=>strD (inT2 x)) HE2.out);have HTK2:=hid (zbF inpD HE2.out);have HROC:Hid (∀ (W:World) (q:Nat→Prop),Row W q (inpD ⟨x,(mm:Int),m2,x⟩) [.string X,.int .i64 (mm:Int),.int .i64 m2,.string X]):=fun W q=>by rw[← HXX.out];exact ((((Row.nil W q).cons (.v _ rfl)).cons (.v _ rfl)).cons (.v _ rfl)).cons (.v _ rfl)
    have HNMe:=hid hNM;have HMWe:=hid hMW;clear hmp hMW hNM;rcases hg with ⟨q1,q2,q3,q4,q5⟩|⟨q1,q2,q3⟩|⟨q1,q2,q3,q4⟩
    ·as_aux_lemma =>
     have HW:Hid (X++⟨#[32]⟩++MW++⟨#[32,97,115,32]⟩++X=⟨(inT2 ⟨x,(mm:Int),m2,x⟩).toArray⟩):=by
      show _=_
      rw[← HXX.out,← HMWe.out];show (⟨x.toArray⟩:ByteArray)++⟨([32]:Str).toArray⟩++⟨(wAt zaf (mm:Int)).toArray⟩++⟨([32,97,115,32]:Str).toArray⟩++⟨x.toArray⟩=_
      rw[apm,apm,apm,apm];congr 2
      unfold inT2 inM;simp only;rw[if_neg (fun h=>by rw[yT]at q4 q5;exact h.elim (fun h=>q4 h) (fun h=>q5 h))];simp
     have HROW:Hid (∀ (W:World) (q:Nat→Prop),Row W q (strD (inT2 ⟨x,(mm:Int),m2,x⟩)) [.string (X++⟨#[32]⟩++MW++⟨#[32,97,115,32]⟩++X)]):=fun W q=>by rw[HW.out];exact (Row.nil W q).cons (.v _ rfl)
     clear HW;go_upto_region 10 with (fail)
     refine wp_region_lit (Nx.out ?_);refine h_v ?_;refine H.out.h_l1 0 ?_ uInt_;refine h_v ?_;refine h_v ?_;first|(refine h_s ?_)|(refine h_v ?_)
     first|(refine h_s ?_)|(refine H.out.h_l1 0 ?_ uInt_)
     first|(refine h_s ?_)|(refine h_v ?_)
     refine h_v ?_;refine h_v ?_;first|(refine h_s ?_)|(refine h_v ?_)
     first|(refine h_s ?_)|(refine H.out.h_l1 0 ?_ uInt_)
     first|(refine h_s ?_)|(refine h_v ?_)
     first|(refine h_s ?_)|(refine h_v ?_)
     first|(refine h_s ?_)|(refine h_v ?_)
     first|(refine h_s ?_)|(refine H.out.h_l1 0 ?_ uInt_)
     first|(refine h_s ?_)|(refine h_v ?_)
     first|(refine h_s ?_)|(refine h_v ?_)
     first|(refine h_s ?_)|(refine h_v ?_)
     first|(refine h_s ?_)|(refine h_v ?_)
     first|(refine h_s ?_)|(refine H.out.h_l1 0 ?_ uInt_)
     first|(refine h_s ?_)|(refine h_v ?_)
     first|(refine h_s ?_)|(refine h_v ?_)
     refine h_v ?_;refine h_v ?_;first|(refine h_s ?_)|(refine h_v ?_)
     first|(refine h_s ?_)|(refine H.out.h_l1 0 ?_ uInt_)
     first|(refine h_s ?_)|(refine h_v ?_)
     first|(refine h_s ?_)|(refine h_v ?_)
     first|(refine h_s ?_)|(refine h_v ?_)
     first|(refine h_s ?_)|(refine H.out.h_l1 0 ?_ uInt_)
     first|(refine h_s ?_)|(refine h_v ?_)
     first|(refine h_s ?_)|(refine h_v ?_)
     refine h_v ?_;refine h_v ?_;first|(refine h_s ?_)|(refine h_v ?_)
     first|(refine h_s ?_)|(refine H.out.h_l1 0 ?_ uInt_)
     first|(refine h_s ?_)|(refine h_v ?_)
     refine h_v ?_;refine h_v ?_;first|(refine h_s ?_)|(refine h_v ?_)
     first|(refine h_s ?_)|(refine H.out.h_l1 0 ?_ uInt_)
     first|(refine h_s ?_)|(refine h_v ?_)
     refine h_v ?_;refine h_end ?_;go_upto_region 12 with (fail)
     refine wp_region_lit (Nx.out ?_);refine h_v ?_;refine h_add ?_;refine h_op (fun Kz hK=>?_);refine H.out.o_lit rfl underlying48 zaR zz6 rfl rfl rfl (by decide) (by decide) (by decide) (all_k rfl) rfl (fun wl Lb _ H2=>?_);refine hK.out _ _ ?_;clear hK Kz;replace H:=hid H2;clear H2;try simp only[Array.reduceGetElem,zs]
     refine h_v ?_;refine H.out.h_l1 1 ?_ uInt_;refine h_v ?_;refine H.out.h_l1 0 ?_ uStr_ (hv:=HMW.out);refine h_add ?_;refine h_v ?_;refine h_end ?_;go_upto_region 13 with (fail)
     refine wp_region_lit (Nx.out ?_);refine h_v ?_;refine H.out.h_l1 1 ?_ uInt_;refine h_v ?_;refine h_v ?_;first|(refine h_s ?_)|(refine h_v ?_)
     first|(refine h_s ?_)|(refine H.out.h_l1 1 ?_ uInt_)
     first|(refine h_s ?_)|(refine h_v ?_)
     refine h_v ?_;refine h_end ?_;go_upto_region 15 with (fail)
     refine wp_region_lit (Nx.out ?_);refine h_v ?_;refine h_v ?_;refine h_add ?_;refine h_v ?_;refine h_add ?_;refine h_op (fun Kz hK=>?_);refine H.out.o_lit1 rfl underlying48 zaR rfl rfl (by decide) (by decide) rfl rfl (fun wl Cl _ H2=>?_);refine hK.out _ _ ?_;clear hK Kz;replace H:=hid H2;clear H2;try simp only[Array.reduceGetElem,zs]
     refine h_op (fun Kz hK=>?_);refine H.out.o_append (r:=strD (inT2 ⟨x,(mm:Int),m2,x⟩)) rfl underlying48 iStr_ rfl (by decide) (by decide) 0 rfl rfl rfl rfl rfl 0 rfl rfl (HROW.out _ _) (by rw[HRL.out];exact HKL.out) (fun wl ao9 cap9 _ H2=>?_);refine hK.out _ _ ?_;clear hK Kz;replace H:=hid H2;clear H2;try simp only[Array.reduceGetElem,zs]
     refine h_v ?_;refine h_end ?_;go_upto_region 16 with (fail)
     refine wp_region_lit (Nx.out ?_);refine h_v ?_;refine H.out.h_l1 3 ?_ uSIn_;refine h_v ?_;refine h_op (fun Kz hK=>?_);refine St.o_load (ty:=100) H.out rfl rfl 2 rfl uMp_ sMp_ (hK.out _ _ ?_);clear hK Kz;try simp only[Array.reduceGetElem,zs]
     refine h_v ?_;refine h_v ?_;refine h_op (fun Kz hK=>?_);refine H.out.o_lit1 rfl underlying86 iIn2_ rfl rfl (by decide) (by decide) rfl rfl (fun wl Cm _ H2=>?_);refine hK.out _ _ ?_;clear hK Kz;replace H:=hid H2;clear H2;try simp only[Array.reduceGetElem,zs]
     refine h_op (fun Kz hK=>?_);refine H.out.o_append (r:=inpD ⟨x,(mm:Int),m2,x⟩) rfl underlying86 iIn_ rfl (by decide) (by decide) 1 rfl rfl rfl rfl rfl 0 rfl rfl (HROC.out _ _) (by rw[HRL2.out];exact HKL.out) (fun wl bo9 bp9 _ H2=>?_);refine hK.out _ _ ?_;clear hK Kz;replace H:=hid H2;clear H2;try simp only[Array.reduceGetElem,zs]
     refine h_v ?_;refine h_op (fun Kz hK=>?_);refine St.o_store1 (ty:=86) H.out rfl rfl rfl 4 rfl (yI rfl) sSIn_ rfl (fun wl _ _ H2=>?_);refine hK.out _ _ ?_;clear hK Kz;replace H:=hid H2;clear H2;try simp only[Array.reduceGetElem,zs]
     refine h_end ?_;go_wp2_with fail
     have H3:=H.out.drop (L':=[(Wb,[.int .i64 2,.string N,.slice none 0 0,.int .i64 (kk:Int),.int .i64 A,.int .i64 B,(.slice bo9 ((((insOf l ms).take k).map inpD).length+1) bp9),.int .i64 8,.string ⟨#[]⟩,.slice (some ⟨Pb,0,none⟩) 1 1,.int .i64 0,.string ⟨#[]⟩,.int .i64 0,.int .i64 0,.string ⟨#[]⟩,.string ⟨#[]⟩,.slice none 0 0,.slice none 0 0,.slice none 0 0,.slice none 0 0,.slice none 0 0,.slice none 0 0,.int .i64 0,.string ⟨#[]⟩,.slice none 0 0]),(Sb,[.int .i64 (kk:Int),.int .i64 A,.int .i64 B]),(Zb,[.string N,.int .i64 (kk:Int),.int .i64 A,.int .i64 B,.slice (some ⟨fb,fo,none⟩) L fc,.slice (some ⟨mb,mo,none⟩) M mc])]) (.cons _ (.cons _ (.cons _ (.cons _ (List.Sublist.refl _)))));simp only[List.set_cons_zero,List.set_cons_succ]at H3;rw[HRL.out,HRL2.out]at H3;try rw[HMIN.out]at H3
     have H4:=hid H3;clear H H3;go_roundw
     case rel=>exact ⟨k+1,ao9,cap9,_,bo9,bp9,_,by omega,by first|rw[HRL.out]|rw[HMIN.out],by go_num,HPK1,by show St _ _ _ _ _ _;rw[HTK1.out,HTK2.out];exact H4.out⟩
     case measure=>simp[intOf];omega
    ·as_aux_lemma =>
     have HW:Hid (X++⟨#[32]⟩++MW++(⟨#[32]⟩++NM)++⟨#[32,97,115,32]⟩++X=⟨(inT2 ⟨x,(mm:Int),m2,x⟩).toArray⟩):=by
      show _=_
      rw[← HXX.out,← HMWe.out,← HNMe.out];show (⟨x.toArray⟩:ByteArray)++⟨([32]:Str).toArray⟩++⟨(wAt zaf (mm:Int)).toArray⟩++(⟨([32]:Str).toArray⟩++⟨(Lib.itoa m2).toArray⟩)++⟨([32,97,115,32]:Str).toArray⟩++⟨x.toArray⟩=_
      rw[apm,apm,apm,apm,apm,apm];congr 2
      unfold inT2 inM;simp only;rw[if_pos (Or.inl (by simpa using q2))];simp
     have HROW:Hid (∀ (W:World) (q:Nat→Prop),Row W q (strD (inT2 ⟨x,(mm:Int),m2,x⟩)) [.string (X++⟨#[32]⟩++MW++(⟨#[32]⟩++NM)++⟨#[32,97,115,32]⟩++X)]):=fun W q=>by rw[HW.out];exact (Row.nil W q).cons (.v _ rfl)
     clear HW;go_upto_region 10 with (fail)
     refine wp_region_lit (Nx.out ?_);refine h_v ?_;refine H.out.h_l1 0 ?_ uInt_;refine h_v ?_;refine h_v ?_;first|(refine h_s ?_)|(refine h_v ?_)
     first|(refine h_s ?_)|(refine H.out.h_l1 0 ?_ uInt_)
     first|(refine h_s ?_)|(refine h_v ?_)
     refine h_v ?_;refine h_v ?_;first|(refine h_s ?_)|(refine h_v ?_)
     first|(refine h_s ?_)|(refine H.out.h_l1 0 ?_ uInt_)
     first|(refine h_s ?_)|(refine h_v ?_)
     first|(refine h_s ?_)|(refine h_v ?_)
     first|(refine h_s ?_)|(refine h_v ?_)
     first|(refine h_s ?_)|(refine H.out.h_l1 0 ?_ uInt_)
     first|(refine h_s ?_)|(refine h_v ?_)
     first|(refine h_s ?_)|(refine h_v ?_)
     first|(refine h_s ?_)|(refine h_v ?_)
     first|(refine h_s ?_)|(refine h_v ?_)
     first|(refine h_s ?_)|(refine H.out.h_l1 0 ?_ uInt_)
     first|(refine h_s ?_)|(refine h_v ?_)
     first|(refine h_s ?_)|(refine h_v ?_)
     refine h_v ?_;refine h_v ?_;first|(refine h_s ?_)|(refine h_v ?_)
     first|(refine h_s ?_)|(refine H.out.h_l1 0 ?_ uInt_)
     first|(refine h_s ?_)|(refine h_v ?_)
     first|(refine h_s ?_)|(refine h_v ?_)
     first|(refine h_s ?_)|(refine h_v ?_)
     first|(refine h_s ?_)|(refine H.out.h_l1 0 ?_ uInt_)
     first|(refine h_s ?_)|(refine h_v ?_)
     first|(refine h_s ?_)|(refine h_v ?_)
     refine h_v ?_;refine h_v ?_;first|(refine h_s ?_)|(refine h_v ?_)
     first|(refine h_s ?_)|(refine H.out.h_l1 0 ?_ uInt_)
     first|(refine h_s ?_)|(refine h_v ?_)
     refine h_v ?_;refine h_v ?_;first|(refine h_s ?_)|(refine h_v ?_)
     first|(refine h_s ?_)|(refine H.out.h_l1 0 ?_ uInt_)
     first|(refine h_s ?_)|(refine h_v ?_)
     refine h_v ?_;refine h_end ?_;go_upto_region 12 with (fail)
     refine wp_region_lit (Nx.out ?_);refine h_v ?_;refine h_add ?_;refine h_op (fun Kz hK=>?_);refine H.out.o_lit rfl underlying48 zaR zz6 rfl rfl rfl (by decide) (by decide) (by decide) (all_k rfl) rfl (fun wl Lb _ H2=>?_);refine hK.out _ _ ?_;clear hK Kz;replace H:=hid H2;clear H2;try simp only[Array.reduceGetElem,zs]
     refine h_v ?_;refine H.out.h_l1 1 ?_ uInt_;refine h_v ?_;refine H.out.h_l1 0 ?_ uStr_ (hv:=HMW.out);refine h_add ?_;refine h_v ?_;refine h_end ?_;go_upto_region 13 with (fail)
     refine wp_region_lit (Nx.out ?_);refine h_v ?_;refine H.out.h_l1 1 ?_ uInt_;refine h_v ?_;refine h_v ?_;first|(refine h_s ?_)|(refine h_v ?_)
     first|(refine h_s ?_)|(refine H.out.h_l1 1 ?_ uInt_)
     first|(refine h_s ?_)|(refine h_v ?_)
     refine h_v ?_;refine h_end ?_;go_upto_region 14 with (fail)
     refine wp_region_lit (Nx.out ?_);refine h_v ?_;refine h_v ?_;refine H.out.h_l1 1 ?_ uInt_;refine h_op (fun Kz hK=>?_);go_simp;go_at_call 28
     (with_reducible (refine (HNM.out _).mono ?_))
     rintro e wc ⟨rfl,hb9⟩;have H2:=H.out.below hb9;clear hb9;refine hK.out _ _ ?_;clear hK Kz;replace H:=hid H2;clear H2;try simp only[Array.reduceGetElem,zs]
     refine h_add ?_;refine h_add ?_;refine h_v ?_;refine h_end ?_;go_upto_region 15 with (fail)
     refine wp_region_lit (Nx.out ?_);refine h_v ?_;refine h_v ?_;refine h_add ?_;refine h_v ?_;refine h_add ?_;refine h_op (fun Kz hK=>?_);refine H.out.o_lit1 rfl underlying48 zaR rfl rfl (by decide) (by decide) rfl rfl (fun wl Cl _ H2=>?_);refine hK.out _ _ ?_;clear hK Kz;replace H:=hid H2;clear H2;try simp only[Array.reduceGetElem,zs]
     refine h_op (fun Kz hK=>?_);refine H.out.o_append (r:=strD (inT2 ⟨x,(mm:Int),m2,x⟩)) rfl underlying48 iStr_ rfl (by decide) (by decide) 0 rfl rfl rfl rfl rfl 0 rfl rfl (HROW.out _ _) (by rw[HRL.out];exact HKL.out) (fun wl ao9 cap9 _ H2=>?_);refine hK.out _ _ ?_;clear hK Kz;replace H:=hid H2;clear H2;try simp only[Array.reduceGetElem,zs]
     refine h_v ?_;refine h_end ?_;go_upto_region 16 with (fail)
     refine wp_region_lit (Nx.out ?_);refine h_v ?_;refine H.out.h_l1 3 ?_ uSIn_;refine h_v ?_;refine h_op (fun Kz hK=>?_);refine St.o_load (ty:=100) H.out rfl rfl 2 rfl uMp_ sMp_ (hK.out _ _ ?_);clear hK Kz;try simp only[Array.reduceGetElem,zs]
     refine h_v ?_;refine h_v ?_;refine h_op (fun Kz hK=>?_);refine H.out.o_lit1 rfl underlying86 iIn2_ rfl rfl (by decide) (by decide) rfl rfl (fun wl Cm _ H2=>?_);refine hK.out _ _ ?_;clear hK Kz;replace H:=hid H2;clear H2;try simp only[Array.reduceGetElem,zs]
     refine h_op (fun Kz hK=>?_);refine H.out.o_append (r:=inpD ⟨x,(mm:Int),m2,x⟩) rfl underlying86 iIn_ rfl (by decide) (by decide) 1 rfl rfl rfl rfl rfl 0 rfl rfl (HROC.out _ _) (by rw[HRL2.out];exact HKL.out) (fun wl bo9 bp9 _ H2=>?_);refine hK.out _ _ ?_;clear hK Kz;replace H:=hid H2;clear H2;try simp only[Array.reduceGetElem,zs]
     refine h_v ?_;refine h_op (fun Kz hK=>?_);refine St.o_store1 (ty:=86) H.out rfl rfl rfl 4 rfl (yI rfl) sSIn_ rfl (fun wl _ _ H2=>?_);refine hK.out _ _ ?_;clear hK Kz;replace H:=hid H2;clear H2;try simp only[Array.reduceGetElem,zs]
     refine h_end ?_;go_wp2_with fail
     have H3:=H.out.drop (L':=[(Wb,[.int .i64 2,.string N,.slice none 0 0,.int .i64 (kk:Int),.int .i64 A,.int .i64 B,(.slice bo9 ((((insOf l ms).take k).map inpD).length+1) bp9),.int .i64 8,.string ⟨#[]⟩,.slice (some ⟨Pb,0,none⟩) 1 1,.int .i64 0,.string ⟨#[]⟩,.int .i64 0,.int .i64 0,.string ⟨#[]⟩,.string ⟨#[]⟩,.slice none 0 0,.slice none 0 0,.slice none 0 0,.slice none 0 0,.slice none 0 0,.slice none 0 0,.int .i64 0,.string ⟨#[]⟩,.slice none 0 0]),(Sb,[.int .i64 (kk:Int),.int .i64 A,.int .i64 B]),(Zb,[.string N,.int .i64 (kk:Int),.int .i64 A,.int .i64 B,.slice (some ⟨fb,fo,none⟩) L fc,.slice (some ⟨mb,mo,none⟩) M mc])]) (.cons _ (.cons _ (.cons _ (.cons _ (List.Sublist.refl _)))));simp only[List.set_cons_zero,List.set_cons_succ]at H3;rw[HRL.out,HRL2.out]at H3;try rw[HMIN.out]at H3
     have H4:=hid H3;clear H H3;go_roundw
     case rel=>exact ⟨k+1,ao9,cap9,_,bo9,bp9,_,by omega,by first|rw[HRL.out]|rw[HMIN.out],by go_num,HPK1,by show St _ _ _ _ _ _;rw[HTK1.out,HTK2.out];exact H4.out⟩
     case measure=>simp[intOf];omega
    ·as_aux_lemma =>
     have HW:Hid (X++⟨#[32]⟩++MW++(⟨#[32]⟩++NM)++⟨#[32,97,115,32]⟩++X=⟨(inT2 ⟨x,(mm:Int),m2,x⟩).toArray⟩):=by
      show _=_
      rw[← HXX.out,← HMWe.out,← HNMe.out];show (⟨x.toArray⟩:ByteArray)++⟨([32]:Str).toArray⟩++⟨(wAt zaf (mm:Int)).toArray⟩++(⟨([32]:Str).toArray⟩++⟨(Lib.itoa m2).toArray⟩)++⟨([32,97,115,32]:Str).toArray⟩++⟨x.toArray⟩=_
      rw[apm,apm,apm,apm,apm,apm];congr 2
      unfold inT2 inM;simp only;rw[if_pos (Or.inr (by simpa using q4))];simp
     have HROW:Hid (∀ (W:World) (q:Nat→Prop),Row W q (strD (inT2 ⟨x,(mm:Int),m2,x⟩)) [.string (X++⟨#[32]⟩++MW++(⟨#[32]⟩++NM)++⟨#[32,97,115,32]⟩++X)]):=fun W q=>by rw[HW.out];exact (Row.nil W q).cons (.v _ rfl)
     clear HW;go_upto_region 10 with (fail)
     refine wp_region_lit (Nx.out ?_);refine h_v ?_;refine H.out.h_l1 0 ?_ uInt_;refine h_v ?_;refine h_v ?_;first|(refine h_s ?_)|(refine h_v ?_)
     first|(refine h_s ?_)|(refine H.out.h_l1 0 ?_ uInt_)
     first|(refine h_s ?_)|(refine h_v ?_)
     refine h_v ?_;refine h_v ?_;first|(refine h_s ?_)|(refine h_v ?_)
     first|(refine h_s ?_)|(refine H.out.h_l1 0 ?_ uInt_)
     first|(refine h_s ?_)|(refine h_v ?_)
     first|(refine h_s ?_)|(refine h_v ?_)
     first|(refine h_s ?_)|(refine h_v ?_)
     first|(refine h_s ?_)|(refine H.out.h_l1 0 ?_ uInt_)
     first|(refine h_s ?_)|(refine h_v ?_)
     first|(refine h_s ?_)|(refine h_v ?_)
     first|(refine h_s ?_)|(refine h_v ?_)
     first|(refine h_s ?_)|(refine h_v ?_)
     first|(refine h_s ?_)|(refine H.out.h_l1 0 ?_ uInt_)
     first|(refine h_s ?_)|(refine h_v ?_)
     first|(refine h_s ?_)|(refine h_v ?_)
     refine h_v ?_;refine h_v ?_;first|(refine h_s ?_)|(refine h_v ?_)
     first|(refine h_s ?_)|(refine H.out.h_l1 0 ?_ uInt_)
     first|(refine h_s ?_)|(refine h_v ?_)
     first|(refine h_s ?_)|(refine h_v ?_)
     first|(refine h_s ?_)|(refine h_v ?_)
     first|(refine h_s ?_)|(refine H.out.h_l1 0 ?_ uInt_)
     first|(refine h_s ?_)|(refine h_v ?_)
     first|(refine h_s ?_)|(refine h_v ?_)
     refine h_v ?_;refine h_v ?_;first|(refine h_s ?_)|(refine h_v ?_)
     first|(refine h_s ?_)|(refine H.out.h_l1 0 ?_ uInt_)
     first|(refine h_s ?_)|(refine h_v ?_)
     refine h_v ?_;refine h_v ?_;first|(refine h_s ?_)|(refine h_v ?_)
     first|(refine h_s ?_)|(refine H.out.h_l1 0 ?_ uInt_)
     first|(refine h_s ?_)|(refine h_v ?_)
     refine h_v ?_;refine h_end ?_;go_upto_region 12 with (fail)
     refine wp_region_lit (Nx.out ?_);refine h_v ?_;refine h_add ?_;refine h_op (fun Kz hK=>?_);refine H.out.o_lit rfl underlying48 zaR zz6 rfl rfl rfl (by decide) (by decide) (by decide) (all_k rfl) rfl (fun wl Lb _ H2=>?_);refine hK.out _ _ ?_;clear hK Kz;replace H:=hid H2;clear H2;try simp only[Array.reduceGetElem,zs]
     refine h_v ?_;refine H.out.h_l1 1 ?_ uInt_;refine h_v ?_;refine H.out.h_l1 0 ?_ uStr_ (hv:=HMW.out);refine h_add ?_;refine h_v ?_;refine h_end ?_;go_upto_region 13 with (fail)
     refine wp_region_lit (Nx.out ?_);refine h_v ?_;refine H.out.h_l1 1 ?_ uInt_;refine h_v ?_;refine h_v ?_;first|(refine h_s ?_)|(refine h_v ?_)
     first|(refine h_s ?_)|(refine H.out.h_l1 1 ?_ uInt_)
     first|(refine h_s ?_)|(refine h_v ?_)
     refine h_v ?_;refine h_end ?_;go_upto_region 14 with (fail)
     refine wp_region_lit (Nx.out ?_);refine h_v ?_;refine h_v ?_;refine H.out.h_l1 1 ?_ uInt_;refine h_op (fun Kz hK=>?_);go_simp;go_at_call 28
     (with_reducible (refine (HNM.out _).mono ?_))
     rintro e wc ⟨rfl,hb9⟩;have H2:=H.out.below hb9;clear hb9;refine hK.out _ _ ?_;clear hK Kz;replace H:=hid H2;clear H2;try simp only[Array.reduceGetElem,zs]
     refine h_add ?_;refine h_add ?_;refine h_v ?_;refine h_end ?_;go_upto_region 15 with (fail)
     refine wp_region_lit (Nx.out ?_);refine h_v ?_;refine h_v ?_;refine h_add ?_;refine h_v ?_;refine h_add ?_;refine h_op (fun Kz hK=>?_);refine H.out.o_lit1 rfl underlying48 zaR rfl rfl (by decide) (by decide) rfl rfl (fun wl Cl _ H2=>?_);refine hK.out _ _ ?_;clear hK Kz;replace H:=hid H2;clear H2;try simp only[Array.reduceGetElem,zs]
     refine h_op (fun Kz hK=>?_);refine H.out.o_append (r:=strD (inT2 ⟨x,(mm:Int),m2,x⟩)) rfl underlying48 iStr_ rfl (by decide) (by decide) 0 rfl rfl rfl rfl rfl 0 rfl rfl (HROW.out _ _) (by rw[HRL.out];exact HKL.out) (fun wl ao9 cap9 _ H2=>?_);refine hK.out _ _ ?_;clear hK Kz;replace H:=hid H2;clear H2;try simp only[Array.reduceGetElem,zs]
     refine h_v ?_;refine h_end ?_;go_upto_region 16 with (fail)
     refine wp_region_lit (Nx.out ?_);refine h_v ?_;refine H.out.h_l1 3 ?_ uSIn_;refine h_v ?_;refine h_op (fun Kz hK=>?_);refine St.o_load (ty:=100) H.out rfl rfl 2 rfl uMp_ sMp_ (hK.out _ _ ?_);clear hK Kz;try simp only[Array.reduceGetElem,zs]
     refine h_v ?_;refine h_v ?_;refine h_op (fun Kz hK=>?_);refine H.out.o_lit1 rfl underlying86 iIn2_ rfl rfl (by decide) (by decide) rfl rfl (fun wl Cm _ H2=>?_);refine hK.out _ _ ?_;clear hK Kz;replace H:=hid H2;clear H2;try simp only[Array.reduceGetElem,zs]
     refine h_op (fun Kz hK=>?_);refine H.out.o_append (r:=inpD ⟨x,(mm:Int),m2,x⟩) rfl underlying86 iIn_ rfl (by decide) (by decide) 1 rfl rfl rfl rfl rfl 0 rfl rfl (HROC.out _ _) (by rw[HRL2.out];exact HKL.out) (fun wl bo9 bp9 _ H2=>?_);refine hK.out _ _ ?_;clear hK Kz;replace H:=hid H2;clear H2;try simp only[Array.reduceGetElem,zs]
     refine h_v ?_;refine h_op (fun Kz hK=>?_);refine St.o_store1 (ty:=86) H.out rfl rfl rfl 4 rfl (yI rfl) sSIn_ rfl (fun wl _ _ H2=>?_);refine hK.out _ _ ?_;clear hK Kz;replace H:=hid H2;clear H2;try simp only[Array.reduceGetElem,zs]
     refine h_end ?_;go_wp2_with fail
     have H3:=H.out.drop (L':=[(Wb,[.int .i64 2,.string N,.slice none 0 0,.int .i64 (kk:Int),.int .i64 A,.int .i64 B,(.slice bo9 ((((insOf l ms).take k).map inpD).length+1) bp9),.int .i64 8,.string ⟨#[]⟩,.slice (some ⟨Pb,0,none⟩) 1 1,.int .i64 0,.string ⟨#[]⟩,.int .i64 0,.int .i64 0,.string ⟨#[]⟩,.string ⟨#[]⟩,.slice none 0 0,.slice none 0 0,.slice none 0 0,.slice none 0 0,.slice none 0 0,.slice none 0 0,.int .i64 0,.string ⟨#[]⟩,.slice none 0 0]),(Sb,[.int .i64 (kk:Int),.int .i64 A,.int .i64 B]),(Zb,[.string N,.int .i64 (kk:Int),.int .i64 A,.int .i64 B,.slice (some ⟨fb,fo,none⟩) L fc,.slice (some ⟨mb,mo,none⟩) M mc])]) (.cons _ (.cons _ (.cons _ (.cons _ (List.Sublist.refl _)))));simp only[List.set_cons_zero,List.set_cons_succ]at H3;rw[HRL.out,HRL2.out]at H3;try rw[HMIN.out]at H3
     have H4:=hid H3;clear H H3;go_roundw
     case rel=>exact ⟨k+1,ao9,cap9,_,bo9,bp9,_,by omega,by first|rw[HRL.out]|rw[HMIN.out],by go_num,HPK1,by show St _ _ _ _ _ _;rw[HTK1.out,HTK2.out];exact H4.out⟩
     case measure=>simp[intOf];omega
   ·as_aux_lemma =>
    obtain rfl:k=L:=by omega
    obtain ⟨J,hJs,HJ,HO⟩:=HFIN.out HPK.out;have htk:(insOf l ms).take k=insOf l ms:=by rw[← HCL.out,List.take_length]
    have hlt2:¬ ((k:Int)<(k:Int)):=by omega
    have H3:=H.out.shut.shut;rw[htk,show (insOf l ms).map (fun x=>strD (inT2 x))=((insOf l ms).map inT2).map strD from by rw[List.map_map];rfl]at H3;replace H:=hid H3;have hkk:(kk:Int)<6:=by omega
    have hz50:¬ 9223372036854775807<6+N.size:=by omega
    have hz51:¬ 9223372036854775807<6+N.size+1:=by omega
    have hz52:¬ 9223372036854775807<6+N.size+1+KS.size:=by omega
    have hz53:¬ 9223372036854775807<6+N.size+1+KS.size+1:=by omega
    have hz54:¬ 9223372036854775807<6+N.size+1+KS.size+1+NA.size:=by omega
    have hz55:¬ 9223372036854775807<6+N.size+1+KS.size+1+NA.size+4:=by omega
    have hz56:¬ 9223372036854775807<6+N.size+1+KS.size+1+NA.size+4+NB.size:=by omega
    have hz57:¬ 9223372036854775807<6+N.size+1+KS.size+1+NA.size+4+NB.size+6:=by omega
    have hz58:¬ 9223372036854775807<6+N.size+1+KS.size+1+NA.size+4+NB.size+6+J.size:=by omega
    have hz59:¬ 9223372036854775807<6+N.size+1+KS.size+1+NA.size+4+NB.size+6+J.size+4:=by omega
    have hz60:¬ 9223372036854775807<6+N.size+1+KS.size+1+NA.size+4+NB.size+6+J.size+4+F0.size:=by omega
    have hz61:¬ 9223372036854775807<6+N.size+1+KS.size+1+NA.size+4+NB.size+6+J.size+4+F0.size+12:=by omega
    clear htk H3 HFIN;go_upto_region 7 with (fail)
    refine wp_region_lit (Nx.out ?_);refine h_v ?_;refine h_end ?_;go_upto_region 18 with (fail)
    go_cut [10] (fun s10 wx=>s10=.string (((((((((((((⟨#[97,115,115,101,116,32]⟩:ByteArray)++N)++⟨#[32]⟩)++KS)++⟨#[32]⟩)++NA)++⟨#[32,46,46,32]⟩)++NB)++⟨#[10,102,114,111,109,32]⟩)++J)++⟨#[10,100,111,32]⟩)++F0)++⟨#[32,124,32,100,105,115,116,105,110,99,116,59]⟩)∧Hid (St (fun _=>False) w wx [(Wb,[.int .i64 2,.string N,.slice none 0 0,.int .i64 (kk:Int),.int .i64 A,.int .i64 B,.slice bo k bp,.int .i64 8,.string ⟨#[]⟩,.slice (some ⟨Pb,0,none⟩) 1 1,.int .i64 0,.string ⟨#[]⟩,.int .i64 0,.int .i64 0,.string ⟨#[]⟩,.string ⟨#[]⟩,.slice none 0 0,.slice none 0 0,.slice none 0 0,.slice none 0 0,.slice none 0 0,.slice none 0 0,.int .i64 0,.string ⟨#[]⟩,.slice none 0 0]),(Sb,[.int .i64 (kk:Int),.int .i64 A,.int .i64 B]),(Zb,[.string N,.int .i64 (kk:Int),.int .i64 A,.int .i64 B,.slice (some ⟨fb,fo,none⟩) k fc,.slice (some ⟨mb,mo,none⟩) M mc])] [([.sl 4 ((insOf l ms).map inpD)],[.slice bo k bp]),([.sl 1 (((insOf l ms).map inT2).map strD)],[.slice ao k cp]),([.sl 16 [plD (scanL f0)]],[.slice (some ⟨Pb,0,none⟩) 1 1])] []))
    case first=>as_aux_lemma =>
     refine zaa 31 (S:=fun W=>W.cell? ⟨Zb,0,none⟩=some (.string N)∧W.cell? ⟨Zb,4,none⟩=some (.slice (some ⟨fb,fo,none⟩) k fc)∧W.cell? ⟨Sb,0,none⟩=some (.int .i64 (kk:Int))∧W.cell? ⟨Sb,1,none⟩=some (.int .i64 A)∧W.cell? ⟨Sb,2,none⟩=some (.int .i64 B)∧W.cell? ⟨fb,fo,none⟩=some (.string F0)) (by kernel_rfl) (by exact ⟨H.out.drew.cellS (i:=2) rfl rfl,H.out.drew.cellS (i:=2) rfl rfl,H.out.drew.cellS (i:=1) rfl rfl,H.out.drew.cellS (i:=1) rfl rfl,H.out.drew.cellS (i:=1) rfl rfl,HF0.out _ (zac H.out.drew)⟩) (fun zJ=>?_);replace H:=hid H.out.drew;refine tKm 0 ?_;refine tKm 1 ?_;refine tKm 2 ?_;refine tKm 3 ?_;refine tKm 5 ?_;refine tKm 6 ?_;refine tKm 11 ?_;refine tKm 12 ?_;refine tKm 16 ?_;refine tKm 17 ?_;refine tKm 21 ?_;refine tKm 25 ?_;refine tKm 26 ?_;refine tKm 27 ?_;refine tKm 28 ?_;refine rKs [4,13] ?_
     refine zai.cons rfl (fun K hK=>?_) (zai.cons rfl (fun K hK=>?_) zai.nil)
     ·rw[if_pos (by rfl)];refine H.out.o_lit rfl underlying48 zaR zz4 rfl rfl rfl (by decide) (by decide) (by decide) (all_k rfl) rfl (fun wl Lb _ H2=>?_);refine hK.out _ _ ?_ (fun zH=>?_)
      ·exact ⟨H2.cellS (i:=3) rfl rfl,H2.cellS (i:=3) rfl rfl,H2.cellS (i:=2) rfl rfl,H2.cellS (i:=2) rfl rfl,H2.cellS (i:=2) rfl rfl,HF0.out _ (zac H2)⟩
      replace zJ:=zH;clear hK K;replace H:=hid H2;clear H2;refine wpAnyM_imp (S2:=fun W=>W.cell? ⟨Lb,kk,none⟩=some (.string KS)∧W.cell? ⟨Zb,0,none⟩=some (.string N)∧W.cell? ⟨Zb,4,none⟩=some (.slice (some ⟨fb,fo,none⟩) k fc)∧W.cell? ⟨Sb,0,none⟩=some (.int .i64 (kk:Int))∧W.cell? ⟨Sb,1,none⟩=some (.int .i64 A)∧W.cell? ⟨Sb,2,none⟩=some (.int .i64 B)∧W.cell? ⟨fb,fo,none⟩=some (.string F0)) (fun _ h=>h.2) _ _ _ _ ?_;replace zJ:=And.intro (H.out.cellS (i:=0) rfl HKS.out) zJ;refine tKm 7 ?_;refine tKm 8 ?_;refine tKm 9 ?_;refine tKm 10 ?_;refine rK1 13 fun K hK=>?_
      go_simp;go_at_call 28
      (with_reducible (refine (HNA.out _).mono ?_))
      rintro e wc ⟨rfl,hb⟩;have H2:=H.out.below hb;clear hb;refine hK.out _ _ ?_ (fun zH=>?_)
      ·exact ⟨H2.cellS (i:=0) rfl HKS.out,H2.cellS (i:=3) rfl rfl,H2.cellS (i:=3) rfl rfl,H2.cellS (i:=2) rfl rfl,H2.cellS (i:=2) rfl rfl,H2.cellS (i:=2) rfl rfl,HF0.out _ (zac H2)⟩
      replace zJ:=zH;clear hK K;replace H:=hid H2;clear H2;refine tKm 14 ?_;refine tKm 15 ?_;refine rK1 18 fun K hK=>?_
      go_simp;go_at_call 28
      (with_reducible (refine (HNB.out _).mono ?_))
      rintro e wc ⟨rfl,hb⟩;have H2:=H.out.below hb;clear hb;refine hK.out _ _ ?_ (fun zH=>?_)
      ·exact ⟨H2.cellS (i:=0) rfl HKS.out,H2.cellS (i:=3) rfl rfl,H2.cellS (i:=3) rfl rfl,H2.cellS (i:=2) rfl rfl,H2.cellS (i:=2) rfl rfl,H2.cellS (i:=2) rfl rfl,HF0.out _ (zac H2)⟩
      replace zJ:=zH;clear hK K;replace H:=hid H2;clear H2;refine tKm 19 ?_;refine tKm 20 ?_;refine rK1 22 fun K hK=>?_
      go_simp;go_at_call 35
      (with_reducible (refine (HJ.out _ _ _ _ (repOf (H.out.rowAt (j:=1) rfl))).mono ?_))
      rintro e wc ⟨rfl,hb⟩;have H2:=H.out.below hb;clear hb;refine hK.out _ _ ?_ (fun zH=>?_)
      ·exact ⟨H2.cellS (i:=0) rfl HKS.out,H2.cellS (i:=3) rfl rfl,H2.cellS (i:=3) rfl rfl,H2.cellS (i:=2) rfl rfl,H2.cellS (i:=2) rfl rfl,H2.cellS (i:=2) rfl rfl,HF0.out _ (zac H2)⟩
      replace zJ:=zH;clear hK K;replace H:=hid H2;clear H2;refine tKm 23 ?_;refine tKm 24 ?_;refine tKm 29 ?_;refine tKm 30 ?_;refine rKl 31 fun K hK=>?_
      go_simp;refine hK.out _ _ ?_;clear hK K;refine rKd ?_;go_wp2_with fail
      go_meet
      exact ⟨rfl,H.out.drop (.cons _ (List.Sublist.refl _))⟩
     ·go_simp;go_at_call 28
      (with_reducible (refine (HNA.out _).mono ?_))
      rintro e wc ⟨rfl,hb⟩;have H2:=H.out.below hb;clear hb;refine hK.out _ _ ?_ (fun zH=>?_)
      ·exact ⟨H2.cellS (i:=2) rfl rfl,H2.cellS (i:=2) rfl rfl,H2.cellS (i:=1) rfl rfl,H2.cellS (i:=1) rfl rfl,H2.cellS (i:=1) rfl rfl,HF0.out _ (zac H2)⟩
      replace zJ:=zH;clear hK K;replace H:=hid H2;clear H2;refine rKs [4,18] ?_;refine zai.cons rfl (fun K hK=>?_) (zai.cons rfl (fun K hK=>?_) zai.nil)
      ·rw[if_pos (by rfl)];refine H.out.o_lit rfl underlying48 zaR zz4 rfl rfl rfl (by decide) (by decide) (by decide) (all_k rfl) rfl (fun wl Lb _ H2=>?_);refine hK.out _ _ ?_ (fun zH=>?_)
       ·exact ⟨H2.cellS (i:=3) rfl rfl,H2.cellS (i:=3) rfl rfl,H2.cellS (i:=2) rfl rfl,H2.cellS (i:=2) rfl rfl,H2.cellS (i:=2) rfl rfl,HF0.out _ (zac H2)⟩
       replace zJ:=zH;clear hK K;replace H:=hid H2;clear H2;refine wpAnyM_imp (S2:=fun W=>W.cell? ⟨Lb,kk,none⟩=some (.string KS)∧W.cell? ⟨Zb,0,none⟩=some (.string N)∧W.cell? ⟨Zb,4,none⟩=some (.slice (some ⟨fb,fo,none⟩) k fc)∧W.cell? ⟨Sb,0,none⟩=some (.int .i64 (kk:Int))∧W.cell? ⟨Sb,1,none⟩=some (.int .i64 A)∧W.cell? ⟨Sb,2,none⟩=some (.int .i64 B)∧W.cell? ⟨fb,fo,none⟩=some (.string F0)) (fun _ h=>h.2) _ _ _ _ ?_;replace zJ:=And.intro (H.out.cellS (i:=0) rfl HKS.out) zJ;refine tKm 7 ?_;refine tKm 8 ?_;refine tKm 9 ?_;refine tKm 10 ?_;refine tKm 14 ?_;refine tKm 15 ?_;refine rK1 18 fun K hK=>?_
       go_simp;go_at_call 28
       (with_reducible (refine (HNB.out _).mono ?_))
       rintro e wc ⟨rfl,hb⟩;have H2:=H.out.below hb;clear hb;refine hK.out _ _ ?_ (fun zH=>?_)
       ·exact ⟨H2.cellS (i:=0) rfl HKS.out,H2.cellS (i:=3) rfl rfl,H2.cellS (i:=3) rfl rfl,H2.cellS (i:=2) rfl rfl,H2.cellS (i:=2) rfl rfl,H2.cellS (i:=2) rfl rfl,HF0.out _ (zac H2)⟩
       replace zJ:=zH;clear hK K;replace H:=hid H2;clear H2;refine tKm 19 ?_;refine tKm 20 ?_;refine rK1 22 fun K hK=>?_
       go_simp;go_at_call 35
       (with_reducible (refine (HJ.out _ _ _ _ (repOf (H.out.rowAt (j:=1) rfl))).mono ?_))
       rintro e wc ⟨rfl,hb⟩;have H2:=H.out.below hb;clear hb;refine hK.out _ _ ?_ (fun zH=>?_)
       ·exact ⟨H2.cellS (i:=0) rfl HKS.out,H2.cellS (i:=3) rfl rfl,H2.cellS (i:=3) rfl rfl,H2.cellS (i:=2) rfl rfl,H2.cellS (i:=2) rfl rfl,H2.cellS (i:=2) rfl rfl,HF0.out _ (zac H2)⟩
       replace zJ:=zH;clear hK K;replace H:=hid H2;clear H2;refine tKm 23 ?_;refine tKm 24 ?_;refine tKm 29 ?_;refine tKm 30 ?_;refine rKl 31 fun K hK=>?_
       go_simp;refine hK.out _ _ ?_;clear hK K;refine rKd ?_;go_wp2_with fail
       go_meet
       exact ⟨rfl,H.out.drop (.cons _ (List.Sublist.refl _))⟩
      ·go_simp;go_at_call 28
       (with_reducible (refine (HNB.out _).mono ?_))
       rintro e wc ⟨rfl,hb⟩;have H2:=H.out.below hb;clear hb;refine hK.out _ _ ?_ (fun zH=>?_)
       ·exact ⟨H2.cellS (i:=2) rfl rfl,H2.cellS (i:=2) rfl rfl,H2.cellS (i:=1) rfl rfl,H2.cellS (i:=1) rfl rfl,H2.cellS (i:=1) rfl rfl,HF0.out _ (zac H2)⟩
       replace zJ:=zH;clear hK K;replace H:=hid H2;clear H2;refine rKs [4,22] ?_;refine zai.cons rfl (fun K hK=>?_) (zai.cons rfl (fun K hK=>?_) zai.nil)
       ·rw[if_pos (by rfl)];refine H.out.o_lit rfl underlying48 zaR zz4 rfl rfl rfl (by decide) (by decide) (by decide) (all_k rfl) rfl (fun wl Lb _ H2=>?_);refine hK.out _ _ ?_ (fun zH=>?_)
        ·exact ⟨H2.cellS (i:=3) rfl rfl,H2.cellS (i:=3) rfl rfl,H2.cellS (i:=2) rfl rfl,H2.cellS (i:=2) rfl rfl,H2.cellS (i:=2) rfl rfl,HF0.out _ (zac H2)⟩
        replace zJ:=zH;clear hK K;replace H:=hid H2;clear H2;refine wpAnyM_imp (S2:=fun W=>W.cell? ⟨Lb,kk,none⟩=some (.string KS)∧W.cell? ⟨Zb,0,none⟩=some (.string N)∧W.cell? ⟨Zb,4,none⟩=some (.slice (some ⟨fb,fo,none⟩) k fc)∧W.cell? ⟨Sb,0,none⟩=some (.int .i64 (kk:Int))∧W.cell? ⟨Sb,1,none⟩=some (.int .i64 A)∧W.cell? ⟨Sb,2,none⟩=some (.int .i64 B)∧W.cell? ⟨fb,fo,none⟩=some (.string F0)) (fun _ h=>h.2) _ _ _ _ ?_;replace zJ:=And.intro (H.out.cellS (i:=0) rfl HKS.out) zJ;refine tKm 7 ?_;refine tKm 8 ?_;refine tKm 9 ?_;refine tKm 10 ?_;refine tKm 14 ?_;refine tKm 15 ?_;refine tKm 19 ?_;refine tKm 20 ?_;refine rK1 22 fun K hK=>?_
        go_simp;go_at_call 35
        (with_reducible (refine (HJ.out _ _ _ _ (repOf (H.out.rowAt (j:=1) rfl))).mono ?_))
        rintro e wc ⟨rfl,hb⟩;have H2:=H.out.below hb;clear hb;refine hK.out _ _ ?_ (fun zH=>?_)
        ·exact ⟨H2.cellS (i:=0) rfl HKS.out,H2.cellS (i:=3) rfl rfl,H2.cellS (i:=3) rfl rfl,H2.cellS (i:=2) rfl rfl,H2.cellS (i:=2) rfl rfl,H2.cellS (i:=2) rfl rfl,HF0.out _ (zac H2)⟩
        replace zJ:=zH;clear hK K;replace H:=hid H2;clear H2;refine tKm 23 ?_;refine tKm 24 ?_;refine tKm 29 ?_;refine tKm 30 ?_;refine rKl 31 fun K hK=>?_
        go_simp;refine hK.out _ _ ?_;clear hK K;refine rKd ?_;go_wp2_with fail
        go_meet
        exact ⟨rfl,H.out.drop (.cons _ (List.Sublist.refl _))⟩
       ·go_simp;go_at_call 35
        (with_reducible (refine (HJ.out _ _ _ _ (repOf (H.out.rowAt (j:=1) rfl))).mono ?_))
        rintro e wc ⟨rfl,hb⟩;have H2:=H.out.below hb;clear hb;refine hK.out _ _ ?_ (fun zH=>?_)
        ·exact ⟨H2.cellS (i:=2) rfl rfl,H2.cellS (i:=2) rfl rfl,H2.cellS (i:=1) rfl rfl,H2.cellS (i:=1) rfl rfl,H2.cellS (i:=1) rfl rfl,HF0.out _ (zac H2)⟩
        replace zJ:=zH;clear hK K;replace H:=hid H2;clear H2;refine rK1 4 fun K hK=>?_
        rw[if_pos (by rfl)];refine H.out.o_lit rfl underlying48 zaR zz4 rfl rfl rfl (by decide) (by decide) (by decide) (all_k rfl) rfl (fun wl Lb _ H2=>?_);refine hK.out _ _ ?_ (fun zH=>?_)
        ·exact ⟨H2.cellS (i:=3) rfl rfl,H2.cellS (i:=3) rfl rfl,H2.cellS (i:=2) rfl rfl,H2.cellS (i:=2) rfl rfl,H2.cellS (i:=2) rfl rfl,HF0.out _ (zac H2)⟩
        replace zJ:=zH;clear hK K;replace H:=hid H2;clear H2;refine wpAnyM_imp (S2:=fun W=>W.cell? ⟨Lb,kk,none⟩=some (.string KS)∧W.cell? ⟨Zb,0,none⟩=some (.string N)∧W.cell? ⟨Zb,4,none⟩=some (.slice (some ⟨fb,fo,none⟩) k fc)∧W.cell? ⟨Sb,0,none⟩=some (.int .i64 (kk:Int))∧W.cell? ⟨Sb,1,none⟩=some (.int .i64 A)∧W.cell? ⟨Sb,2,none⟩=some (.int .i64 B)∧W.cell? ⟨fb,fo,none⟩=some (.string F0)) (fun _ h=>h.2) _ _ _ _ ?_;replace zJ:=And.intro (H.out.cellS (i:=0) rfl HKS.out) zJ;refine tKm 7 ?_;refine tKm 8 ?_;refine tKm 9 ?_;refine tKm 10 ?_;refine tKm 14 ?_;refine tKm 15 ?_;refine tKm 19 ?_;refine tKm 20 ?_;refine tKm 23 ?_;refine tKm 24 ?_;refine tKm 29 ?_;refine tKm 30 ?_;refine rKl 31 fun K hK=>?_
        go_simp;refine hK.out _ _ ?_;clear hK K;refine rKd ?_;go_wp2_with fail
        go_meet
        exact ⟨rfl,H.out.drop (.cons _ (List.Sublist.refl _))⟩
    case rest =>
    obtain ⟨rfl,H2⟩:=hcut;clear H;have H:=H2;clear H2;go_upto_region 19 with (fail)
    refine wp_region_lit (Nx.out ?_);refine h_v ?_;refine h_op (fun Kz hK=>?_);refine St.o_load (ty:=88) H.out rfl rfl 0 rfl uDf_ sDf_ (hK.out _ _ ?_);clear hK Kz;try simp only[Array.reduceGetElem,zs]
    refine h_op (fun Kz hK=>?_);go_simp;go_at_call 36
    (with_reducible (refine (HO.out _ _ _ _ _ (repOf (H.out.rowAt (j:=0) rfl)) (repOf (H.out.rowAt (j:=2) rfl)) (zac H.out)).mono ?_))
    rintro e wc ⟨rfl,hb9⟩;have H2:=H.out.below hb9;clear hb9;refine hK.out _ _ ?_;clear hK Kz;replace H:=hid H2;clear H2;try simp only[Array.reduceGetElem,zs]
    refine h_v ?_;first|(refine h_s ?_)|(refine h_op (fun Kz hK=>?_);go_simp;go_at_call 23;(with_reducible (refine (HAW.out _ (zac H.out)).mono ?_));rintro e wc ⟨rfl,hb9⟩;have H2:=H.out.below hb9;clear hb9;refine hK.out _ _ ?_;clear hK Kz;replace H:=hid H2;clear H2;try simp only[Array.reduceGetElem,zs])
    refine h_v ?_;refine h_v ?_;refine h_end ?_;go_wp2_with fail
    go_ret
    exact ⟨rfl,zac H.out⟩
 ·as_aux_lemma =>
  have hall':∀ (b0 b1 b2 b3 b4:Bool),((M:Int) == 0)=b0→decide (K<1)=b1→decide (5<K)=b2→decide (A<0)=b3→decide (B<0)=b4→¬ (qn=true∧qs=true∧b0=false∧b1=false∧b2=false∧b3=false∧b4=false):=fun b0 b1 b2 b3 b4 e0 e1 e2 e3 e4 h=>by
   obtain ⟨h1,h2,rfl,rfl,rfl,rfl,rfl⟩:=h;rw[yK]at e1 e2 e3 e4;rw[yT]at e0;exact hall ⟨h1,h2,by omega,⟨by omega,by omega⟩,by omega,by omega⟩
  obtain ⟨b0,g0⟩:∃ b,((M:Int) == 0)=b:=⟨_,rfl⟩;obtain ⟨b1,g1⟩:∃ b,decide (K<1)=b:=⟨_,rfl⟩;obtain ⟨b2,g2⟩:∃ b,decide (5<K)=b:=⟨_,rfl⟩;obtain ⟨b3,g3⟩:∃ b,decide (A<0)=b:=⟨_,rfl⟩;obtain ⟨b4,g4⟩:∃ b,decide (B<0)=b:=⟨_,rfl⟩;have HNO:=hid (hall' b0 b1 b2 b3 b4 g0 g1 g2 g3 g4);rw[hL,hMM,hN];rw[hL]at HWS;clear hE hF hM hn hls hqn hqs hN hL hMM HRA hall hall' hA2 hB2;have hor:qn=false∨(qn=true∧qs=false)∨(qn=true∧qs=true∧b0=true)∨(qn=true∧qs=true∧b0=false∧b1=true)∨(qn=true∧qs=true∧b0=false∧b1=false∧b2=true)∨(qn=true∧qs=true∧b0=false∧b1=false∧b2=false∧b3=true)∨(qn=true∧qs=true∧b0=false∧b1=false∧b2=false∧b3=false∧b4=true):=by
   have h:=HNO.out;revert h
   cases qn<;>cases qs<;>cases b0<;>cases b1<;>cases b2<;>cases b3<;>cases b4<;>decide
  clear HNO;rcases hor with rfl|⟨rfl,rfl⟩|⟨rfl,rfl,rfl⟩|⟨rfl,rfl,rfl,rfl⟩|⟨rfl,rfl,rfl,rfl,rfl⟩|⟨rfl,rfl,rfl,rfl,rfl,rfl⟩|⟨rfl,rfl,rfl,rfl,rfl,rfl,rfl⟩
  all_goals
   go_enter func8,ntmps8
   go_upto_region 0 with (fail)
   refine wp_region_lit (Nx.out ?_);refine h_op (fun Kz hK=>?_);refine St.o_box (vs:=[.string N,.int .i64 K,.int .i64 A,.int .i64 B,.slice fa L fc,.slice ma M mc]) H.out rfl rfl rfl (fun wl Zb _ H2=>?_);refine hK.out _ _ ?_;clear hK Kz;replace H:=hid H2;clear H2;try simp only[Array.reduceGetElem,zs]
   refine h_v ?_;refine h_end ?_;go_upto_region 1 with (fail)
   refine wp_region_lit (Nx.out ?_);refine h_v ?_;refine h_v (hr:=zbG (ty:=85) (cs:=[.int .i64 K,.int .i64 A,.int .i64 B]) rfl rfl uSc_ sSc_ (H.out.sub (i:=0) rfl 1 (vs:=[.int .i64 K,.int .i64 A,.int .i64 B]) rfl)) ?_;refine h_op (fun Kz hK=>?_);refine St.o_alloc (ty:=85) H.out rfl zSc_ rfl (fun wl Sb _ H2=>?_);refine hK.out _ _ ?_;clear hK Kz;replace H:=hid H2;clear H2;try simp only[Array.reduceGetElem,zs]
   refine h_op (fun Kz hK=>?_);refine St.o_store (ty:=85) H.out rfl rfl rfl 0 rfl rfl rfl sSc_ (zad rfl) (fun wl _ _ H2=>?_);refine hK.out _ _ ?_;clear hK Kz;replace H:=hid H2;clear H2;try simp only[Array.reduceGetElem,zs]
   refine h_end ?_;go_upto_region 2 with (fail)
   refine wp_region_lit (Nx.out ?_);refine h_v ?_;refine H.out.h_l1 1 ?_ uStr_;refine h_op (fun Kz hK=>?_);go_simp;go_at_call 21
   (with_reducible (refine (HW.out _ (zac H.out)).mono ?_))
   rintro e wc ⟨rfl,hb9⟩;have H2:=H.out.below hb9;clear hb9;refine hK.out _ _ ?_;clear hK Kz;replace H:=hid H2;clear H2;try simp only[Array.reduceGetElem,zs]
   refine h_v ?_;refine h_v ?_;first|(refine h_s ?_)|(refine h_v ?_)
   first|(refine h_s ?_)|(refine H.out.h_l1 1 ?_ zeB)
   first|(refine h_s ?_)|(refine h_op (fun Kz hK=>?_);go_simp;go_at_call 22;(with_reducible (refine (HWS.out _ (zac H.out)).mono ?_));rintro e wc ⟨rfl,hb9⟩;have H2:=H.out.below hb9;clear hb9;refine hK.out _ _ ?_;clear hK Kz;replace H:=hid H2;clear H2;try simp only[Array.reduceGetElem,zs])
   first|(refine h_s ?_)|(refine h_v ?_)
   refine h_v ?_;refine h_v ?_;first|(refine h_s ?_)|(refine h_v ?_)
   first|(refine h_s ?_)|(refine H.out.h_l1 1 ?_ uMz_)
   first|(refine h_s ?_)|(refine h_v ?_)
   first|(refine h_s ?_)|(refine h_v ?_)
   refine h_v ?_;refine h_v ?_;first|(refine h_s ?_)|(refine h_v ?_)
   first|(refine h_s ?_)|(refine H.out.h_l1 0 ?_ uInt_)
   first|(refine h_s ?_)|(refine h_v ?_)
   refine h_v ?_;refine h_v ?_;first|(refine h_s ?_)|(refine h_v ?_)
   first|(refine h_s ?_)|(refine H.out.h_l1 0 ?_ uInt_)
   first|(refine h_s ?_)|(refine h_v ?_)
   refine h_v ?_;refine h_v ?_;first|(refine h_s ?_)|(refine h_v ?_)
   first|(refine h_s ?_)|(refine H.out.h_l1 0 ?_ uInt_)
   first|(refine h_s ?_)|(refine h_v ?_)
   refine h_v ?_;refine h_v ?_;first|(refine h_s ?_)|(refine h_v ?_)
   first|(refine h_s ?_)|(refine H.out.h_l1 0 ?_ uInt_)
   first|(refine h_s ?_)|(refine h_v ?_)
   refine h_v ?_;refine h_end ?_;go_upto_region 3 with (fail)
   refine wp_region_lit (Nx.out ?_);refine h_op (fun Kz hK=>?_);go_simp;go_at_call 23
   (with_reducible (refine (HAW.out _ (zac H.out)).mono ?_))
   rintro e wc ⟨rfl,hb9⟩;have H2:=H.out.below hb9;clear hb9;refine hK.out _ _ ?_;clear hK Kz;replace H:=hid H2;clear H2;try simp only[Array.reduceGetElem,zs]
   refine h_v ?_;refine h_end ?_;go_wp2_with fail
   go_ret
   exact ⟨rfl,zac H.out⟩
