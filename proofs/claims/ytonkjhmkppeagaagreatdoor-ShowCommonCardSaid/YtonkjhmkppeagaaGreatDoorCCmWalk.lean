/- Walks: the law of common texts. -/
import Derived.Test.YtonkjhmkppeagaaGreatDoorUReg2
import Derived.Test.YtonkjhmkppeagaaGreatDoorCCmMath
import Derived.Test.YtonkjhmkppeagaaGreatDoorCCmAux
import Derived.Test.YtonkjhmkppeagaaGreatDoorCShD
import Derived.Test.YtonkjhmkppeagaaGreatDoorCShW
import Derived.Test.YtonkjhmkppeagaaGreatDoorCRfA
set_option linter.unusedVariables false
set_option linter.unusedSimpArgs false
namespace Go.Proofs.YtonkjhmkppeagaaGreatDoor.Pz
open Go.Proofs.Tryz
open Go.Lib (hid)
open Go.RowKit Go Go.Sort Ba Lx
theorem small_of {x:Ex} (h:x.xs.length≤600000) (g:∀ a∈x.xs,Sm a):Sm x:=.mk _ h g
theorem cmX_bd {a b:Str} {n:Int} (h0:-9223372036854775808≤n) (h1:n≤9223372036854775807) (ha:a.length≤140737488355328) (hb:b.length≤140737488355328):BdE (comX a b n)∧(textE (comX a b n)).length≤LimE (comX a b n):=by
 have hc:∀ s:Str,s.length≤140737488355328→BdE (zaz s):=fun s h=>by rw[zff];exact ⟨by show (-9223372036854775808:Int)≤0;decide,by show (0:Int)≤9223372036854775807;decide,Nat.zero_le _,h,Nat.zero_le _,by show BdEs [];rw[BdEs];trivial⟩
 have hk:BdE (comK n):=by rw[zff];exact ⟨h0,h1,Nat.zero_le _,Nat.zero_le _,Nat.zero_le _,by show BdEs [];rw[BdEs];trivial⟩
 have h2:∀ x y:Ex,BdE x→BdE y→BdE (zag [45] x y):=fun x y hx hy=>by
  rw[zff];exact ⟨by show (-9223372036854775808:Int)≤0;decide,by show (0:Int)≤9223372036854775807;decide,Nat.zero_le _,Nat.zero_le _,by show 1≤140737488355328;decide,by show BdEs [x,y];rw[BdEs,BdEs,BdEs];exact ⟨hx,hy,trivial⟩⟩
 refine ⟨h2 _ _ (h2 _ _ (hc a ha) hk) (h2 _ _ (hc b hb) (hc a ha)),?_⟩;have hcf:cfE (comX a b n)=true:=by
  show cfE (.mk 4 _ _ _ [.mk 4 _ _ _ [.mk 1 _ _ _ [],.mk 2 _ _ _ []],.mk 4 _ _ _ [.mk 1 _ _ _ [],.mk 1 _ _ _ []]])=true
  simp[cfE,cfEs]
 unfold LimE;rw[if_pos hcf,text_cmX];have:=cmT_len a b h0 h1;omega
set_option maxRecDepth 100000 in
set_option maxHeartbeats 25600000 in
theorem showCommon_law (n:Int) (a b:ByteArray) (hn0:-9223372036854775808≤n) (hn1:n≤9223372036854775807) (ha:a.size≤140737488355328) (hb:b.size≤140737488355328) (w:World) (hE:EnvX w) :
 Calls Tryz.prog 11 #[.int .i64 n,.string a,.string b] w (EqTo w true):=by
 have HAW:Hid (∀ W,Below w.heap.size w W→Calls Tryz.prog 14 #[] W (EqTo W true)):=fun W hW=>znL W (hE.below hW)
 obtain ⟨A,rfl⟩:∃ A:Str,a=⟨A.toArray⟩:=⟨a.data.toList,by rw[Array.toArray_toList]⟩;obtain ⟨B,rfl⟩:∃ A:Str,b=⟨A.toArray⟩:=⟨b.data.toList,by rw[Array.toArray_toList]⟩;rw[sz_mk]at ha hb;obtain ⟨hbd,hlim⟩:=cmX_bd hn0 hn1 ha hb;have hgood:CmOk A B n→showE (comX A B n)=(comT A B n,0):=cm_good hn0 hn1;have hbad:¬ CmOk A B n→showE (comX A B n)=([],20):=cm_bad;obtain ⟨NA,hNA⟩:∃ N:ByteArray,(⟨A.toArray⟩:ByteArray)=N:=⟨_,rfl⟩;obtain ⟨NB,hNB⟩:∃ N:ByteArray,(⟨B.toArray⟩:ByteArray)=N:=⟨_,rfl⟩;obtain ⟨xa,hxa⟩:∃ x,zaz A=x:=⟨_,rfl⟩;obtain ⟨xb,hxb⟩:∃ x,zaz B=x:=⟨_,rfl⟩;obtain ⟨xk,hxk⟩:∃ x,zal ⟨1,n,[]⟩=x:=⟨_,rfl⟩;obtain ⟨x1,hx1⟩:∃ x,zag [45] xa xk=x:=⟨_,rfl⟩;obtain ⟨x2,hx2⟩:∃ x,zag [45] xb xa=x:=⟨_,rfl⟩;obtain ⟨x3,hx3⟩:∃ x,zag [45] x1 x2=x:=⟨_,rfl⟩;obtain ⟨xu,hxu⟩:∃ x,zat [45] xk=x:=⟨_,rfl⟩;have hX3:comX A B n=x3:=by rw[← hx3,← hx1,← hx2,← hxa,← hxb,← hxk]
 have hsxa:Sm xa:=by rw[← hxa];exact small_of (by show 0≤_;omega) (fun a ha=>by cases ha)
 have hsxb:Sm xb:=by rw[← hxb];exact small_of (by show 0≤_;omega) (fun a ha=>by cases ha)
 have hsxk:Sm xk:=by rw[← hxk];exact small_of (by show 0≤_;omega) (fun a ha=>by cases ha)
 have h2m:∀ x y:Ex,Sm x→Sm y→Sm (zag [45] x y):=fun x y hx hy=>small_of (by show 2≤600000;omega) (fun a ha=>by
  have ha:a∈[x,y]:=ha;simp only[List.mem_cons,List.not_mem_nil,or_false]at ha;rcases ha with rfl|rfl
  ·exact hx
  ·exact hy)
 have hsx1:Sm x1:=by rw[← hx1];exact h2m _ _ hsxa hsxk
 have hsx2:Sm x2:=by rw[← hx2];exact h2m _ _ hsxb hsxa
 have HCA:Hid (∀ W,Calls Tryz.prog 25 #[.string NA] W (ExNew xa W)):=fun W=>by rw[← hNA,← hxa];exact zgY A W
 have HCB:Hid (∀ W,Calls Tryz.prog 25 #[.string NB] W (ExNew xb W)):=fun W=>by rw[← hNB,← hxb];exact zgY B W
 have HCK:Hid (∀ W,Calls Tryz.prog 26 #[.agg #[.int .i64 1,.int .i64 n,.string ⟨#[]⟩]] W (ExNew xk W)):=fun W=>by rw[← hxk];exact znE 1 n [] W
 have HB1:Hid (∀ W sa ca sb cb (o1 o2:Nat→Prop),XArgs W o1 (.slice sa xa.xs.length ca) xa.xs→XArgs W o2 (.slice sb xk.xs.length cb) xk.xs→Calls Tryz.prog 24 #[.string ⟨#[45]⟩,exV xa (.slice sa xa.xs.length ca),exV xk (.slice sb xk.xs.length cb)] W (ExNew x1 W)):=fun W sa ca sb cb o1 o2 h1 h2=>by
  have:=zjr [45] xa xk hsxa hsxk sa sb ca cb W o1 o2 h1 h2;rw[hx1]at this;exact this
 have HB2:Hid (∀ W sa ca sb cb (o1 o2:Nat→Prop),XArgs W o1 (.slice sa xb.xs.length ca) xb.xs→XArgs W o2 (.slice sb xa.xs.length cb) xa.xs→Calls Tryz.prog 24 #[.string ⟨#[45]⟩,exV xb (.slice sa xb.xs.length ca),exV xa (.slice sb xa.xs.length cb)] W (ExNew x2 W)):=fun W sa ca sb cb o1 o2 h1 h2=>by
  have:=zjr [45] xb xa hsxb hsxa sa sb ca cb W o1 o2 h1 h2;rw[hx2]at this;exact this
 have HB3:Hid (∀ W sa ca sb cb (o1 o2:Nat→Prop),XArgs W o1 (.slice sa x1.xs.length ca) x1.xs→XArgs W o2 (.slice sb x2.xs.length cb) x2.xs→Calls Tryz.prog 24 #[.string ⟨#[45]⟩,exV x1 (.slice sa x1.xs.length ca),exV x2 (.slice sb x2.xs.length cb)] W (ExNew x3 W)):=fun W sa ca sb cb o1 o2 h1 h2=>by
  have:=zjr [45] x1 x2 hsx1 hsx2 sa sb ca cb W o1 o2 h1 h2;rw[hx3]at this;exact this
 obtain ⟨SS,hSS⟩:∃ S:ByteArray,(⟨(showE x3).1.toArray⟩:ByteArray)=S:=⟨_,rfl⟩;obtain ⟨er,her⟩:∃ e:Int,(showE x3).2=e:=⟨_,rfl⟩;rw[hX3]at hbd hlim hgood hbad;have HSX:Hid (∀ W sa ca (o:Nat→Prop),Below w.heap.size w W→XArgs W o (.slice sa x3.xs.length ca) x3.xs→Calls Tryz.prog 16 #[exV x3 (.slice sa x3.xs.length ca)] W fun e w'=>e=.returned (.tuple #[.string SS,.int .i64 er])∧Below W.heap.size W w'):=fun W sa ca o hW h=>by
  have:=zlE x3 sa ca W o h (hE.below hW) hbd hlim;unfold ziC at this;rw[hSS,her]at this;exact this
 obtain ⟨⟨yp,na,ea⟩,hyp⟩:∃ r,zbO A=r:=⟨_,rfl⟩;obtain ⟨⟨yq,nb,eb⟩,hyq⟩:∃ r,zbO B=r:=⟨_,rfl⟩;have HPA:Hid (∀ W,Below w.heap.size w W→Calls Tryz.prog 15 #[.string NA] W fun e w'=>∃ ao cp,e=.returned (.tuple #[exV yp (.slice ao yp.xs.length cp),.int .i64 (na:Int),.int .i64 ea])∧XArgs w' (fun b=>W.heap.size≤b) (.slice ao yp.xs.length cp) yp.xs∧Below W.heap.size W w'):=fun W hW=>by
  have:=zkc NA W (hE.below hW).l;rw[show NA.data.toList=A from by rw[← hNA],hyp]at this;exact this
 have HPB:Hid (∀ W,Below w.heap.size w W→Calls Tryz.prog 15 #[.string NB] W fun e w'=>∃ ao cp,e=.returned (.tuple #[exV yq (.slice ao yq.xs.length cp),.int .i64 (nb:Int),.int .i64 eb])∧XArgs w' (fun b=>W.heap.size≤b) (.slice ao yq.xs.length cp) yq.xs∧Below W.heap.size W w'):=fun W hW=>by
  have:=zkc NB W (hE.below hW).l;rw[show NB.data.toList=B from by rw[← hNB],hyq]at this;exact this
 obtain ⟨c1,hc1⟩:∃ c,eqE yp xa=c:=⟨_,rfl⟩;obtain ⟨c2,hc2⟩:∃ c,eqE yq xb=c:=⟨_,rfl⟩;have HEA:Hid (∀ W sa ca sb cb,XArgs W (fun _=>True) (.slice sa yp.xs.length ca) yp.xs→XArgs W (fun _=>True) (.slice sb xa.xs.length cb) xa.xs→Calls Tryz.prog 19 #[exV yp (.slice sa yp.xs.length ca),exV xa (.slice sb xa.xs.length cb)] W (EqTo W c1)):=fun W sa ca sb cb h1 h2=>by
  have:=zf9 yp xa sa sb ca cb W _ h1 h2;rw[hc1]at this;exact this
 have HEB:Hid (∀ W sa ca sb cb,XArgs W (fun _=>True) (.slice sa yq.xs.length ca) yq.xs→XArgs W (fun _=>True) (.slice sb xb.xs.length cb) xb.xs→Calls Tryz.prog 19 #[exV yq (.slice sa yq.xs.length ca),exV xb (.slice sb xb.xs.length cb)] W (EqTo W c2)):=fun W sa ca sb cb h1 h2=>by
  have:=zf9 yq xb sa sb ca cb W _ h1 h2;rw[hc2]at this;exact this
 obtain ⟨NN,hNN⟩:∃ N:ByteArray,(⟨(Lib.itoa n).toArray⟩:ByteArray)=N:=⟨_,rfl⟩;have HNN:Hid (∀ W,Calls Tryz.prog 28 #[.int .i64 n] W fun e w'=>e=.returned (.string NN)∧Below W.heap.size W w'):=fun W=>by
  have:=Va.number_any n W hn0 hn1;rw[hNN]at this;exact this
 have HUN:Hid (∀ W sa ca (o:Nat→Prop),XArgs W o (.slice sa xk.xs.length ca) xk.xs→Calls Tryz.prog 29 #[.string ⟨#[45]⟩,exV xk (.slice sa xk.xs.length ca)] W (ExNew xu W)):=fun W sa ca o h=>by
  have:=zkq [45] xk hsxk sa ca W o h;rw[hxu]at this;exact this
 have HRS:Hid (∀ (W:World) (q:Nat→Prop),Row W q (plD (scanL A)) [.int .i64 1,.string NA,.slice none 0 0,.int .i64 0,.string ⟨#[]⟩,.int .i64 0,.int .i64 0,.string ⟨#[]⟩,.string ⟨#[]⟩,.slice none 0 0,.slice none 0 0,.slice none 0 0,.slice none 0 0,.slice none 0 0,.slice none 0 0,.int .i64 0]):=fun W q=>by rw[← hNA];exact zfp A
 have hnames:ea=0→eb=0→c1=true→c2=true→zdg A∧zdg B:=fun h1 h2 h3 h4=>by
  have e1:yp=xa:=(ze2 _ _).1 (by rw[hc1,h3]);have e2:yq=xb:=(ze2 _ _).1 (by rw[hc2,h4]);exact ⟨col_name (by rw[hyp];exact h1) (by rw[hyp,hxa];exact e1),col_name (by rw[hyq];exact h2) (by rw[hyq,hxb];exact e2)⟩
 have hback:zdg A→zdg B→ea=0∧eb=0∧c1=true∧c2=true:=fun h1 h2=>by
  have e1:=col_read h1;have e2:=col_read h2;rw[hyp]at e1;rw[hyq]at e2;simp only[Prod.mk.injEq]at e1 e2;exact ⟨e1.2.2,e2.2.2,by rw[← hc1];exact (ze2 _ _).2 (by rw[e1.1,hxa]),by rw[← hc2];exact (ze2 _ _).2 (by rw[e2.1,hxb])⟩
 have HREF:Hid (¬ CmOk A B n→SS=⟨#[]⟩∧er=20):=fun h=>by rw[← hSS,← her,hbad h];exact ⟨rfl,rfl⟩
 have HFIN:Hid (CmOk A B n→er=0∧((((((((NA++⟨#[32,45,32]⟩)++NN)++⟨#[32,45,32,40]⟩)++NB)++⟨#[32,45,32]⟩)++NA)++⟨#[41]⟩:ByteArray)=SS)):=fun h=>by
  rw[← hSS,← her,hgood h];refine ⟨rfl,?_⟩;rw[← hNA,← hNB,← hNN];show (((((((⟨A.toArray⟩:ByteArray)++⟨([32,45,32]:Str).toArray⟩)++⟨(Lib.itoa n).toArray⟩)++⟨([32,45,32,40]:Str).toArray⟩)++⟨B.toArray⟩)++⟨([32,45,32]:Str).toArray⟩)++⟨A.toArray⟩)++⟨([41]:Str).toArray⟩=_
  rw[za4,za4,za4,za4,za4,za4,za4];unfold comT;simp[List.append_assoc]
 obtain ⟨T2,hT2⟩:∃ T:ByteArray,(⟨(textQ (comQ A n)).toArray⟩:ByteArray)=T:=⟨_,rfl⟩;have HQR:Hid (CmOk A B n→∀ W Ib ua uc (o1 o2:Nat→Prop),Below w.heap.size w W→Rep W o1 (.sl 16 [plD (scanL A)]) (.slice (some ⟨Ib,0,none⟩) 1 1)→XArgs W o2 (.slice ua xu.xs.length uc) xu.xs→Calls Tryz.prog 40 #[.agg #[.int .i64 2,.string ⟨#[]⟩,.slice (some ⟨Ib,0,none⟩) 1 1,.int .i64 xu.k,.string ⟨xu.nm.toArray⟩,.int .i64 xu.v.k,.int .i64 xu.v.n,.string ⟨xu.v.t.toArray⟩,.string ⟨xu.op.toArray⟩,.slice ua xu.xs.length uc,.slice none 0 0,.slice none 0 0,.slice none 0 0,.slice none 0 0,.slice none 0 0,.int .i64 0]] W fun e w'=>e=.returned (.tuple #[.string T2,.int .i64 0])∧Below W.heap.size W w'):=fun h W Ib ua uc o1 o2 hW h1 h2=>by
  have hq:=showQ_good (comQ A n) (okQ_cm hn1 h.1 (by have:=h.2.2;omega)) (by rw[deepQ_cm];omega) (by rw[textQ_cm,List.length_append,List.length_append];have:=cmN_len hn0 hn1;have:=name16 h.1;show _+(9+_)≤_;omega) T2 hT2;have hp:PlAt W (fun _=>True) (comQ A n) (some ⟨Ib,0,none⟩) 1 ua uc none 0 none 0 none 0 none 0 none 0 :=
   ⟨by rw[zaP];exact h1.weak fun _ _ _=>trivial,by rw[← hxu,← hxk]at h2;exact h2.weak fun _ _ _=>trivial,Rep.nil _ _ _,zaL _ _,Rep.nil _ _ _,Rep.nil _ _ _,Rep.nil _ _ _⟩
  have:=hq (some ⟨Ib,0,none⟩) ua none none none none none 1 uc 0 0 0 0 0 W _ hp (hE.below hW);rw[← hxu,← hxk];exact this
 have HN2:Hid (∀ NE:ByteArray,NE=⟨(comN n).toArray⟩→(NA++⟨#[32,124,32,119,104,101,114,101,32]⟩)++NE=T2):=fun NE h=>by
  rw[← hT2,textQ_cm,h,← hNA];show ((⟨A.toArray⟩:ByteArray)++⟨([32,124,32,119,104,101,114,101,32]:Str).toArray⟩)++⟨(comN n).toArray⟩=_
  rw[za4,za4];simp[List.append_assoc]
 have HNE:Hid (((0<n)→((⟨#[45,40]⟩:ByteArray)++NN)++⟨#[41]⟩=(⟨(comN n).toArray⟩:ByteArray))∧(¬ (0<n)→(⟨#[45]⟩:ByteArray)++NN=(⟨(comN n).toArray⟩:ByteArray))):=by
  rw[← hNN];refine ⟨fun h=>?_,fun h=>?_⟩
  ·unfold comN;rw[if_pos h];show ((⟨([45,40]:Str).toArray⟩:ByteArray)++⟨(Lib.itoa n).toArray⟩)++⟨([41]:Str).toArray⟩=_
   rw[za4,za4];simp[List.append_assoc]
  ·unfold comN;rw[if_neg h];show (⟨([45]:Str).toArray⟩:ByteArray)++⟨(Lib.itoa n).toArray⟩=_
   rw[za4];rfl
 have hNNs:NN.size≤21:=by rw[← hNN,sz_mk];exact itoa_small hn0 hn1
 have HSZ:Hid (CmOk A B n→NA.size≤16∧NB.size≤16):=fun h=>by rw[← hNA,← hNB,sz_mk,sz_mk];exact ⟨name16 h.1,name16 h.2.1⟩
 have HNM:=hid hnames;have HBK:=hid hback;have H:=hid (St.start (S:=fun _=>False) w);have hn0':=hid hn0;rw[hNA,hNB];clear hE hbd hlim hgood hbad hNA hNB hxa hxb hxk hx1 hx2 hx3 hxu hX3 hsxa hsxb hsxk h2m hsx1 hsx2 hSS her hyp hyq hc1 hc2 hNN hnames hback hT2 ha hb hn0 hn1;go_enter func11,ntmps11
 go_upto_region 3 with (first|(go_at_call 25;(with_reducible (refine (HCA.out _).mono ?_));rintro e wc ⟨am,amc,rfl,hX,hb9⟩;replace H:=hid (H.out.more (H.out.below hb9) (zbF hX));clear hX hb9)|(go_at_call 25;(with_reducible (refine (HCB.out _).mono ?_));rintro e wc ⟨an,anc,rfl,hX,hb9⟩;replace H:=hid (H.out.more (H.out.below hb9) (zbF hX));clear hX hb9)|(go_at_call 27;(with_reducible (refine (of_any n _).mono ?_));rintro e wc ⟨rfl,hb9⟩;replace H:=hid (H.out.below hb9);clear hb9)|(go_at_call 26;(with_reducible (refine (HCK.out _).mono ?_));rintro e wc ⟨ak,akc,rfl,hX,hb9⟩;replace H:=hid (H.out.more (H.out.below hb9) (zbF hX));clear hX hb9)|(refine St.w_store (ty:=27) H.out (by rfl) rfl rfl rfl 1 (vs:=(exC xa (.slice am xa.xs.length amc))) rfl rfl rfl sEx_ (zae rfl) ?_;intro wn _ _ H2;replace H:=hid H2;clear H2)|(refine St.w_store (ty:=27) H.out (by rfl) rfl rfl rfl 0 (vs:=(exC xb (.slice an xb.xs.length anc))) rfl rfl rfl sEx_ (zae rfl) ?_;intro wn _ _ H2;replace H:=hid H2;clear H2)|(refine St.w_store (ty:=27) H.out (by rfl) rfl rfl rfl 0 (vs:=(exC xk (.slice ak xk.xs.length akc))) rfl rfl rfl sEx_ (zae rfl) ?_;intro wn _ _ H2;replace H:=hid H2;clear H2)|(have hq:=X8;clear hq;refine St.w_alloc (ty:=27) H.out (by rfl) rfl zEx_ rfl ?_;intro wn X9 _ _ H2;replace H:=hid H2;clear H2)|(have hq:=X7;clear hq;refine St.w_alloc (ty:=27) H.out (by rfl) rfl zEx_ rfl ?_;intro wn X8 _ _ H2;replace H:=hid H2;clear H2)|(refine St.w_alloc (ty:=27) H.out (by rfl) rfl zEx_ rfl ?_;intro wn X7 _ _ H2;replace H:=hid H2;clear H2))
 refine zaa 12 (S:=fun W=>(∀ (j:Nat) (v:Value),(exC xa (.slice am xa.xs.length amc))[j]?=some v→W.cell? ⟨X7,0+j,none⟩=some v)∧(∀ (j:Nat) (v:Value),(exC xk (.slice ak xk.xs.length akc))[j]?=some v→W.cell? ⟨X9,0+j,none⟩=some v)∧(∀ (j:Nat) (v:Value),(exC xb (.slice an xb.xs.length anc))[j]?=some v→W.cell? ⟨X8,0+j,none⟩=some v)) (by kernel_rfl) (by exact ⟨H.out.drew.sub (i:=2) rfl 0 rfl,H.out.drew.sub (i:=0) rfl 0 rfl,H.out.drew.sub (i:=1) rfl 0 rfl⟩) (fun hHeld=>?_);replace H:=hid H.out.drew;refine tkM 0 rfl (by kernel_rfl) hHeld (Or.inl ⟨by rfl,fun w hSw=>zcb (ty:=27) (cs:=(exC xa (.slice am xa.xs.length amc))) rfl rfl uEx_ sEx_ (hSw.1)⟩) ?_;try simp only[Array.reduceGetElem,zs]
 refine tkM 1 rfl (by kernel_rfl) hHeld (Or.inl ⟨by rfl,fun w hSw=>zcb (ty:=27) (cs:=(exC xk (.slice ak xk.xs.length akc))) rfl rfl uEx_ sEx_ (hSw.2.1)⟩) ?_;try simp only[Array.reduceGetElem,zs]
 refine tkM 3 rfl (by kernel_rfl) hHeld (Or.inl ⟨by rfl,fun w hSw=>zcb (ty:=27) (cs:=(exC xb (.slice an xb.xs.length anc))) rfl rfl uEx_ sEx_ (hSw.2.2)⟩) ?_;try simp only[Array.reduceGetElem,zs]
 refine tkM 4 rfl (by kernel_rfl) hHeld (Or.inl ⟨by rfl,fun w hSw=>zcb (ty:=27) (cs:=(exC xa (.slice am xa.xs.length amc))) rfl rfl uEx_ sEx_ (hSw.1)⟩) ?_;refine rK1 2 fun K hK=>?_
 go_simp;go_at_call 24
 (with_reducible (refine (HB1.out _ _ _ _ _ _ _ (zfh (H.out.rowAt (j:=2) rfl)) (zfh (H.out.rowAt (j:=0) rfl))).mono ?_))
 rintro e wc ⟨b1,b1c,rfl,hX,hb9⟩;have H2:=H.out.more (H.out.below hb9) (zbF hX);clear hX hb9;try dsimp only
 refine hK.out _ _ ?_ (fun hHeld2=>?_)
 ·exact ⟨H2.sub (i:=2) rfl 0 rfl,H2.sub (i:=0) rfl 0 rfl,H2.sub (i:=1) rfl 0 rfl⟩
 replace hHeld:=hHeld2;clear hK K;replace H:=hid H2;clear H2;refine rK1 5 fun K hK=>?_
 go_simp;go_at_call 24
 (with_reducible (refine (HB2.out _ _ _ _ _ _ _ (zfh (H.out.rowAt (j:=2) rfl)) (zfh (H.out.rowAt (j:=3) rfl))).mono ?_))
 rintro e wc ⟨b2,b2c,rfl,hX,hb9⟩;have H2:=H.out.more (H.out.below hb9) (zbF hX);clear hX hb9;try dsimp only
 refine hK.out _ _ ?_ (fun hHeld2=>?_)
 ·exact ⟨H2.sub (i:=2) rfl 0 rfl,H2.sub (i:=0) rfl 0 rfl,H2.sub (i:=1) rfl 0 rfl⟩
 replace hHeld:=hHeld2;clear hK K;replace H:=hid H2;clear H2;refine rK1 6 fun K hK=>?_
 go_simp;go_at_call 24
 (with_reducible (refine (HB3.out _ _ _ _ _ _ _ (zfh (H.out.rowAt (j:=1) rfl)) (zfh (H.out.rowAt (j:=0) rfl))).mono ?_))
 rintro e wc ⟨b3,b3c,rfl,hX,hb9⟩;have H2:=H.out.more (H.out.below hb9) (zbF hX);clear hX hb9;try dsimp only
 refine hK.out _ _ ?_ (fun hHeld2=>?_)
 ·exact ⟨H2.sub (i:=2) rfl 0 rfl,H2.sub (i:=0) rfl 0 rfl,H2.sub (i:=1) rfl 0 rfl⟩
 replace hHeld:=hHeld2;clear hK K;replace H:=hid H2;clear H2;refine rK1 7 fun K hK=>?_
 go_simp;go_at_call 16
 (with_reducible (refine (HSX.out _ _ _ _ (zab H.out) (zfh (H.out.rowAt (j:=0) rfl))).mono ?_))
 rintro e wc ⟨rfl,hb9⟩;have H2:=H.out.below hb9;clear hb9;try dsimp only
 refine hK.out _ _ ?_ (fun hHeld2=>?_)
 ·exact ⟨H2.sub (i:=2) rfl 0 rfl,H2.sub (i:=0) rfl 0 rfl,H2.sub (i:=1) rfl 0 rfl⟩
 replace hHeld:=hHeld2;clear hK K;replace H:=hid H2;clear H2;refine tKm 8 ?_;refine tKm 9 ?_;refine tKm 10 ?_;refine tKm 11 ?_;refine rKl 12 fun K hK=>?_
 go_simp;refine hK.out _ _ ?_;clear hK K;refine rKd ?_
 go_upto_region 6 with (first|(go_at_call 15;(with_reducible (refine (HPA.out _ (zab H.out)).mono ?_));rintro e wc ⟨ya,yac,rfl,hX,hb9⟩;replace H:=hid (H.out.more (H.out.below hb9) (zbF hX));clear hX hb9)|(go_at_call 15;(with_reducible (refine (HPB.out _ (zab H.out)).mono ?_));rintro e wc ⟨yb,ybc,rfl,hX,hb9⟩;replace H:=hid (H.out.more (H.out.below hb9) (zbF hX));clear hX hb9)|(refine St.w_store (ty:=27) H.out (by rfl) rfl rfl rfl 0 (vs:=(exC yp (.slice ya yp.xs.length yac))) rfl rfl rfl sEx_ (zae rfl) ?_;intro wn _ _ H2;replace H:=hid H2;clear H2)|(refine St.w_store (ty:=27) H.out (by rfl) rfl rfl rfl 0 (vs:=(exC yq (.slice yb yq.xs.length ybc))) rfl rfl rfl sEx_ (zae rfl) ?_;intro wn _ _ H2;replace H:=hid H2;clear H2)|(have hq:=Pb;clear hq;refine St.w_alloc (ty:=27) H.out (by rfl) rfl zEx_ rfl ?_;intro wn Qb _ _ H2;replace H:=hid H2;clear H2)|(refine St.w_alloc (ty:=27) H.out (by rfl) rfl zEx_ rfl ?_;intro wn Pb _ _ H2;replace H:=hid H2;clear H2))
 have hS1:((20:Int) == 20)=true:=rfl;by_cases hall:ea=0∧eb=0∧c1=true∧c2=true
 ·obtain ⟨rfl,rfl,rfl,rfl⟩:=hall;obtain ⟨hna,hnb⟩:=HNM.out rfl rfl rfl rfl;by_cases hm:n=-9223372036854775808
  ·obtain ⟨rfl,rfl⟩:=HREF.out (fun h=>h.2.2 hm);have hm1:(n == -9223372036854775808)=true:=by rw[hm];rfl
   clear hm
   go_wp2_with (first|(refine St.w_load (ty:=27) H.out (by rfl) rfl rfl 1 rfl uEx_ sEx_ ?_)|(refine St.w_load (ty:=27) H.out (by rfl) rfl rfl 4 rfl uEx_ sEx_ ?_)|(refine St.w_load (ty:=27) H.out (by rfl) rfl rfl 0 rfl uEx_ sEx_ ?_)|(refine St.w_load (ty:=27) H.out (by rfl) rfl rfl 3 rfl uEx_ sEx_ ?_)|(go_at_call 19;(with_reducible (refine (HEA.out _ _ _ _ _ (zfh (H.out.rowAt (j:=1) rfl)).all (zfh (H.out.rowAt (j:=7) rfl)).all).mono ?_));rintro e wc ⟨rfl,hb9⟩;replace H:=hid (H.out.below hb9);clear hb9)|(go_at_call 19;(with_reducible (refine (HEB.out _ _ _ _ _ (zfh (H.out.rowAt (j:=0) rfl)).all (zfh (H.out.rowAt (j:=6) rfl)).all).mono ?_));rintro e wc ⟨rfl,hb9⟩;replace H:=hid (H.out.below hb9);clear hb9)|(go_at_call 14;(with_reducible (refine (HAW.out _ (zab H.out)).mono ?_));rintro e wc ⟨rfl,hb9⟩;replace H:=hid (H.out.below hb9);clear hb9))
   go_ret
   exact ⟨rfl,zab H.out⟩
  ·have hok:CmOk A B n:=⟨hna,hnb,hm⟩;obtain ⟨rfl,hfin⟩:=HFIN.out hok;have HF:=hid hfin;obtain ⟨hzA,hzB⟩:=HSZ.out hok;have HQ:=hid (HQR.out hok);have hm1:(n == -9223372036854775808)=false:=by rw[beq_eq_false_iff_ne];exact hm
   clear hm hfin hok hna hnb HQR
   go_upto_region 11 with (first|(refine St.w_load (ty:=27) H.out (by rfl) rfl rfl 1 rfl uEx_ sEx_ ?_)|(refine St.w_load (ty:=27) H.out (by rfl) rfl rfl 4 rfl uEx_ sEx_ ?_)|(refine St.w_load (ty:=27) H.out (by rfl) rfl rfl 0 rfl uEx_ sEx_ ?_)|(refine St.w_load (ty:=27) H.out (by rfl) rfl rfl 3 rfl uEx_ sEx_ ?_)|(go_at_call 19;(with_reducible (refine (HEA.out _ _ _ _ _ (zfh (H.out.rowAt (j:=1) rfl)).all (zfh (H.out.rowAt (j:=7) rfl)).all).mono ?_));rintro e wc ⟨rfl,hb9⟩;replace H:=hid (H.out.below hb9);clear hb9)|(go_at_call 19;(with_reducible (refine (HEB.out _ _ _ _ _ (zfh (H.out.rowAt (j:=0) rfl)).all (zfh (H.out.rowAt (j:=6) rfl)).all).mono ?_));rintro e wc ⟨rfl,hb9⟩;replace H:=hid (H.out.below hb9);clear hb9)|(go_at_call 28;(with_reducible (refine (HNN.out _).mono ?_));rintro e wc ⟨rfl,hb9⟩;replace H:=hid (H.out.below hb9);clear hb9))
   rw[HF.out];have hSS:(SS.toList == SS.toList)=true:=beq_self_eq_true _;by_cases hp:0<n
   ·have hp1:decide (0<n)=true:=decide_eq_true hp;have HT:=hid (HN2.out _ (HNE.out.1 hp));have hTT:T2.toList=((NA++⟨#[32,124,32,119,104,101,114,101,32]⟩)++((⟨#[45,40]⟩++NN)++⟨#[41]⟩)).toList:=by rw[HT.out]
    clear hp
    go_upto_region 15 with (first|(refine St.w_load (ty:=27) H.out (by rfl) rfl rfl 2 rfl uEx_ sEx_ ?_)|(go_at_call 29;(with_reducible (refine (HUN.out _ _ _ _ (zfh (H.out.rowAt (j:=5) rfl))).mono ?_));rintro e wc ⟨au,auc,rfl,hX,hb9⟩;replace H:=hid (H.out.more (H.out.below hb9) (zbF hX));clear hX hb9)|(refine St.w_litO1 (r:=plD (scanL A)) (k:=16) H.out (by rfl) rfl underlying52 iPl2_ rfl rfl (by decide) (by decide) rfl rfl (za8 _) (HRS.out _ _) ?_;intro wl Ib _ H3;replace H:=hid (H3.shut);clear H3)|(go_at_call 40;(with_reducible (refine (HQ.out _ _ _ _ _ _ (zab H.out) (repOf (H.out.rowAt (j:=0) rfl)) (zfh (H.out.rowAt (j:=1) rfl))).mono ?_));rintro e wc ⟨rfl,hb9⟩;replace H:=hid (H.out.below hb9);clear hb9)|(go_at_call 28;(with_reducible (refine (HNN.out _).mono ?_));rintro e wc ⟨rfl,hb9⟩;replace H:=hid (H.out.below hb9);clear hb9))
    go_wp2_with (go_at_call 14;(with_reducible (refine (HAW.out _ (zab H.out)).mono ?_));rintro e wc ⟨rfl,hb9⟩;replace H:=hid (H.out.below hb9);clear hb9)
    go_ret
    exact ⟨rfl,zab H.out⟩
   ·have hp1:decide (0<n)=false:=decide_eq_false hp;have HT:=hid (HN2.out _ (HNE.out.2 (by omega)));have hTT:T2.toList=((NA++⟨#[32,124,32,119,104,101,114,101,32]⟩)++(⟨#[45]⟩++NN)).toList:=by rw[HT.out]
    clear hp
    go_upto_region 15 with (first|(refine St.w_load (ty:=27) H.out (by rfl) rfl rfl 2 rfl uEx_ sEx_ ?_)|(go_at_call 29;(with_reducible (refine (HUN.out _ _ _ _ (zfh (H.out.rowAt (j:=5) rfl))).mono ?_));rintro e wc ⟨au,auc,rfl,hX,hb9⟩;replace H:=hid (H.out.more (H.out.below hb9) (zbF hX));clear hX hb9)|(refine St.w_litO1 (r:=plD (scanL A)) (k:=16) H.out (by rfl) rfl underlying52 iPl2_ rfl rfl (by decide) (by decide) rfl rfl (za8 _) (HRS.out _ _) ?_;intro wl Ib _ H3;replace H:=hid (H3.shut);clear H3)|(go_at_call 40;(with_reducible (refine (HQ.out _ _ _ _ _ _ (zab H.out) (repOf (H.out.rowAt (j:=0) rfl)) (zfh (H.out.rowAt (j:=1) rfl))).mono ?_));rintro e wc ⟨rfl,hb9⟩;replace H:=hid (H.out.below hb9);clear hb9)|(go_at_call 28;(with_reducible (refine (HNN.out _).mono ?_));rintro e wc ⟨rfl,hb9⟩;replace H:=hid (H.out.below hb9);clear hb9))
    go_wp2_with (go_at_call 14;(with_reducible (refine (HAW.out _ (zab H.out)).mono ?_));rintro e wc ⟨rfl,hb9⟩;replace H:=hid (H.out.below hb9);clear hb9)
    go_ret
    exact ⟨rfl,zab H.out⟩
 ·have hno:¬ CmOk A B n:=fun h=>hall (HBK.out h.1 h.2.1)
  obtain ⟨rfl,rfl⟩:=HREF.out hno;have hor:(ea≠0)∨(ea=0∧eb≠0)∨(ea=0∧eb=0∧c1=false)∨(ea=0∧eb=0∧c1=true∧c2=false):=by
   by_cases h1:ea=0
   ·by_cases h2:eb=0
    ·cases c1<;>cases c2<;>simp_all
    ·exact .inr (.inl ⟨h1,h2⟩)
   ·exact .inl h1
  clear hall hno;rcases hor with hx|⟨rfl,hx⟩|⟨rfl,rfl,rfl⟩|⟨rfl,rfl,rfl,rfl⟩
  ·have hx1:(ea != 0)=true:=by simpa using hx
   clear hx;go_wp2_with (go_at_call 14;(with_reducible (refine (HAW.out _ (zab H.out)).mono ?_));rintro e wc ⟨rfl,hb9⟩;replace H:=hid (H.out.below hb9);clear hb9)
   go_ret
   exact ⟨rfl,zab H.out⟩
  ·have hx1:(eb != 0)=true:=by simpa using hx
   clear hx;go_wp2_with (go_at_call 14;(with_reducible (refine (HAW.out _ (zab H.out)).mono ?_));rintro e wc ⟨rfl,hb9⟩;replace H:=hid (H.out.below hb9);clear hb9)
   go_ret
   exact ⟨rfl,zab H.out⟩
  ·go_wp2_with (first|(refine St.w_load (ty:=27) H.out (by rfl) rfl rfl 1 rfl uEx_ sEx_ ?_)|(refine St.w_load (ty:=27) H.out (by rfl) rfl rfl 4 rfl uEx_ sEx_ ?_)|(refine St.w_load (ty:=27) H.out (by rfl) rfl rfl 0 rfl uEx_ sEx_ ?_)|(refine St.w_load (ty:=27) H.out (by rfl) rfl rfl 3 rfl uEx_ sEx_ ?_)|(go_at_call 19;(with_reducible (refine (HEA.out _ _ _ _ _ (zfh (H.out.rowAt (j:=1) rfl)).all (zfh (H.out.rowAt (j:=7) rfl)).all).mono ?_));rintro e wc ⟨rfl,hb9⟩;replace H:=hid (H.out.below hb9);clear hb9)|(go_at_call 14;(with_reducible (refine (HAW.out _ (zab H.out)).mono ?_));rintro e wc ⟨rfl,hb9⟩;replace H:=hid (H.out.below hb9);clear hb9))
   go_ret
   exact ⟨rfl,zab H.out⟩
  ·go_wp2_with (first|(refine St.w_load (ty:=27) H.out (by rfl) rfl rfl 1 rfl uEx_ sEx_ ?_)|(refine St.w_load (ty:=27) H.out (by rfl) rfl rfl 4 rfl uEx_ sEx_ ?_)|(refine St.w_load (ty:=27) H.out (by rfl) rfl rfl 0 rfl uEx_ sEx_ ?_)|(refine St.w_load (ty:=27) H.out (by rfl) rfl rfl 3 rfl uEx_ sEx_ ?_)|(go_at_call 19;(with_reducible (refine (HEA.out _ _ _ _ _ (zfh (H.out.rowAt (j:=1) rfl)).all (zfh (H.out.rowAt (j:=7) rfl)).all).mono ?_));rintro e wc ⟨rfl,hb9⟩;replace H:=hid (H.out.below hb9);clear hb9)|(go_at_call 19;(with_reducible (refine (HEB.out _ _ _ _ _ (zfh (H.out.rowAt (j:=0) rfl)).all (zfh (H.out.rowAt (j:=6) rfl)).all).mono ?_));rintro e wc ⟨rfl,hb9⟩;replace H:=hid (H.out.below hb9);clear hb9)|(go_at_call 14;(with_reducible (refine (HAW.out _ (zab H.out)).mono ?_));rintro e wc ⟨rfl,hb9⟩;replace H:=hid (H.out.below hb9);clear hb9))
   go_ret
   exact ⟨rfl,zab H.out⟩
end Go.Proofs.YtonkjhmkppeagaaGreatDoor.Pz
