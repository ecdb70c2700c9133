/- Walks: expressions copied into new memory; operations put together. -/
import Derived.Test.YtonkjhmkppeagaaGreatDoorWEq
import Derived.Test.YtonkjhmkppeagaaGreatDoorWQd
import Derived.Test.YtonkjhmkppeagaaGreatDoorWRfA
set_option maxRecDepth 100000
set_option maxHeartbeats 3200000
set_option linter.unusedVariables false
set_option linter.unusedSimpArgs false
namespace Go.Proofs.YtonkjhmkppeagaaGreatDoor.Pz
open Go.Proofs.Tryz
open Go.Lib (hid)
open Go.RowKit Go Go.Sort Ba Lx
theorem ztq:(Tryz.prog.info? 27).map (fun i=>(i.zero,i.size,i.bytes))=some (some (.agg zzA),7,96):=by kernel_rfl
theorem zi1:(Tryz.prog.info? 27).map (fun i=>(i.zero,i.size))=some (some (.agg zzA),7):=by kernel_rfl
def ExNew (x:Ex) (w:World) (e:Ending) (w':World):Prop:=∃ ao cp,e=.returned (exV x (.slice ao x.xs.length cp))∧XArgs w' (fun b=>w.heap.size≤b) (.slice ao x.xs.length cp) x.xs∧Below w.heap.size w w'
def zoW (x:Ex):Prop:=∀ (sa:Option Addr) (ca:Nat) (w:World) (ok:Nat→Prop),XArgs w ok (.slice sa x.xs.length ca) x.xs→Sm x→Calls Tryz.prog 52 #[exV x (.slice sa x.xs.length ca)] w (ExNew x w)
theorem zcU {W:World} {ok:Nat→Prop} {sl:Value} {xs:List Ex}:XArgs W ok sl xs↔Rep W ok (.sl 7 (xs.map exD)) sl:=by
 show Rep W ok (.sl 7 (exDs xs)) sl↔_
 rw[zdh]
theorem zj8 (x:Ex) (ih:∀ a∈x.xs,zoW a):zoW x:=fun sa ca w ok hA hsm=>by
 obtain ⟨_,hcnt,hsub⟩:∃ y,x.xs.length≤600000∧∀ a∈x.xs,Sm a:=by cases hsm with|mk _ h hx=>exact ⟨x,h,hx⟩
 have H:=hid (St.start (S:=fun _=>False) w);have HA:=hid (zcU.1 hA);have HI:=hid (fun a (ha:a∈x.xs) sa ca W o (h:XArgs W o (.slice sa a.xs.length ca) a.xs)=>ih a ha sa ca W o h (hsub a ha));obtain ⟨xs,hxs⟩:∃ xs,x.xs=xs:=⟨_,rfl⟩;obtain ⟨n,hn⟩:∃ n,xs.length=n:=⟨_,rfl⟩;have HXS:Hid (∀ sl,exV x sl=.agg (exC x sl).toArray):=fun sl=>rfl
 rw[hxs]at HA HI hcnt;rw[hxs,hn];rw[hn]at HA hcnt;have HN:=hid hn;have HXX:=hid hxs;clear hA hsm ih hsub hxs hn;go_enter func52,ntmps52
 go_wp2_with (first|(refine St.w_box (vs:=(exC x (.slice sa n ca))) H.out (by rfl) rfl rfl rfl ?_;intro wn X _ _ H2;replace H:=hid H2;clear H2)|(refine St.w_alloc (ty:=27) H.out (by rfl) rfl zEx_ rfl ?_;intro wn R _ _ H2;replace H:=hid H2;clear H2)|(refine St.w_load1 (ty:=25) H.out (by rfl) rfl rfl 1 rfl rfl uSEx_ ?_)|(refine St.w_store1 (ty:=25) H.out (by rfl) rfl rfl rfl 1 rfl (yI rfl) sSEx_ rfl ?_;intro wn _ _ H2;replace H:=hid H2;clear H2))
 have H2:St (fun _=>False) w _ [(R,zzL),(X,exC x (.slice none 0 0))] [] []:=H.out;have H3:=(H2.gather 27 7);clear H H2;have H:=hid H3;clear H3;go_loopw [11] (fun i wr=>∃ (k:Nat) (ao:Option Addr) (cp:Nat) (cells:List (List Value)),k≤n∧i=.int .i64 k∧Hid (St (fun _=>False) w wr [(R,zzL),(X,exC x (.slice ao k cp))] [] [⟨27,7,.slice ao k cp,(xs.take k).map exD,cells⟩])) (fun i _=>n-(intOf i).toNat)
 case atStart=>exact ⟨0,none,0,[],yS _,rfl,H⟩
 case round =>
  clear H;obtain ⟨k,ao,cp,cells,hk,rfl,H⟩:=hrel;have hw1:=zac H.out;have HRL:Hid (((xs.take k).map exD).length=k):=by show ((xs.take k).map exD).length=k;rw[yC,List.length_take,HN.out];omega
  by_cases hlt:k<n
  ·obtain ⟨a,ha⟩:∃ a,xs[k]?=some a:=⟨_,yF (by rw[HN.out];exact hlt)⟩;obtain ⟨b,o,cs,rfl,hrow,hcl,hcc⟩:=HA.out.cellsR (i:=k) (r:=exD a) (by rw[yQ,ha];rfl);obtain ⟨sl,rfl,hxa⟩:=zkY hrow;obtain ⟨ua,uc,rfl,_⟩:=XArgs.len hxa;have HTK:=hid (zbF exD ha);have HCA:=hid (fun W (hW:Below w.heap.size w W)=>HI.out a (yP ha) ua uc W ok (hxa.below hW));have HC:Hid (∀ (j:Nat) (v:Value),(exC a (.slice ua a.xs.length uc))[j]?=some v→wr.cell? ⟨b,o+k*7+j,none⟩=some v):=fun j v hv=>hcc wr hw1 j v hv
   clear hrow hcl hcc hxa ha;have hkn:k+1≤1000000:=by omega
   have HKL:=hid hkn;have hbk:(k:Int)<(n:Int):=by omega
   clear hkn;go_upto_region 6 with (first|(refine zaF (by rfl) (ty:=27) rfl rfl HC.out uEx_ sEx_ ?_)|(refine St.w_alloc (ty:=27) H.out (by rfl) rfl zEx_ rfl ?_;intro wn A _ _ H2;replace H:=hid H2;clear H2)|(refine St.w_store (ty:=27) H.out (by rfl) rfl rfl rfl 0 rfl rfl rfl sEx_ (zad rfl) ?_;intro wn _ _ H2;replace H:=hid H2;clear H2))
   replace H:=hid (H.out.drew);refine zaa 7 (S:=fun W=>W.cell? ⟨X,6,none⟩=some (.slice ao k cp)) (by kernel_rfl) (by exact (H.out.at (i:=2) rfl).cl 6 _ rfl) (fun zJ=>?_);refine tKm 0 ?_;refine tKm 1 ?_;refine rK1 2 fun K hK=>?_
   rw[if_pos (by rfl)];refine H.out.o_load (ty:=27) rfl rfl 0 rfl uEx_ sEx_ ?_;refine hK.out _ _ ?_ (fun zH=>?_)
   ·exact (H.out.at (i:=2) rfl).cl 6 _ rfl
   replace zJ:=zH;clear hK K;refine rK1 3 fun K hK=>?_
   go_simp;go_at_call 52
   (with_reducible (refine (HCA.out _ (zac H.out)).mono ?_))
   rintro e wc ⟨na,nc,rfl,hX,hb9⟩;have H2:=H.out.more (H.out.below hb9) (zbC hX);clear hX hb9;try dsimp only
   refine hK.out _ _ ?_ (fun zH=>?_)
   ·exact (H2.at (i:=2) rfl).cl 6 _ rfl
   replace zJ:=zH;clear hK K;replace H:=hid H2;clear H2;refine rK1 4 fun K hK=>?_
   rw[if_pos (by rfl)];refine H.out.o_lit1 rfl underlying25 zi1 rfl rfl (by decide) (by decide) rfl rfl (fun wl Cl _ H2=>?_);refine hK.out _ _ ?_ (fun zH=>?_)
   ·exact (H2.at (i:=3) rfl).cl 6 _ rfl
   replace zJ:=zH;clear hK K;replace H:=hid H2;clear H2;refine rK1 5 fun K hK=>?_
   rw[if_pos (by rfl)];refine H.out.o_append (r:=exD a) rfl underlying25 ztq rfl (by decide) (by decide) 0 rfl rfl rfl rfl rfl 0 rfl (zbk _) (H.out.rowAt (j:=0) rfl) (by rw[HRL.out];exact HKL.out) (fun wl ao9 cap9 _ H2=>?_);refine hK.out _ _ ?_ (fun zH=>?_)
   ·exact (H2.at (i:=3) rfl).cl 6 _ rfl
   replace zJ:=zH;clear hK K;replace H:=hid H2;clear H2;refine tKm 6 ?_;refine rKl 7 fun K hK=>?_
   rw[if_pos (by rfl)];refine H.out.o_store1 (ty:=25) rfl rfl rfl 3 rfl (yI rfl) sSEx_ rfl (fun wl _ _ H2=>?_);refine hK.out _ _ ?_;clear hK K;replace H:=hid H2;clear H2;refine rKd ?_;go_wp2_with fail
   have H3:=(H.out.drop (L':=[(R,zzL),(X,exC x (.slice ao9 (((xs.take k).map exD).length+1) cap9))]) (.cons _ (.cons _ (List.Sublist.refl _)))).less (D':=[]) (fun q hq=>by cases hq);simp only[List.set_cons_zero]at H3;rw[HRL.out]at H3;have H4:=hid H3;clear H H3;go_roundw
   case rel=>exact ⟨k+1,ao9,cap9,_,by omega,by go_num,by show St _ _ _ _ _ _;rw[HTK.out];exact H4.out⟩
   case measure=>simp[intOf];omega
  ·obtain rfl:k=n:=by omega
   have htk:xs.take k=xs:=by rw[← HN.out,List.take_length]
   have hbk:¬ ((k:Int)<(k:Int)):=by omega
   have H3:=H.out.shut;rw[htk]at H3;clear H;have H:=hid H3;clear H3;go_wp2_with (first|(refine St.w_load (ty:=27) H.out (by rfl) rfl rfl 1 rfl uEx_ sEx_ ?_)|(refine St.w_store (ty:=27) H.out (by rfl) rfl rfl rfl 0 rfl rfl rfl sEx_ (zad rfl) ?_;intro wn _ _ H2;replace H:=hid H2;clear H2))
   refine bodyPost_ret (H.out.results results52 (by rfl) 0 rfl uEx_ sEx_) rfl ?_;refine ⟨ao,cp,by rw[HXX.out,HN.out],?_,zac H.out⟩;rw[HXX.out,HN.out];exact zcU.2 ((repOf (H.out.rowAt (j:=0) rfl)).weak fun b _ ho=>ho.1)
theorem zfk:∀ x,zoW x:=Ex.ind fun k nm v op xs h=>zj8 (.mk k nm v op xs) h
theorem zle (op:Str) (a:Ex) (hsm:Sm a) (sa:Option Addr) (ca:Nat) (w:World) (ok:Nat→Prop) (hA:XArgs w ok (.slice sa a.xs.length ca) a.xs) :
 Calls Tryz.prog 29 #[.string ⟨op.toArray⟩,exV a (.slice sa a.xs.length ca)] w (ExNew (zat op a) w):=by
 have H:=hid (St.start (S:=fun _=>False) w);have HC:=hid (fun W (hW:Below w.heap.size w W)=>zfk a sa ca W ok (hA.below hW) hsm);obtain ⟨Y,hY⟩:∃ Y:ByteArray,(⟨op.toArray⟩:ByteArray)=Y:=⟨_,rfl⟩;have HY:Hid (∀ sl,exV (zat op a) sl=.agg #[.int .i64 3,.string ⟨#[]⟩,.int .i64 0,.int .i64 0,.string ⟨#[]⟩,.string Y,sl]):=fun sl=>by rw[← hY];rfl
 rw[hY];clear hA hsm hY;go_enter func29,ntmps29
 go_wp2_with (first|(refine St.w_box (vs:=(exC a (.slice sa a.xs.length ca))) H.out (by rfl) rfl rfl rfl ?_;intro wn X _ _ H2;replace H:=hid H2;clear H2)|(refine St.w_alloc (ty:=27) H.out (by rfl) rfl zEx_ rfl ?_;intro wn R _ _ H2;replace H:=hid H2;clear H2)|(refine St.w_load (ty:=27) H.out (by rfl) rfl rfl 1 rfl uEx_ sEx_ ?_)|(go_at_call 52;(with_reducible (refine (HC.out _ (zac H.out)).mono ?_));rintro e wc ⟨na,nc,rfl,hX,hb9⟩;replace H:=hid (H.out.more (H.out.below hb9) (zbC hX));clear hX hb9)|(refine zaK (by rfl) fun _ hK9=>?_;refine H.out.o_litO1 (r:=exD a) (k:=7) rfl underlying25 zi1 rfl rfl (by decide) (by decide) rfl rfl (zbk _) (H.out.rowAt (j:=0) rfl) (fun wl Cl _ H2=>hK9 _ _ ?_);clear hK9;replace H:=hid H2;clear H2)|(refine St.w_store (ty:=27) H.out (by rfl) rfl rfl rfl 0 rfl rfl rfl sEx_ (zad rfl) ?_;intro wn _ _ H2;replace H:=hid H2;clear H2))
 have H3:=H.out.shut;refine bodyPost_ret (H.out.results results29 (by rfl) 0 rfl uEx_ sEx_) rfl ?_;exact ⟨_,_,by rw[HY.out];rfl,zcU.2 ((repOf (H3.rowAt (j:=0) rfl)).weak fun b _ ho=>ho.1),zac H3⟩
theorem St.lit2 {S:Nat→Prop} {w0 w:World} {L:List Bx} {D:List (List Dat×List Value)} {O:List Ow} (h:St S w0 w L D O) (T:TypeId) {k:Nat} {rows:List (List Dat)} {cells:List (List Value)} (h0:0<rows.length) (hl:cells.length=rows.length) (hk:∀ (i:Nat) (r:List Dat) (cs:List Value),rows[i]?=some r→cells[i]?=some cs→r.length=k∧Row w (okL w0.heap.size L O) r cs) (hm:rows.length≤maxLen) :
 St S w0 (w.alloc (.cells cells.flatten.toArray T)) L D (⟨T,k,.slice (some ⟨w.heap.size,0,none⟩) rows.length rows.length,rows,cells⟩::O):=by
 have g:Kept (fun _=>False) w (w.alloc (.cells cells.flatten.toArray T)):=Kept.of_below ((Below.refl _ w).alloc (yG _) _);have hok:∀ b,b<w.heap.size→okL w0.heap.size L O b→okL w0.heap.size L (⟨T,k,.slice (some ⟨w.heap.size,0,none⟩) rows.length rows.length,rows,cells⟩::O) b:=fun b hb ho=>znd (C:=w.heap.size) rfl (yG _) hb ho
 have hcl:∀ c∈cells,c.length=k:=fun c hc=>by
  obtain ⟨i,hi⟩:=List.mem_iff_getElem?.1 hc;have hlt:=(yE.1 hi).1;have hr:rows[i]?=some (rows[i]'(by omega)):=yF _;obtain ⟨e1,e2⟩:=hk i _ c hr hi;rw[← e2.1];exact e1
 have hfl:cells.flatten.length=rows.length*k:=by
  rw[List.length_flatten,← hl];clear hk hl hok g h0 hm;induction cells with
  | nil=>simp
  | cons c cs ih =>
   rw[List.map_cons,List.sum_cons,ih (fun c hc=>hcl c (by simp[hc])),hcl c (by simp),yB,Nat.add_mul,Nat.one_mul,Nat.add_comm]
 refine ⟨h.kept.alloc _,fun p hp=>(h.box p hp).alloc _,h.new,h.nd,fun q hq=>(h.dat q hq).both g (fun _ _ _ x=>x) hok,fun y hy=>?_,fun y hy=>?_,fun y hy a s c hs hc=>?_,fun y hy b hb p hp=>?_,?_⟩
 ·rcases List.mem_cons.1 hy with rfl|hy
  ·refine ⟨hfl,.inr ⟨w.heap.size,rows.length,cells.flatten.toArray,rfl,h.kept.size,heap_alloc_new w _,yG _,hm,by simp[hfl],?_⟩⟩;show (cells.flatten.toArray.toList).take (rows.length*k)=cells.flatten
   rw[List.take_of_length_le (by simp[hfl])]
  ·exact (h.own y hy).alloc _
 ·rcases List.mem_cons.1 hy with rfl|hy
  ·exact hl
  ·exact h.len y hy
 ·rcases List.mem_cons.1 hy with rfl|hy
  ·obtain ⟨g1,g2⟩:=hk a s c hs hc;exact ⟨g1,g2.both g (fun _ _ _ x=>x) hok⟩
  ·obtain ⟨g1,g2⟩:=h.row y hy a s c hs hc;exact ⟨g1,g2.both g (fun _ _ _ x=>x) hok⟩
 ·rcases List.mem_cons.1 hy with rfl|hy
  ·have e:b=w.heap.size:=(Option.some.inj hb).symm;have:=(h.box p hp).lt;omega
  ·exact h.out y hy b hb p hp
 ·rw[List.pairwise_cons];refine ⟨fun y hy b hb e=>?_,h.sep⟩;have e1:b=w.heap.size:=(Option.some.inj hb).symm;have:=((h.own y hy).lt b e).2;omega
theorem St.o_litN {P:Program} {o:Oper} {a:Act} {Q:Exit→Act→World→Prop} {S:Nat→Prop} {w0 w:World} {L:List Bx} {D:List (List Dat×List Value)} {O:List Ow} (H:St S w0 w L D O) {K:Act→World→Prop} {t e:TypeId} {n:Nat} {parts:Array (Nat×Operand)} (ho:o.op=.buildSlice t n parts) (hu:P.underlying t=some (.slice e)) {k:Nat} {z:Value} (hi:(P.info? e).map (fun i=>(i.zero,i.size))=some (some z,k)) (vs:List Value)
 (hp:(parts.toList.map fun p=>(p.1,a.eval p.2))=(vs.zipIdx 0).map fun x=>(x.2,x.1)) (hn:n=vs.length) (hz:z.cells.size=k) (hk:0<k) (hn0:0<n) (hnk:n*k≤2 ^ 24) (h1:∀ v∈vs,v.cells.size=k) (rows:List (List Dat)) (cells:List (List Value)) (hcs:(vs.flatMap fun v=>v.cells.toList)=cells.flatten) (hrl:rows.length=n) (hcl:cells.length=n)
 (hrow:∀ (i:Nat) (r:List Dat) (cs:List Value),rows[i]?=some r→cells[i]?=some cs→r.length=k∧Row w (okL w0.heap.size L O) r cs)
 (h:∀ (w':World) (C:Nat),Below w.heap.size w w'→St S w0 w' L D (⟨e,k,.slice (some ⟨C,0,none⟩) n n,rows,cells⟩::O)→K (a.put o.dst (.slice (some ⟨C,0,none⟩) n n)) w'):o.wp P a w K Q:=by
 cases hq:P.info? e with
 | none=>rw[hq]at hi;cases hi
 | some i =>
  rw[hq]at hi;have hi':(i.zero,i.size)=(some z,k):=Option.some.inj hi;obtain ⟨e1,e2⟩:=Prod.ext_iff.1 hi';simp only at e1 e2;subst e2;have hst:=H.lit2 e (k:=i.size) (rows:=rows) (cells:=cells) (by omega) (by omega) hrow (by
   have:rows.length≤n*i.size:=by rw[hrl];exact Nat.le_mul_of_pos_right _ hk
   unfold maxLen;omega)
  rw[hrl]at hst;refine wp_buildSlice t e n parts ho (vs.flatMap fun v=>v.cells.toList).toArray i z hu hq e1 (by omega) (fun h0=>by have:=Nat.mul_pos hn0 hk;omega) ?_ (h _ _ ((Below.refl _ w).alloc (yG _) _) (by rw[hcs];exact hst));rw[Array.toList_map,show (parts.toList.map fun (x:Nat×Operand)=>(x.1,a.eval x.2))=_ from hp];exact Great.fill_whole hk vs _ h1 (by simp[hn])
theorem St.o_lit2 {P:Program} {o:Oper} {a:Act} {Q:Exit→Act→World→Prop} {S:Nat→Prop} {w0 w:World} {L:List Bx} {D:List (List Dat×List Value)} {O:List Ow} (H:St S w0 w L D O) {K:Act→World→Prop} {t e:TypeId} {x y:Operand} (ho:o.op=.buildSlice t 2 #[(0,x),(1,y)]) (hu:P.underlying t=some (.slice e)) {k:Nat} {z:Value} (hi:(P.info? e).map (fun i=>(i.zero,i.size))=some (some z,k)) {v1 v2:Value} (hx:a.eval x=v1) (hy:a.eval y=v2)
 (hz:z.cells.size=k) (hk:0<k) (hnk:k≤1000) (h1:v1.cells.size=k) (h2:v2.cells.size=k) {r1 r2:List Dat} (l1:r1.length=k) (l2:r2.length=k) (hr1:Row w (okL w0.heap.size L O) r1 v1.cells.toList) (hr2:Row w (okL w0.heap.size L O) r2 v2.cells.toList)
 (h:∀ (w':World) (C:Nat),Below w.heap.size w w'→St S w0 w' L D (⟨e,k,.slice (some ⟨C,0,none⟩) 2 2,[r1,r2],[v1.cells.toList,v2.cells.toList]⟩::O)→K (a.put o.dst (.slice (some ⟨C,0,none⟩) 2 2)) w'):o.wp P a w K Q:=by
 subst hx hy;refine H.o_litN ho hu hi [a.eval x,a.eval y] rfl rfl hz hk (by decide) (by omega) (fun v hv=>?_) [r1,r2] [(a.eval x).cells.toList,(a.eval y).cells.toList] (by simp) rfl rfl (fun i r cs e1 e2=>?_) h
 ·rcases List.mem_cons.1 hv with rfl|hv
  ·exact h1
  ·obtain rfl:=List.mem_singleton.1 hv;exact h2
 ·match i with
  | 0 =>
   obtain rfl:=Option.some.inj e1;obtain rfl:=Option.some.inj e2;exact ⟨l1,hr1⟩
  | 1 =>
   obtain rfl:=Option.some.inj e1;obtain rfl:=Option.some.inj e2;exact ⟨l2,hr2⟩
  | i+2=>simp at e1
theorem zke (op:Str) (a b:Ex) (hsa:Sm a) (hsb:Sm b) (sa sb:Option Addr) (ca cb:Nat) (w:World) (o1 o2:Nat→Prop) (hA:XArgs w o1 (.slice sa a.xs.length ca) a.xs) (hB:XArgs w o2 (.slice sb b.xs.length cb) b.xs) :
 Calls Tryz.prog 24 #[.string ⟨op.toArray⟩,exV a (.slice sa a.xs.length ca),exV b (.slice sb b.xs.length cb)] w (ExNew (zaj op a b) w):=by
 have H:=hid (St.start (S:=fun _=>False) w);have HC:=hid (fun W (hW:Below w.heap.size w W)=>zfk a sa ca W o1 (hA.below hW) hsa);have HD:=hid (fun W (hW:Below w.heap.size w W)=>zfk b sb cb W o2 (hB.below hW) hsb);obtain ⟨Y,hY⟩:∃ Y:ByteArray,(⟨op.toArray⟩:ByteArray)=Y:=⟨_,rfl⟩;have HY:Hid (∀ sl,exV (zaj op a b) sl=.agg #[.int .i64 4,.string ⟨#[]⟩,.int .i64 0,.int .i64 0,.string ⟨#[]⟩,.string Y,sl]):=fun sl=>by rw[← hY];rfl
 rw[hY];clear hA hB hsa hsb hY;go_enter func24,ntmps24
 go_upto_region 1 with (first|(refine St.w_box (vs:=(exC a (.slice sa a.xs.length ca))) H.out (by rfl) rfl rfl rfl ?_;intro wn X _ _ H2;replace H:=hid H2;clear H2)|(refine St.w_box (vs:=(exC b (.slice sb b.xs.length cb))) H.out (by rfl) rfl rfl rfl ?_;intro wn X2 _ _ H2;replace H:=hid H2;clear H2)|(refine St.w_alloc (ty:=27) H.out (by rfl) rfl zEx_ rfl ?_;intro wn R _ _ H2;replace H:=hid H2;clear H2))
 replace H:=hid (H.out.drew);refine zaa 7 (S:=fun W=>True) (by kernel_rfl) (by exact trivial) (fun zJ=>?_);refine tKm 0 ?_;refine rKs [1,3] ?_;refine zai.cons rfl (fun K hK=>?_) (zai.cons rfl (fun K hK=>?_) zai.nil)
 ·rw[if_pos (by rfl)];refine H.out.o_load (ty:=27) rfl rfl 2 rfl uEx_ sEx_ ?_;refine hK.out _ _ ?_ (fun zH=>?_)
  ·exact trivial
  replace zJ:=zH;clear hK K;refine rKs [2,3] ?_;refine zai.cons rfl (fun K hK=>?_) (zai.cons rfl (fun K hK=>?_) zai.nil)
  ·go_simp;go_at_call 52
   (with_reducible (refine (HC.out _ (zac H.out)).mono ?_))
   rintro e wc ⟨na,nc,rfl,hX,hb9⟩;have H2:=H.out.more (H.out.below hb9) (zbC hX);clear hX hb9;try dsimp only
   refine hK.out _ _ ?_ (fun zH=>?_)
   ·exact trivial
   replace zJ:=zH;clear hK K;replace H:=hid H2;clear H2;refine rK1 3 fun K hK=>?_
   rw[if_pos (by rfl)];refine H.out.o_load (ty:=27) rfl rfl 1 rfl uEx_ sEx_ ?_;refine hK.out _ _ ?_ (fun zH=>?_)
   ·exact trivial
   replace zJ:=zH;clear hK K;refine rK1 4 fun K hK=>?_
   go_simp;go_at_call 52
   (with_reducible (refine (HD.out _ (zac H.out)).mono ?_))
   rintro e wc ⟨ma,mc,rfl,hX,hb9⟩;have H2:=H.out.more (H.out.below hb9) (zbC hX);clear hX hb9;try dsimp only
   refine hK.out _ _ ?_ (fun zH=>?_)
   ·exact trivial
   replace zJ:=zH;clear hK K;replace H:=hid H2;clear H2;refine rK1 5 fun K hK=>?_
   rw[if_pos (by rfl)];refine H.out.o_lit2 (r1:=exD a) (r2:=exD b) (v1:=exV a (.slice na a.xs.length nc)) (v2:=exV b (.slice ma b.xs.length mc)) (k:=7) rfl underlying25 zi1 rfl rfl rfl (by decide) (by decide) rfl rfl (zbk _) (zbk _) (H.out.rowAt (j:=1) rfl) (H.out.rowAt (j:=0) rfl) (fun wl Cl _ H2=>?_);refine hK.out _ _ ?_ (fun zH=>?_)
   ·exact trivial
   replace zJ:=zH;clear hK K;replace H:=hid H2;clear H2;refine tKm 6 ?_;refine rKl 7 fun K hK=>?_
   rw[if_pos (by rfl)];refine H.out.o_store (ty:=27) rfl rfl rfl 0 rfl rfl rfl sEx_ (zad rfl) (fun wl _ _ H2=>?_);refine hK.out _ _ ?_;clear hK K;replace H:=hid H2;clear H2;refine rKd ?_;go_wp2_with fail
   have H3:=H.out.shut;refine bodyPost_ret (H.out.results results24 (by rfl) 0 rfl uEx_ sEx_) rfl ?_;exact ⟨_,_,by rw[HY.out];rfl,zcU.2 ((repOf (H3.rowAt (j:=0) rfl)).weak fun b _ ho=>ho.1),zac H3⟩
  ·rw[if_pos (by rfl)];refine H.out.o_load (ty:=27) rfl rfl 1 rfl uEx_ sEx_ ?_;refine hK.out _ _ ?_ (fun zH=>?_)
   ·exact trivial
   replace zJ:=zH;clear hK K;refine rK1 2 fun K hK=>?_
   go_simp;go_at_call 52
   (with_reducible (refine (HC.out _ (zac H.out)).mono ?_))
   rintro e wc ⟨na,nc,rfl,hX,hb9⟩;have H2:=H.out.more (H.out.below hb9) (zbC hX);clear hX hb9;try dsimp only
   refine hK.out _ _ ?_ (fun zH=>?_)
   ·exact trivial
   replace zJ:=zH;clear hK K;replace H:=hid H2;clear H2;refine rK1 4 fun K hK=>?_
   go_simp;go_at_call 52
   (with_reducible (refine (HD.out _ (zac H.out)).mono ?_))
   rintro e wc ⟨ma,mc,rfl,hX,hb9⟩;have H2:=H.out.more (H.out.below hb9) (zbC hX);clear hX hb9;try dsimp only
   refine hK.out _ _ ?_ (fun zH=>?_)
   ·exact trivial
   replace zJ:=zH;clear hK K;replace H:=hid H2;clear H2;refine rK1 5 fun K hK=>?_
   rw[if_pos (by rfl)];refine H.out.o_lit2 (r1:=exD a) (r2:=exD b) (v1:=exV a (.slice na a.xs.length nc)) (v2:=exV b (.slice ma b.xs.length mc)) (k:=7) rfl underlying25 zi1 rfl rfl rfl (by decide) (by decide) rfl rfl (zbk _) (zbk _) (H.out.rowAt (j:=1) rfl) (H.out.rowAt (j:=0) rfl) (fun wl Cl _ H2=>?_);refine hK.out _ _ ?_ (fun zH=>?_)
   ·exact trivial
   replace zJ:=zH;clear hK K;replace H:=hid H2;clear H2;refine tKm 6 ?_;refine rKl 7 fun K hK=>?_
   rw[if_pos (by rfl)];refine H.out.o_store (ty:=27) rfl rfl rfl 0 rfl rfl rfl sEx_ (zad rfl) (fun wl _ _ H2=>?_);refine hK.out _ _ ?_;clear hK K;replace H:=hid H2;clear H2;refine rKd ?_;go_wp2_with fail
   have H3:=H.out.shut;refine bodyPost_ret (H.out.results results24 (by rfl) 0 rfl uEx_ sEx_) rfl ?_;exact ⟨_,_,by rw[HY.out];rfl,zcU.2 ((repOf (H3.rowAt (j:=0) rfl)).weak fun b _ ho=>ho.1),zac H3⟩
 ·rw[if_pos (by rfl)];refine H.out.o_load (ty:=27) rfl rfl 1 rfl uEx_ sEx_ ?_;refine hK.out _ _ ?_ (fun zH=>?_)
  ·exact trivial
  replace zJ:=zH;clear hK K;refine rK1 1 fun K hK=>?_
  rw[if_pos (by rfl)];refine H.out.o_load (ty:=27) rfl rfl 2 rfl uEx_ sEx_ ?_;refine hK.out _ _ ?_ (fun zH=>?_)
  ·exact trivial
  replace zJ:=zH;clear hK K;refine rK1 2 fun K hK=>?_
  go_simp;go_at_call 52
  (with_reducible (refine (HC.out _ (zac H.out)).mono ?_))
  rintro e wc ⟨na,nc,rfl,hX,hb9⟩;have H2:=H.out.more (H.out.below hb9) (zbC hX);clear hX hb9;try dsimp only
  refine hK.out _ _ ?_ (fun zH=>?_)
  ·exact trivial
  replace zJ:=zH;clear hK K;replace H:=hid H2;clear H2;refine rK1 4 fun K hK=>?_
  go_simp;go_at_call 52
  (with_reducible (refine (HD.out _ (zac H.out)).mono ?_))
  rintro e wc ⟨ma,mc,rfl,hX,hb9⟩;have H2:=H.out.more (H.out.below hb9) (zbC hX);clear hX hb9;try dsimp only
  refine hK.out _ _ ?_ (fun zH=>?_)
  ·exact trivial
  replace zJ:=zH;clear hK K;replace H:=hid H2;clear H2;refine rK1 5 fun K hK=>?_
  rw[if_pos (by rfl)];refine H.out.o_lit2 (r1:=exD a) (r2:=exD b) (v1:=exV a (.slice na a.xs.length nc)) (v2:=exV b (.slice ma b.xs.length mc)) (k:=7) rfl underlying25 zi1 rfl rfl rfl (by decide) (by decide) rfl rfl (zbk _) (zbk _) (H.out.rowAt (j:=1) rfl) (H.out.rowAt (j:=0) rfl) (fun wl Cl _ H2=>?_);refine hK.out _ _ ?_ (fun zH=>?_)
  ·exact trivial
  replace zJ:=zH;clear hK K;replace H:=hid H2;clear H2;refine tKm 6 ?_;refine rKl 7 fun K hK=>?_
  rw[if_pos (by rfl)];refine H.out.o_store (ty:=27) rfl rfl rfl 0 rfl rfl rfl sEx_ (zad rfl) (fun wl _ _ H2=>?_);refine hK.out _ _ ?_;clear hK K;replace H:=hid H2;clear H2;refine rKd ?_;go_wp2_with fail
  have H3:=H.out.shut;refine bodyPost_ret (H.out.results results24 (by rfl) 0 rfl uEx_ sEx_) rfl ?_;exact ⟨_,_,by rw[HY.out];rfl,zcU.2 ((repOf (H3.rowAt (j:=0) rfl)).weak fun b _ ho=>ho.1),zac H3⟩
