/- Walks of layer 14's laws: any two texts. -/
import Derived.Test.YtonkjhmkppeagaaGreatDoorTL14
import Derived.Test.YtonkjhmkppeagaaGreatDoorTAw
import Derived.Test.YtonkjhmkppeagaaGreatDoorTOw
import Derived.Test.YtonkjhmkppeagaaGreatDoorTRl
import Derived.Test.YtonkjhmkppeagaaGreatDoorTRl2
set_option linter.unusedVariables false
set_option linter.unusedSimpArgs false
namespace Go.Proofs.YtonkjhmkppeagaaGreatDoor.Pz
open Go.RowKit Go Go.Sort Ba Lx
theorem zRt_:(Tryz.prog.info? 81).bind (·.zero)=some (.agg #[.int .i64 0,.string ⟨#[]⟩,.int .i64 0,.int .i64 0]):=by kernel_rfl
theorem sRt_:(Tryz.prog.info? 81).map (·.size)=some 4:=by kernel_rfl
theorem uRt_:(Tryz.prog.underlying 81).map (·.isRow)=some true:=by kernel_rfl
theorem wp_append_more {P:Program} {ops:Array Oper} {rest:List Oper} {o:Oper} {a:Act} {Q:Exit→Act→World→Prop} {w:World} (hgd:Region.wanted o (yielded ops a.tmps)=true) {s x:Operand} {t e:TypeId} (ho:o.op=.call { callee:=.builtin .append,args:=#[s,x],argTypes:=#[t,t] }) (ht:P.underlying t=some (.slice e))
 {z:Value} {k bytes:Nat} (hi:(P.info? e).map (fun i=>(i.zero,i.size,i.bytes))=some (some z,k,bytes)) (hzs:z.cells.size=k) (hk:0 < k) (hb1:bytes≤1000) {base:Nat} {v u:Value} (hs:a.eval s=v) (hx:a.eval x=u) {rows rows2:List (List Dat)} {cells:List (List Value)} (hown:Own w base e k v rows cells)
 {okf:Nat→Prop} (hf:Rep w okf (.sl k rows2) u) (hok:∀ b,b < w.heap.size→okf b→base≤b∧v.ownBlock≠some b) (hn:rows.length+rows2.length≤1000000) (hbase:base≤w.heap.size) {n:Nat} (hnn:rows.length+rows2.length=n)
 (h:∀ (ao:Option Addr) (cp:Nat) (w':World),Rep w' (fun _=>True) (.sl k (rows++rows2)) (.slice ao n cp)→Kept (fun b=>v.ownBlock=some b) w w'→wpList P ops Q rest (a.put o.dst (.slice ao n cp)) w'):wpList P ops Q (o::rest) a w:=by
 cases hq:P.info? e with
 | none=>rw [hq] at hi;cases hi
 | some ii =>
  rw [hq] at hi
  have hi':(ii.zero,ii.size,ii.bytes)=(some z,k,bytes):=Option.some.inj hi
  obtain ⟨e1,e23⟩:=Prod.ext_iff.1 hi'
  obtain ⟨e2,e3⟩:=Prod.ext_iff.1 e23
  simp only at e1 e2 e3
  obtain ⟨v',w',cells',hrun,h1,h2⟩:=hown.more (P:=P) t o.type ht hq e1 e2 hzs hk (by omega) hf hok hn hbase
  have hr:=h1.rep
  obtain ⟨ao,cp,rfl,_⟩:=hr.len
  rw [List.length_append,hnn] at hrun hr
  refine wpList_want hgd fun _ hK=>?_
  unfold Oper.wp execOp
  simp only [ho,resolve,invoke,builtin,Sem.run_bind,Sem.run_pure,Result.andThen_ok,List.map_toArray,List.map_cons,List.map_nil,hs,hx,hrun]
  exact hK _ _ (h ao cp w' (hr.weak fun _ _ _=>trivial) h2)
theorem own_below {W W':World} {base k:Nat} {e:TypeId} {v:Value} {rows:List (List Dat)} {cells:List (List Value)} (h:Own W base e k v rows cells) (g:Below W.heap.size W W'):Own W' base e k v rows cells:=h.kept (S:=fun _=>False) (Kept.of_below g) (fun _ _ x=>x)
theorem lexL_count (l:List UInt8):(Lx.lexS l).1.length≤l.length:=by
 unfold Lx.lexS
 split
 ·simp
 ·exact (Lx.lex_toks l.length l 0 (Nat.le_refl _)).2.2
theorem defs_count:∀ ds:List Df,ds.length≤(defsT ds).length
 | []=>Nat.zero_le _
 | d::ds=>by
  have:=defs_count ds
  show ds.length+1≤((dfT0 d++[59,10])++defsT ds).length
  simp only [List.length_append,List.length_cons,List.length_nil]
  omega
set_option maxRecDepth 100000 in
set_option maxHeartbeats 12800000 in
theorem parseTexts_law (a b:ByteArray) (w:World) (hE:EnvL w):Calls Tryz.prog 6 #[.string a,.string b] w (EqTo w true):=by
 have HAW:Hid (∀ W,Below w.heap.size w W→Calls Tryz.prog 23 #[] W (EqTo W true)):=fun W hW=>awakeQ_any W (hE.below hW)
 have HB:=Lib.hid (Below.refl w.heap.size w)
 by_cases hbig:2000 < a.size∨2000 < b.size
 ·by_cases ha:2000 < a.size
  ·have g1:decide ((2000:Int) < (a.size:Int))=true:=by rw [decide_eq_true_eq];omega
   clear hbig hE ha
   go_enter Tryz.func6,Tryz.ntmps6
   go_wp2_with (go_at_call 23;(with_reducible (refine (HAW.out _ HB.out).mono ?_));rintro e wc ⟨rfl,hb9⟩;have HB2:=Lib.hid (two HB.out hb9);clear HB hb9;have HB:=HB2;clear HB2)
   go_ret
   exact ⟨rfl,HB.out⟩
  ·have g1:decide ((2000:Int) < (a.size:Int))=false:=by rw [decide_eq_false_iff_not];omega
   have g2:decide ((2000:Int) < (b.size:Int))=true:=by rw [decide_eq_true_eq];omega
   clear hbig hE ha
   go_enter Tryz.func6,Tryz.ntmps6
   go_wp2_with (go_at_call 23;(with_reducible (refine (HAW.out _ HB.out).mono ?_));rintro e wc ⟨rfl,hb9⟩;have HB2:=Lib.hid (two HB.out hb9);clear HB hb9;have HB:=HB2;clear HB2)
   go_ret
   exact ⟨rfl,HB.out⟩
 have hal:a.data.toList.length=a.size:=rfl
 have hbl:b.data.toList.length=b.size:=rfl
 have has:a.size≤2000:=by omega
 have hbs:b.size≤2000:=by omega
 have g1:decide ((2000:Int) < (a.size:Int))=false:=by rw [decide_eq_false_iff_not];omega
 have g2:decide ((2000:Int) < (b.size:Int))=false:=by rw [decide_eq_false_iff_not];omega
 obtain ⟨⟨da,ia,ea⟩,hpa⟩:∃ r,parseOf a.data.toList=r:=⟨_,rfl⟩
 obtain ⟨⟨ts,q,er⟩,hlx⟩:∃ r,Lx.lexS a.data.toList=r:=⟨_,rfl⟩
 have HPa:Hid (∀ W,Below w.heap.size w W→Calls Tryz.prog 32 #[.string a] W (DefsTo (da,ia,ea) W)):=fun W hW=>by
  have:=parse_of a W (hE.below hW)
  rw [hpa] at this
  exact this
 have HLx:Hid (∀ W,Calls Tryz.prog 33 #[.string a] W (LexTo (ts,q,er) 81 W)):=fun W=>by
  have:=refLex_any a W (by omega)
  rw [hlx] at this
  exact this
 by_cases her:er=0
 ·subst her
  by_cases hea:ea=0
  ·subst hea
   obtain ⟨⟨db,ib,eb⟩,hpb⟩:∃ r,parseOf b.data.toList=r:=⟨_,rfl⟩
   have hparts:=parts_parse (a:=a.data.toList) (b:=b.data.toList) (by omega) (by rw [hpa])
   have hia:=(parseOf_ok (l:=a.data.toList) (by rw [hpa])).2.2
   rw [hpa,hpb] at hparts
   rw [hpa] at hia
   simp only at hparts hia
   obtain ⟨⟨dab,iab,eab⟩,hpab⟩:∃ r,parseOf (a.data.toList++10::b.data.toList)=r:=⟨_,rfl⟩
   rw [hpab] at hparts
   simp only at hparts
   obtain ⟨heq,hcat⟩:=hparts
   subst heq
   have hia2:(ia:Int)=(a.size:Int):=by rw [hia,hal]
   have HPb:Hid (∀ W,Below w.heap.size w W→Calls Tryz.prog 32 #[.string b] W (DefsTo (db,ib,eab) W)):=fun W hW=>by
    have:=parse_of b W (hE.below hW)
    rw [hpb] at this
    exact this
   have HPab:Hid (∀ W,Below w.heap.size w W→Calls Tryz.prog 32 #[.string ((a++⟨#[10]⟩)++b)] W (DefsTo (dab,iab,eab) W)):=fun W hW=>by
    have:=parse_of ((a++⟨#[10]⟩)++b) W (hE.below hW)
    rw [show ((a++⟨#[10]⟩)++b).data.toList=a.data.toList++10::b.data.toList from by simp,hpab] at this
    exact this
   by_cases heb:eab=0
   ·subst heb
    have hdab:=hcat rfl
    have hna:da.length≤100000:=by
     have h1:=(parseOf_ok (l:=a.data.toList) (by rw [hpa])).2.1
     rw [hpa] at h1
     have h2:=defs_count da
     simp only at h1
     omega
    have hnb:db.length≤100000:=by
     have h1:=(parseOf_ok (l:=b.data.toList) (by rw [hpb])).2.1
     rw [hpb] at h1
     have h2:=defs_count db
     simp only at h1
     omega
    obtain ⟨na,hna'⟩:∃ n,da.length=n:=⟨_,rfl⟩
    obtain ⟨nb,hnb'⟩:∃ n,db.length=n:=⟨_,rfl⟩
    have hnab:dab.length=na+nb:=by rw [hdab,List.length_append,hna',hnb']
    have HROW:Hid (da.map dfD++db.map dfD=dab.map dfD):=by show _=_;rw [hdab,List.map_append]
    have HNA:Hid ((da.map dfD).length+(db.map dfD).length=na+nb):=by show _=_;rw [List.length_map,List.length_map,hna',hnb']
    have hna2:na≤100000:=by omega
    have hnb2:nb≤100000:=by omega
    have HNM:Hid ((da.map dfD).length+(db.map dfD).length≤1000000):=by show _≤_;rw [List.length_map,List.length_map,hna',hnb'];omega
    unfold DefsTo at HPa HPb HPab
    simp only [hna',hnb',hnab] at HPa HPb HPab
    have HLD:=Lib.hid hnab
    clear hE hpa hlx hpb hpab hcat hdab hia hal hbl hna hnb hna' hnb' hnab
    go_enter Tryz.func6,Tryz.ntmps6
    have H:=Lib.hid (St.start (S:=fun _=>False) w)
    clear HB
    go_upto_region 23 with (first|(go_at_call 32;(with_reducible (refine (HPa.out _ (st_bel H.out)).mono ?_));rintro e wc ⟨aoa,cpa,rfl,_,⟨cells,hOa⟩,hb9⟩;have H2:=H.out.adopt hb9 hOa;clear hOa;clear hb9;replace H:=Lib.hid H2;clear H2)|(go_at_call 33;(with_reducible (refine (HLx.out _).mono ?_));rintro e wc ⟨tv,rfl,_,hb9⟩;have H2:=H.out.below hb9;clear hb9;replace H:=Lib.hid H2;clear H2)|(go_at_call 32;(with_reducible (refine (HPb.out _ (st_bel H.out)).mono ?_));rintro e wc ⟨aob,cpb,rfl,hRb,_,hb9⟩;have H2:=H.out.more (H.out.below hb9) (Row.cons hRb (Row.nil _ _));clear hRb;clear hb9;replace H:=Lib.hid H2;clear H2)|(go_at_call 32;(with_reducible (refine (HPab.out _ (st_bel H.out)).mono ?_));rintro e wc ⟨aoc,cpc,rfl,hRc,_,hb9⟩;have H2:=H.out.more (H.out.below hb9) (Row.cons hRc (Row.nil _ _));clear hRc;clear hb9;replace H:=Lib.hid H2;clear H2))
    have hown:=H.out.toOwn (i:=0) rfl
    have HOWN:=Lib.hid hown
    have HRB:=Lib.hid (repOf (H.out.rowAt (j:=1) rfl))
    have HRC:=Lib.hid (repOf (H.out.rowAt (j:=0) rfl))
    have HSZ:Hid (w.heap.size≤wc.heap.size):=H.out.kept.size
    have HBW:=Lib.hid (st_bel H.out)
    clear hown H
    go_wp2_with (refine wp_append_more (by rfl) rfl Tryz.underlying74 iDf_ rfl (by decide) (by decide) rfl rfl HOWN.out HRB.out (fun b _ hb=>⟨hb.1,hb.2.2 _ List.mem_cons_self⟩) HNM.out HSZ.out HNA.out ?_;intro aov cpv w4 hRv hKv)
    have HRV:Hid (Rep w4 (fun _=>True) (.sl 25 (dab.map dfD)) (.slice aov (na+nb) cpv)):=by show Rep _ _ _ _;rw [← HROW.out];exact hRv
    have HRC4:Hid (Rep w4 (fun _=>True) (.sl 25 (dab.map dfD)) (.slice aoc (na+nb) cpc)):=(HRC.out.kept hKv (fun b _ hb=>hb.2.2 _ List.mem_cons_self)).weak fun _ _ _=>trivial
    have HB4:Hid (Below w.heap.size w w4):=HBW.out.trans (hKv.below (B:=w.heap.size) HSZ.out (fun k e=>(HOWN.out.lt k e).1))
    obtain ⟨n,hn⟩:∃ n,na+nb=n:=⟨_,rfl⟩
    have hni:(na:Int)+(nb:Int)=(n:Int):=by omega
    have hn9:n≤200000:=by omega
    rw [hn] at HRV HRC4 HLD
    clear hRv hKv HOWN HRB HRC HSZ HBW HNM HNA HROW HPa HPb HPab HLx
    try rw [hn]
    try rw [hni]
    go_loopw [142] (fun i wr=>∃ k:Nat,k≤n∧i=.int .i64 k∧Hid (Below w4.heap.size w4 wr)) (fun i _=>n - (intOf i).toNat)
    case atStart=>exact ⟨0,Nat.zero_le _,rfl,Below.refl _ _⟩
    case round =>
     obtain ⟨k,hk,rfl,HW⟩:=hrel
     by_cases hlt:k < n
     ·obtain ⟨x,hx⟩:∃ x,dab[k]?=some x:=⟨_,List.getElem?_eq_getElem (by rw [HLD.out];exact hlt)⟩
      obtain ⟨b1,o1,c1,rfl,hr1,hl1,hc1⟩:=HRV.out.cellsR (i:=k) (r:=dfD x) (by rw [List.getElem?_map,hx];rfl)
      obtain ⟨b2,o2,c2,rfl,hr2,hl2,hc2⟩:=HRC4.out.cellsR (i:=k) (r:=dfD x) (by rw [List.getElem?_map,hx];rfl)
      have H:=Lib.hid (St.start (S:=fun _=>False) wr)
      have HC1:Hid (∀ W,Below wr.heap.size wr W→∀ (j:Nat) (v:Value),c1[j]?=some v→W.cell? ⟨b1,o1+k * 25+j,none⟩=some v):=fun W hW=>hc1 W (two HW.out hW)
      have HC2:Hid (∀ W,Below wr.heap.size wr W→∀ (j:Nat) (v:Value),c2[j]?=some v→W.cell? ⟨b2,o2+k * 25+j,none⟩=some v):=fun W hW=>hc2 W (two HW.out hW)
      have HS1:Hid ((Tryz.prog.info? 88).map (·.size)=some c1.length):=by show _=_;rw [hl1];exact sDf_
      have HS2:Hid ((Tryz.prog.info? 88).map (·.size)=some c2.length):=by show _=_;rw [hl2];exact sDf_
      have HL1:Hid (25=c1.length):=hl1.symm
      have HO1:Hid (∀ v ∈ c1,v.oneCell'=true):=hr1.one
      have HEQ:Hid (∀ W,Below wr.heap.size wr W→Calls Tryz.prog 34 #[.agg c2.toArray,.agg c1.toArray] W (EqTo W true)):=fun W hW=>eqD_any x c2 c1 W _ _ (hr2.kept (S:=fun _=>False) (Kept.of_below (two HW.out hW)) (fun _ _ _ x=>x)) (hr1.kept (S:=fun _=>False) (Kept.of_below (two HW.out hW)) (fun _ _ _ x=>x))
      have hkn:(k:Int) < (n:Int):=by omega
      clear hr1 hr2 hc1 hc2 hl1 hl2 hx
      go_upto_region 26 with (first|(refine wpList_load_row (by rfl) (ty:=88) (cs:=c1) rfl rfl (HC1.out _ (st_bel H.out)) uDf_ HS1.out ?_)|(refine St.w_alloc (ty:=88) H.out (by rfl) rfl zDf_ rfl ?_;intro wn C _ _ H2;replace H:=Lib.hid H2;clear H2)|(refine St.w_store (ty:=88) H.out (by rfl) rfl rfl rfl 0 (vs:=c1) rfl rfl HL1.out HS1.out HO1.out ?_;intro wm _ _ H2;replace H:=Lib.hid H2;clear H2))
      have hbx:=H.out.at (i:=0) rfl
      have HCB:Hid (∀ W,Below wm.heap.size wm W→∀ (j:Nat) (v:Value),c1[j]?=some v→W.cell? ⟨C,0+j,none⟩=some v):=fun W hW j v hv=>by rw [Nat.zero_add];exact (hW.cell (by exact hbx.lt)).trans (hbx.cl j v hv)
      have HWM:=Lib.hid (st_bel H.out)
      clear hbx
      refine wp_region_M_drew 5 (S:=fun W=>Below wm.heap.size wm W) (by kernel_rfl) (by exact below_drew (Below.refl _ _)) (fun hHeld=>?_)
      refine tkP 0 rfl (by kernel_rfl) hHeld (Or.inl ⟨by rfl,by intro w hSw;clear hSw;go_simp<;>with_reducible rfl⟩) ?_
      try simp only [Array.reduceGetElem,zs]
      refine tkP 1 rfl (by kernel_rfl) hHeld (Or.inl ⟨by rfl,by intro w hSw;clear hSw;go_simp<;>with_reducible rfl⟩) ?_
      try simp only [Array.reduceGetElem,zs]
      refine tkP 2 rfl (by kernel_rfl) hHeld (Or.inl ⟨by rfl,by intro w hSw;clear hSw;go_simp<;>with_reducible rfl⟩) ?_
      try simp only [Array.reduceGetElem,zs]
      refine tkM 3 rfl (by kernel_rfl) hHeld (Or.inl ⟨by rfl,fun w hSw=>run_load_op (ty:=88) rfl rfl uDf_ HS2.out (HC2.out w (two HWM.out hSw))⟩) ?_
      try simp only [Array.reduceGetElem,zs]
      refine tkM 4 rfl (by kernel_rfl) hHeld (Or.inl ⟨by rfl,fun w hSw=>run_load_op (ty:=88) rfl rfl uDf_ HS1.out (HCB.out w hSw)⟩) ?_
      try simp only [Array.reduceGetElem,zs]
      refine wpAnyM_ready (rs:=[5]) (by kernel_rfl) (by simp) ?_
      refine AllReadyM.last rfl (by kernel_rfl) (fun K hK=>?_) AllReadyM.nil
      go_simp
      (go_at_call 34;(with_reducible (refine (HEQ.out _ (two HWM.out hHeld)).mono ?_)))
      rintro e wd ⟨rfl,hb⟩
      have HW2:=Lib.hid (two HW.out (two HWM.out (two hHeld hb)))
      refine hK.out _ _ ?_
      clear hK K
      clear hb hHeld
      try simp only [Array.reduceGetElem,zs]
      refine tkY 6 rfl (by kernel_rfl) (Or.inl ⟨by rfl,by intro w hSw;clear hSw;go_simp<;>with_reducible rfl⟩) ?_
      try simp only [Array.reduceGetElem,zs]
      refine wpAnyM_done (by kernel_rfl) ?_ _
      go_wp2_with fail
      go_roundw
      case rel=>exact ⟨k+1,by omega,by go_num,HW2⟩
      case measure=>simp [intOf];omega
     ·obtain rfl:k=n:=by omega
      have hkn:¬ ((k:Int) < (k:Int)):=by omega
      have HB:=Lib.hid (two HB4.out HW.out)
      go_wp2_with (go_at_call 23;(with_reducible (refine (HAW.out _ HB.out).mono ?_));rintro e wc ⟨rfl,hb9⟩;have HB2:=Lib.hid (two HB.out hb9);clear HB hb9;have HB:=HB2;clear HB2)
      go_ret
      exact ⟨rfl,HB.out⟩
   ·have hdab:dab=[]:=by have:=parse_nil (l:=a.data.toList++10::b.data.toList) (by rw [hpab];exact heb);rw [hpab] at this;exact this
    subst hdab
    have h1:(eab != 0)=true:=by simpa using heb
    have h2:(eab == 0)=false:=by simpa using heb
    clear hE hpa hlx hpb hpab hcat hia hal hbl heb
    go_enter Tryz.func6,Tryz.ntmps6
    go_wp2_with (first|(go_at_call 32;(with_reducible (refine (HPa.out _ (HB.out)).mono ?_));rintro e wc ⟨aoa,cpa,rfl,hRa,hOa,hb9⟩;have HB2:=Lib.hid (two HB.out hb9);clear hRa hOa;clear HB hb9;have HB:=HB2;clear HB2)|(go_at_call 33;(with_reducible (refine (HLx.out _).mono ?_));rintro e wc ⟨tv,rfl,hTv,hb9⟩;clear hTv;have HB2:=Lib.hid (two HB.out hb9);clear HB hb9;have HB:=HB2;clear HB2)|(go_at_call 32;(with_reducible (refine (HPb.out _ (HB.out)).mono ?_));rintro e wc ⟨aob,cpb,rfl,hRb,hOb,hb9⟩;have HB2:=Lib.hid (two HB.out hb9);clear hRb hOb;clear HB hb9;have HB:=HB2;clear HB2)|(go_at_call 32;(with_reducible (refine (HPab.out _ (HB.out)).mono ?_));rintro e wc ⟨aoc,cpc,rfl,hRc,hOc,hb9⟩;have HB2:=Lib.hid (two HB.out hb9);clear hRc hOc;clear HB hb9;have HB:=HB2;clear HB2)|(go_at_call 23;(with_reducible (refine (HAW.out _ HB.out).mono ?_));rintro e wc ⟨rfl,hb9⟩;have HB2:=Lib.hid (two HB.out hb9);clear HB hb9;have HB:=HB2;clear HB2))
    go_ret
    exact ⟨rfl,HB.out⟩
  ·have hplace:=parse_place (l:=a.data.toList) (by rw [hlx]) (by rw [hpa];exact hea)
   have hda:da=[]:=by have:=parse_nil (l:=a.data.toList) (by rw [hpa];exact hea);rw [hpa] at this;exact this
   subst hda
   rw [hpa,hlx] at hplace
   simp only at hplace
   obtain ⟨he12,hpl⟩:=hplace
   have h1:(ea != 0)=true:=by simpa using hea
   have h2:(ea == 0)=false:=by simpa using hea
   have hfin:Hid ((decide ((ia:Int)=(a.size:Int)) || ts.any fun t=>decide ((t.p:Int)=(ia:Int)))=true):=by
    show _=true
    rw [Bool.or_eq_true]
    rcases hpl with h|⟨t,ht,h⟩
    ·exact .inl (by rw [decide_eq_true_eq,h,hal])
    ·exact .inr (List.any_eq_true.2 ⟨t,ht,by rw [decide_eq_true_eq,h]⟩)
   have hsl:ts.length≤2000:=by
    have:=lexL_count a.data.toList
    rw [hlx] at this
    simp only at this
    omega
   obtain ⟨n,hn⟩:∃ n,ts.length=n:=⟨_,rfl⟩
   have HN:=Lib.hid hn
   rw [hn] at hsl
   have h51:(ea == 51)=true∨((ea == 51)=false∧(ea == 52)=true):=by
    rcases he12 with rfl|rfl
    ·exact .inl rfl
    ·exact .inr ⟨rfl,rfl⟩
   clear hE hpa hlx hal hbl hea he12 hpl hn
   go_enter Tryz.func6,Tryz.ntmps6
   go_upto_region 8 with (first|(go_at_call 32;(with_reducible (refine (HPa.out _ (HB.out)).mono ?_));rintro e wc ⟨aoa,cpa,rfl,hRa,hOa,hb9⟩;have HB2:=Lib.hid (two HB.out hb9);clear hRa hOa;clear HB hb9;have HB:=HB2;clear HB2)|(go_at_call 33;(with_reducible (refine (HLx.out _).mono ?_));rintro e wc ⟨tv,rfl,hTv,hb9⟩;have hT:=TokAt.of hTv;clear hTv;have HB2:=Lib.hid (two HB.out hb9);clear HB hb9;have HB:=HB2;clear HB2))
   obtain ⟨q0,hq0⟩:∃ q0:Bool,decide ((ia:Int)=(a.size:Int))=q0:=⟨_,rfl⟩
   have hq1:((ia:Int) == (a.size:Int))=q0:=by rw [← hq0];rfl
   rw [hq0] at hfin
   have HT:=Lib.hid hT
   obtain ⟨tao,tcp,htv⟩:=hT.len
   rw [HN.out] at htv
   subst htv
   clear hT hq0
   go_upto_region 10 with (fail)
   obtain ⟨QB,HQB⟩:∃ QB:Nat→Bool,Hid (∀ k,QB k=(q0 || (ts.take k).any fun t=>decide ((t.p:Int)=(ia:Int)))):=⟨_,fun _=>rfl⟩
   go_loopw [11,69] (fun okv i wr=>∃ (k:Nat),k≤n∧okv=.bool (QB k)∧i=.int .i64 k∧Hid (Below wc.heap.size wc wr)) (fun _ i _=>n - (intOf i).toNat)
   case atStart=>exact ⟨0,Nat.zero_le _,(by rw [HQB.out,List.take_zero];simp),rfl,Below.refl _ _⟩
   case round =>
    obtain ⟨k,hk,rfl,rfl,HW⟩:=hrel
    obtain ⟨q,hq⟩:∃ q,QB k=q:=⟨_,rfl⟩
    have HQ:Hid (q=(q0 || (ts.take k).any fun t=>decide ((t.p:Int)=(ia:Int)))):=by show _=_;rw [← hq];exact HQB.out k
    rw [hq]
    clear hq
    by_cases hlt:k < n
    ·obtain ⟨t,ht⟩:∃ t,ts[k]?=some t:=⟨_,List.getElem?_eq_getElem (by rw [HN.out];exact hlt)⟩
     have hne:ts≠[]:=fun e=>by rw [e] at ht;simp at ht
     obtain ⟨g,cp,hv,hgl,hn1,hn2,hcl⟩:=HT.out.pos hne
     injection hv with hv1 _ _
     subst hv1
     have hrow:Hid (∀ W,Below wr.heap.size wr W→∀ (j:Nat) (v:Value),(tokCells t)[j]?=some v→W.cell? ⟨g,k * 4+j,none⟩=some v):=fun W hW j v hv=>by
      have hj:j < 4:=(List.getElem?_eq_some_iff.1 hv).1
      have e:=hcl k t ht j hj
      rw [hv] at e
      exact ((two HW.out hW).cell (by exact hgl)).trans e
     have HTQ:Hid ((q0 || (ts.take (k+1)).any fun t=>decide ((t.p:Int)=(ia:Int)))=(q || decide ((t.p:Int)=(ia:Int)))):=by
      show _=_
      rw [List.take_add_one,ht,List.any_append,HQ.out,Bool.or_assoc]
      simp
     have H:=Lib.hid (St.start (S:=fun _=>False) wr)
     have hkn:(k:Int) < (n:Int):=by omega
     clear ht hne hcl
     unfold tokCells at hrow
     cases q with
     | true =>
      go_wp2_with (first|(refine wpList_load_row (by rfl) (ty:=81) rfl rfl (hrow.out _ (st_bel H.out)) uRt_ sRt_ ?_)|(refine St.w_alloc (ty:=81) H.out (by rfl) rfl zRt_ rfl ?_;intro wn C _ _ H2;replace H:=Lib.hid H2;clear H2)|(refine St.w_store (ty:=81) H.out (by rfl) rfl rfl rfl 0 rfl rfl rfl sRt_ (all_one rfl) ?_;intro wm _ _ H2;replace H:=Lib.hid H2;clear H2))
      go_roundw
      case rel=>exact ⟨_,_,_,⟨k+1,by have:=HN.out;omega,by first|(rw [HQB.out,HTQ.out];rfl)|(rw [HQB.out,HTQ.out];simp),by go_num,two HW.out (st_bel H.out)⟩,rfl,rfl,rfl⟩
      case measure=>simp [intOf];omega
     | false =>
      obtain ⟨q2,hq2⟩:∃ q2:Bool,((t.p:Int) == (ia:Int))=q2:=⟨_,rfl⟩
      have HQ2:Hid (decide ((t.p:Int)=(ia:Int))=q2):=by show _=_;rw [← hq2];rfl
      go_wp2_with (first|(refine wpList_load_row (by rfl) (ty:=81) rfl rfl (hrow.out _ (st_bel H.out)) uRt_ sRt_ ?_)|(refine St.w_alloc (ty:=81) H.out (by rfl) rfl zRt_ rfl ?_;intro wn C _ _ H2;replace H:=Lib.hid H2;clear H2)|(refine St.w_store (ty:=81) H.out (by rfl) rfl rfl rfl 0 rfl rfl rfl sRt_ (all_one rfl) ?_;intro wm _ _ H2;replace H:=Lib.hid H2;clear H2)|(refine St.w_load1 (ty:=3) H.out (by rfl) rfl rfl 0 rfl rfl uInt_ ?_))
      go_roundw
      case rel=>exact ⟨_,_,_,⟨k+1,by have:=HN.out;omega,by first|(rw [HQB.out,HTQ.out,HQ2.out];rfl)|(rw [hq2,HQB.out,HTQ.out,HQ2.out];rfl),by go_num,two HW.out (st_bel H.out)⟩,rfl,rfl,rfl⟩
      case measure=>simp [intOf];omega
    ·obtain rfl:k=n:=by omega
     have hkn:¬ ((k:Int) < (k:Int)):=by omega
     have hqt:q=true:=by
      have e:=hfin.out
      rw [HQ.out,← HN.out,List.take_length]
      exact e
     subst hqt
     replace HB:=Lib.hid (two HB.out HW.out)
     rcases h51 with h51|⟨h51,h52⟩
     ·go_wp2_with (go_at_call 23;(with_reducible (refine (HAW.out _ HB.out).mono ?_));rintro e wc ⟨rfl,hb9⟩;have HB2:=Lib.hid (two HB.out hb9);clear HB hb9;have HB:=HB2;clear HB2)
      go_ret
      exact ⟨rfl,HB.out⟩
     ·go_wp2_with (go_at_call 23;(with_reducible (refine (HAW.out _ HB.out).mono ?_));rintro e wc ⟨rfl,hb9⟩;have HB2:=Lib.hid (two HB.out hb9);clear HB hb9;have HB:=HB2;clear HB2)
      go_ret
      exact ⟨rfl,HB.out⟩
 ·have hpe:=parse_lex_err (l:=a.data.toList) (by rw [hlx];exact her)
  rw [hpa,hlx] at hpe
  simp only [Prod.mk.injEq] at hpe
  obtain ⟨rfl,rfl,rfl⟩:=hpe
  have h1:(ea != 0)=true:=by simpa using her
  have h2:(ea == 0)=false:=by simpa using her
  clear hE hpa hlx hal hbl her
  go_enter Tryz.func6,Tryz.ntmps6
  go_wp2_with (first|(go_at_call 32;(with_reducible (refine (HPa.out _ (HB.out)).mono ?_));rintro e wc ⟨aoa,cpa,rfl,hRa,hOa,hb9⟩;have HB2:=Lib.hid (two HB.out hb9);clear hRa hOa;clear HB hb9;have HB:=HB2;clear HB2)|(go_at_call 33;(with_reducible (refine (HLx.out _).mono ?_));rintro e wc ⟨tv,rfl,hTv,hb9⟩;clear hTv;have HB2:=Lib.hid (two HB.out hb9);clear HB hb9;have HB:=HB2;clear HB2)|(go_at_call 23;(with_reducible (refine (HAW.out _ HB.out).mono ?_));rintro e wc ⟨rfl,hb9⟩;have HB2:=Lib.hid (two HB.out hb9);clear HB hb9;have HB:=HB2;clear HB2))
  go_ret
  exact ⟨rfl,HB.out⟩
end Go.Proofs.YtonkjhmkppeagaaGreatDoor.Pz
