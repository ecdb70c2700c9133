/- Walks: the text of a scheme, of what an asset is made of. -/
import Derived.Test.YtonkjhmkppeagaaGreatDoorVWords
import Derived.Test.YtonkjhmkppeagaaGreatDoorVLp
set_option maxRecDepth 100000
set_option maxHeartbeats 3200000
set_option linter.unusedVariables false
set_option linter.unusedSimpArgs false
namespace Go.Proofs.YtonkjhmkppeagaaGreatDoor.Pz
open Go.Proofs.Tryz
open Go.Lib (hid)
open Go.RowKit Go Go.Sort Ba Lx
theorem zgP (K A B:Int) (a0:-9223372036854775808≤A) (a1:A≤9223372036854775807) (b0:-9223372036854775808≤B) (b1:B≤9223372036854775807) (c0 c1 c2 c6 c7 c8 c9 c10 c11 c12 c13 c14 c15 c16 c17 c18 c19 c20 c21 c22 c23 c24:Value) (w:World) (hE:EnvX w) :
 Calls Tryz.prog 100 #[.agg #[c0,c1,c2,.int .i64 K,.int .i64 A,.int .i64 B,c6,c7,c8,c9,c10,c11,c12,c13,c14,c15,c16,c17,c18,c19,c20,c21,c22,c23,c24]] w (StrTo (scT ⟨K,A,B⟩) w):=by
 have H:=hid (St.start (S:=fun _=>False) w);by_cases hk:1≤K∧K≤5
 ·obtain ⟨kk,rfl⟩:∃ kk:Nat,K=kk:=⟨K.toNat,by omega⟩;obtain ⟨KS,hKS⟩:∃ J:ByteArray,(⟨(wAt zaw (kk:Int)).toArray⟩:ByteArray)=J:=⟨_,rfl⟩;have hKs:KS.size≤1000:=by rw[← hKS,sz_mk];have h7:(wAt zaw (kk:Int)).length≤7:=(zem hk).1;omega
  have HKS:Hid ((zz6:List Value)[kk]?=some (.string KS)):=by
   show _=_
   rw[← hKS];have:kk=1∨kk=2∨kk=3∨kk=4∨kk=5:=by omega
   rcases this with rfl|rfl|rfl|rfl|rfl<;>rfl
  obtain ⟨NA,hNA⟩:∃ J:ByteArray,(⟨(Lib.itoa A).toArray⟩:ByteArray)=J:=⟨_,rfl⟩;have HNA:Hid (∀ W,Below w.heap.size w W→Calls Tryz.prog 70 #[.int .i64 A] W fun e w'=>e=.returned (.string NA)∧Below W.heap.size W w'):=fun W hW=>by
   have:=zjU A (by omega) (by omega) W (hE.below hW).l.pow;rw[hNA]at this;exact this
  have hNAs:NA.size≤1000:=by rw[← hNA,sz_mk];have:=Lib.itoa_length_le A (by omega) (by omega);omega
  obtain ⟨NB,hNB⟩:∃ J:ByteArray,(⟨(Lib.itoa B).toArray⟩:ByteArray)=J:=⟨_,rfl⟩;have HNB:Hid (∀ W,Below w.heap.size w W→Calls Tryz.prog 70 #[.int .i64 B] W fun e w'=>e=.returned (.string NB)∧Below W.heap.size W w'):=fun W hW=>by
   have:=zjU B (by omega) (by omega) W (hE.below hW).l.pow;rw[hNB]at this;exact this
  have hNBs:NB.size≤1000:=by rw[← hNB,sz_mk];have:=Lib.itoa_length_le B (by omega) (by omega);omega
  have HT:Hid ((((KS++⟨#[32]⟩)++NA)++⟨#[46,46]⟩)++NB=⟨(scT ⟨(kk:Int),A,B⟩).toArray⟩):=by
   show _=_
   rw[← hKS,← hNA,← hNB];show ((((⟨(wAt zaw (kk:Int)).toArray⟩:ByteArray)++⟨([32]:Str).toArray⟩)++⟨(Lib.itoa A).toArray⟩)++⟨([46,46]:Str).toArray⟩)++⟨(Lib.itoa B).toArray⟩=_
   rw[zbD,zbD,zbD,zbD];congr 2
   unfold scT;rw[if_pos hk];simp
  have hk6:(kk:Int)<6:=by omega
  have hk1:¬ (kk:Int)<1:=by omega
  have hz1:¬ 9223372036854775807<KS.size+1:=by omega
  have hz2:¬ 9223372036854775807<KS.size+1+NA.size:=by omega
  have hz3:¬ 9223372036854775807<KS.size+1+NA.size+2:=by omega
  have hz4:¬ 9223372036854775807<KS.size+1+NA.size+2+NB.size:=by omega
  clear hE a0 a1 b0 b1 hKS hNA hNB hk;go_enter func100,ntmps100
  go_upto_region 4 with (first|(refine St.w_box (vs:=[c0,c1,c2,.int .i64 (kk:Int),.int .i64 A,.int .i64 B,c6,c7,c8,c9,c10,c11,c12,c13,c14,c15,c16,c17,c18,c19,c20,c21,c22,c23,c24]) H.out (by rfl) rfl rfl rfl ?_;intro wn X _ _ H2;replace H:=hid H2;clear H2)|(refine St.w_lit H.out (by rfl) rfl underlying48 iS2_ zz6 rfl rfl rfl (by decide) (by decide) (by decide) (all_k rfl) rfl ?_;intro wl Lb _ H2;replace H:=hid H2;clear H2)|(refine St.w_load1 (ty:=3) H.out (by rfl) rfl rfl 1 rfl rfl uInt_ ?_))
  refine zaa 18 (S:=fun W=>W.cell? ⟨X,3,none⟩=some (.int .i64 (kk:Int))∧W.cell? ⟨X,4,none⟩=some (.int .i64 A)∧W.cell? ⟨X,5,none⟩=some (.int .i64 B)∧W.cell? ⟨Lb,kk,none⟩=some (.string KS)) (by kernel_rfl) (by exact ⟨H.out.drew.cellS (i:=1) rfl rfl,H.out.drew.cellS (i:=1) rfl rfl,H.out.drew.cellS (i:=1) rfl rfl,H.out.drew.cellS (i:=0) rfl HKS.out⟩) (fun zJ=>?_);replace H:=hid H.out.drew;refine tKm 0 ?_;refine tKm 1 ?_;refine tKm 2 ?_;refine tKm 3 ?_;refine tKm 4 ?_;refine tKm 5 ?_;refine tKm 6 ?_;refine tKm 7 ?_;refine tKm 8 ?_;refine tKm 9 ?_;refine tKm 13 ?_;refine tKm 14 ?_;refine tKm 15 ?_;refine rK1 10 fun K hK=>?_
  go_simp;go_at_call 70
  (with_reducible (refine (HNA.out _ (zac H.out)).mono ?_))
  rintro e wc ⟨rfl,hb9⟩;have H2:=H.out.below hb9;clear hb9;try dsimp only
  refine hK.out _ _ ?_ (fun zH=>?_)
  ·exact ⟨H2.cellS (i:=1) rfl rfl,H2.cellS (i:=1) rfl rfl,H2.cellS (i:=1) rfl rfl,H2.cellS (i:=0) rfl HKS.out⟩
  replace zJ:=zH;clear hK K;replace H:=hid H2;clear H2;refine tKm 11 ?_;refine tKm 12 ?_;refine rK1 16 fun K hK=>?_
  go_simp;go_at_call 70
  (with_reducible (refine (HNB.out _ (zac H.out)).mono ?_))
  rintro e wc ⟨rfl,hb9⟩;have H2:=H.out.below hb9;clear hb9;try dsimp only
  refine hK.out _ _ ?_ (fun zH=>?_)
  ·exact ⟨H2.cellS (i:=1) rfl rfl,H2.cellS (i:=1) rfl rfl,H2.cellS (i:=1) rfl rfl,H2.cellS (i:=0) rfl HKS.out⟩
  replace zJ:=zH;clear hK K;replace H:=hid H2;clear H2;refine tKm 17 ?_;refine rKl 18 fun K hK=>?_
  go_simp;refine hK.out _ _ ?_;clear hK K;refine rKd ?_;go_wp2_with fail
  go_ret
  exact ⟨zcd HT.out,zac H.out⟩
 ·have e:scT ⟨K,A,B⟩=[]:=by unfold scT;rw[if_neg hk]
  rw[e];clear e hE a0 a1 b0 b1;rcases (by omega:K<1∨(¬ K<1∧6≤K)) with h1|⟨h1,h2⟩
  all_goals
   clear hk;go_enter func100,ntmps100
   go_wp2_with (first|(refine St.w_box (vs:=[c0,c1,c2,.int .i64 K,.int .i64 A,.int .i64 B,c6,c7,c8,c9,c10,c11,c12,c13,c14,c15,c16,c17,c18,c19,c20,c21,c22,c23,c24]) H.out (by rfl) rfl rfl rfl ?_;intro wn X _ _ H2;replace H:=hid H2;clear H2)|(refine St.w_lit H.out (by rfl) rfl underlying48 iS2_ zz6 rfl rfl rfl (by decide) (by decide) (by decide) (all_k rfl) rfl ?_;intro wl Lb _ H2;replace H:=hid H2;clear H2)|(refine St.w_load1 (ty:=3) H.out (by rfl) rfl rfl 1 rfl rfl uInt_ ?_)|(refine St.w_load1 (ty:=3) H.out (by rfl) rfl rfl 0 rfl rfl uInt_ ?_))
   go_ret
   exact ⟨rfl,zac H.out⟩
theorem znS (a s:Str) (K n:Int) (a0:-9223372036854775808≤n) (a1:n≤9223372036854775807) (w:World) (hE:EnvX w) (hlen:(inT ⟨a,K,n,s⟩).length≤100000000) :
 Calls Tryz.prog 101 #[.agg #[.string ⟨a.toArray⟩,.int .i64 K,.int .i64 n,.string ⟨s.toArray⟩]] w (StrTo (inT ⟨a,K,n,s⟩) w):=by
 have H:=hid (St.start (S:=fun _=>False) w);obtain ⟨N,hN⟩:∃ J:ByteArray,(⟨a.toArray⟩:ByteArray)=J:=⟨_,rfl⟩;obtain ⟨M,hM⟩:∃ J:ByteArray,(⟨s.toArray⟩:ByteArray)=J:=⟨_,rfl⟩;by_cases hk:1≤K∧K≤5
 ·obtain ⟨kk,rfl⟩:∃ kk:Nat,K=kk:=⟨K.toNat,by omega⟩;obtain ⟨KS,hKS⟩:∃ J:ByteArray,(⟨(wAt zaf (kk:Int)).toArray⟩:ByteArray)=J:=⟨_,rfl⟩;have HKS:Hid ((zz4:List Value)[kk]?=some (.string KS)):=by
   show _=_
   rw[← hKS];have:kk=1∨kk=2∨kk=3∨kk=4∨kk=5:=by omega
   rcases this with rfl|rfl|rfl|rfl|rfl<;>rfl
  obtain ⟨NN,hNN⟩:∃ J:ByteArray,(⟨(Lib.itoa n).toArray⟩:ByteArray)=J:=⟨_,rfl⟩;have HNN:Hid (∀ W,Below w.heap.size w W→Calls Tryz.prog 70 #[.int .i64 n] W fun e w'=>e=.returned (.string NN)∧Below W.heap.size W w'):=fun W hW=>by
   have:=zjU n (by omega) (by omega) W (hE.below hW).l.pow;rw[hNN]at this;exact this
  have hNNs:NN.size≤1000:=by rw[← hNN,sz_mk];have:=Lib.itoa_length_le n (by omega) (by omega);omega
  have e:inT ⟨a,(kk:Int),n,s⟩=zaC [a,wAt zaf (kk:Int),inN ⟨a,(kk:Int),n,s⟩,sAs,s]:=by unfold inT;rw[if_pos hk]
  rw[e]at hlen ⊢;clear e;have hk6:(kk:Int)<6:=by omega
  have hk1:¬ (kk:Int)<1:=by omega
  have e2:inN ⟨a,(kk:Int),n,s⟩=if (kk:Int)=2∨(kk:Int)=3 then Lib.itoa n else []:=rfl
  rw[e2]at hlen ⊢;clear e2;rw[hN,hM];by_cases k2:(kk:Int)=2
  ·rw[if_pos (.inl k2)]at hlen ⊢;obtain ⟨R,hR⟩:∃ T:ByteArray,(⟨(zaC [a,wAt zaf (kk:Int),Lib.itoa n,sAs,s]).toArray⟩:ByteArray)=T:=⟨_,rfl⟩;have HWD:Hid (∀ W g,Box W g [.string N,.string KS,.string NN,.string ⟨#[97,115]⟩,.string M]→Calls Tryz.prog 99 #[.slice (some ⟨g,0,none⟩) 5 5] W (fun e w'=>e=.returned (.string R)∧Kept (fun b=>b=g) W w')):=fun W g hb=>by
    have:=zdo [a,wAt zaf (kk:Int),Lib.itoa n,sAs,s] g W (by show Box W g [strV a,strV (wAt zaf (kk:Int)),strV (Lib.itoa n),strV sAs,strV s];unfold strV;rw[hN,hKS,hNN,hM];exact hb) (by show 5≤1000000;decide) (by omega);unfold zex at this;rw[hR]at this;exact this
   have HRR:=hid hR;have q1:((kk:Int) == 2)=true:=by rw[beq_iff_eq];exact k2
   clear k2;clear hE a0 a1 hlen hKS hN hM hNN hk hR;go_enter func101,ntmps101
   go_upto_region 7 with (first|(refine St.w_box (vs:=[.string N,.int .i64 (kk:Int),.int .i64 n,.string M]) H.out (by rfl) rfl rfl rfl ?_;intro wn X _ _ H2;replace H:=hid H2;clear H2)|(refine St.w_lit H.out (by rfl) rfl underlying48 iS2_ zz4 rfl rfl rfl (by decide) (by decide) (by decide) (all_k rfl) rfl ?_;intro wl Lb _ H2;replace H:=hid H2;clear H2)|(refine St.w_load1 (ty:=3) H.out (by rfl) rfl rfl 1 rfl rfl uInt_ ?_)|(refine St.w_load1 (ty:=3) H.out (by rfl) rfl rfl 0 rfl rfl uInt_ ?_)|(go_at_call 70;(with_reducible (refine (HNN.out _ (zac H.out)).mono ?_));rintro e wc ⟨rfl,hb9⟩;replace H:=hid (H.out.below hb9);clear hb9))
   refine zaa 13 (S:=fun W=>W.cell? ⟨X,0,none⟩=some (.string N)∧W.cell? ⟨X,1,none⟩=some (.int .i64 (kk:Int))∧W.cell? ⟨X,3,none⟩=some (.string M)∧W.cell? ⟨Lb,kk,none⟩=some (.string KS)) (by kernel_rfl) (by exact ⟨H.out.drew.cellS (i:=1) rfl rfl,H.out.drew.cellS (i:=1) rfl rfl,H.out.drew.cellS (i:=1) rfl rfl,H.out.drew.cellS (i:=0) rfl HKS.out⟩) (fun zJ=>?_);replace H:=hid H.out.drew;refine tKm 0 ?_;refine tKm 1 ?_;refine tKm 2 ?_;refine tKm 3 ?_;refine tKm 4 ?_;refine tKm 5 ?_;refine tKm 6 ?_;refine tKm 7 ?_;refine tKm 8 ?_;refine tKm 9 ?_;refine tKm 10 ?_;refine rK1 11 fun K hK=>?_
   rw[if_pos (by rfl)];refine H.out.o_lit rfl underlying48 iS2_ [.string N,.string KS,.string NN,.string ⟨#[97,115]⟩,.string M] rfl rfl rfl (by decide) (by decide) (by decide) (all_k rfl) rfl (fun wl Cl _ H2=>?_);refine hK.out _ _ ?_ (fun zH=>?_)
   ·exact ⟨H2.cellS (i:=2) rfl rfl,H2.cellS (i:=2) rfl rfl,H2.cellS (i:=2) rfl rfl,H2.cellS (i:=1) rfl HKS.out⟩
   replace zJ:=zH;clear hK K;replace H:=hid H2;clear H2;refine rK1 12 fun K hK=>?_
   go_simp;go_at_call 99
   (with_reducible (refine (HWD.out _ _ (H.out.at (i:=0) rfl)).mono ?_))
   rintro e wc ⟨rfl,hk9⟩;have H2:=H.out.lent hk9;clear hk9;try dsimp only
   refine hK.out _ _ ?_ (fun zH=>?_)
   ·exact ⟨H2.cellS (i:=1) rfl rfl,H2.cellS (i:=1) rfl rfl,H2.cellS (i:=1) rfl rfl,H2.cellS (i:=0) rfl HKS.out⟩
   replace zJ:=zH;clear hK K;replace H:=hid H2;clear H2;refine rKl 13 fun K hK=>?_
   go_simp;refine hK.out _ _ ?_;clear hK K;refine rKd ?_;go_wp2_with fail
   go_ret
   rw[← HRR.out];exact ⟨rfl,zac H.out⟩
  by_cases k3:(kk:Int)=3
  ·rw[if_pos (.inr k3)]at hlen ⊢;obtain ⟨R,hR⟩:∃ T:ByteArray,(⟨(zaC [a,wAt zaf (kk:Int),Lib.itoa n,sAs,s]).toArray⟩:ByteArray)=T:=⟨_,rfl⟩;have HWD:Hid (∀ W g,Box W g [.string N,.string KS,.string NN,.string ⟨#[97,115]⟩,.string M]→Calls Tryz.prog 99 #[.slice (some ⟨g,0,none⟩) 5 5] W (fun e w'=>e=.returned (.string R)∧Kept (fun b=>b=g) W w')):=fun W g hb=>by
    have:=zdo [a,wAt zaf (kk:Int),Lib.itoa n,sAs,s] g W (by show Box W g [strV a,strV (wAt zaf (kk:Int)),strV (Lib.itoa n),strV sAs,strV s];unfold strV;rw[hN,hKS,hNN,hM];exact hb) (by show 5≤1000000;decide) (by omega);unfold zex at this;rw[hR]at this;exact this
   have HRR:=hid hR;have q1:((kk:Int) == 2)=false:=by rw[beq_eq_false_iff_ne];exact k2
   have q2:((kk:Int) == 3)=true:=by rw[beq_iff_eq];exact k3
   clear k2 k3;clear hE a0 a1 hlen hKS hN hM hNN hk hR;go_enter func101,ntmps101
   go_upto_region 7 with (first|(refine St.w_box (vs:=[.string N,.int .i64 (kk:Int),.int .i64 n,.string M]) H.out (by rfl) rfl rfl rfl ?_;intro wn X _ _ H2;replace H:=hid H2;clear H2)|(refine St.w_lit H.out (by rfl) rfl underlying48 iS2_ zz4 rfl rfl rfl (by decide) (by decide) (by decide) (all_k rfl) rfl ?_;intro wl Lb _ H2;replace H:=hid H2;clear H2)|(refine St.w_load1 (ty:=3) H.out (by rfl) rfl rfl 1 rfl rfl uInt_ ?_)|(refine St.w_load1 (ty:=3) H.out (by rfl) rfl rfl 0 rfl rfl uInt_ ?_)|(go_at_call 70;(with_reducible (refine (HNN.out _ (zac H.out)).mono ?_));rintro e wc ⟨rfl,hb9⟩;replace H:=hid (H.out.below hb9);clear hb9))
   refine zaa 13 (S:=fun W=>W.cell? ⟨X,0,none⟩=some (.string N)∧W.cell? ⟨X,1,none⟩=some (.int .i64 (kk:Int))∧W.cell? ⟨X,3,none⟩=some (.string M)∧W.cell? ⟨Lb,kk,none⟩=some (.string KS)) (by kernel_rfl) (by exact ⟨H.out.drew.cellS (i:=1) rfl rfl,H.out.drew.cellS (i:=1) rfl rfl,H.out.drew.cellS (i:=1) rfl rfl,H.out.drew.cellS (i:=0) rfl HKS.out⟩) (fun zJ=>?_);replace H:=hid H.out.drew;refine tKm 0 ?_;refine tKm 1 ?_;refine tKm 2 ?_;refine tKm 3 ?_;refine tKm 4 ?_;refine tKm 5 ?_;refine tKm 6 ?_;refine tKm 7 ?_;refine tKm 8 ?_;refine tKm 9 ?_;refine tKm 10 ?_;refine rK1 11 fun K hK=>?_
   rw[if_pos (by rfl)];refine H.out.o_lit rfl underlying48 iS2_ [.string N,.string KS,.string NN,.string ⟨#[97,115]⟩,.string M] rfl rfl rfl (by decide) (by decide) (by decide) (all_k rfl) rfl (fun wl Cl _ H2=>?_);refine hK.out _ _ ?_ (fun zH=>?_)
   ·exact ⟨H2.cellS (i:=2) rfl rfl,H2.cellS (i:=2) rfl rfl,H2.cellS (i:=2) rfl rfl,H2.cellS (i:=1) rfl HKS.out⟩
   replace zJ:=zH;clear hK K;replace H:=hid H2;clear H2;refine rK1 12 fun K hK=>?_
   go_simp;go_at_call 99
   (with_reducible (refine (HWD.out _ _ (H.out.at (i:=0) rfl)).mono ?_))
   rintro e wc ⟨rfl,hk9⟩;have H2:=H.out.lent hk9;clear hk9;try dsimp only
   refine hK.out _ _ ?_ (fun zH=>?_)
   ·exact ⟨H2.cellS (i:=1) rfl rfl,H2.cellS (i:=1) rfl rfl,H2.cellS (i:=1) rfl rfl,H2.cellS (i:=0) rfl HKS.out⟩
   replace zJ:=zH;clear hK K;replace H:=hid H2;clear H2;refine rKl 13 fun K hK=>?_
   go_simp;refine hK.out _ _ ?_;clear hK K;refine rKd ?_;go_wp2_with fail
   go_ret
   rw[← HRR.out];exact ⟨rfl,zac H.out⟩
  ·rw[if_neg (by omega)]at hlen ⊢;obtain ⟨R,hR⟩:∃ T:ByteArray,(⟨(zaC [a,wAt zaf (kk:Int),[],sAs,s]).toArray⟩:ByteArray)=T:=⟨_,rfl⟩;have HWD:Hid (∀ W g,Box W g [.string N,.string KS,.string ⟨#[]⟩,.string ⟨#[97,115]⟩,.string M]→Calls Tryz.prog 99 #[.slice (some ⟨g,0,none⟩) 5 5] W (fun e w'=>e=.returned (.string R)∧Kept (fun b=>b=g) W w')):=fun W g hb=>by
    have:=zdo [a,wAt zaf (kk:Int),[],sAs,s] g W (by show Box W g [strV a,strV (wAt zaf (kk:Int)),strV ([]),strV sAs,strV s];unfold strV;rw[hN,hKS,hM];exact hb) (by show 5≤1000000;decide) (by omega);unfold zex at this;rw[hR]at this;exact this
   have HRR:=hid hR;have q1:((kk:Int) == 2)=false:=by rw[beq_eq_false_iff_ne];exact k2
   have q2:((kk:Int) == 3)=false:=by rw[beq_eq_false_iff_ne];exact k3
   clear k2 k3;clear hE a0 a1 hlen hKS hN hM hNN hk hR;go_enter func101,ntmps101
   go_upto_region 7 with (first|(refine St.w_box (vs:=[.string N,.int .i64 (kk:Int),.int .i64 n,.string M]) H.out (by rfl) rfl rfl rfl ?_;intro wn X _ _ H2;replace H:=hid H2;clear H2)|(refine St.w_lit H.out (by rfl) rfl underlying48 iS2_ zz4 rfl rfl rfl (by decide) (by decide) (by decide) (all_k rfl) rfl ?_;intro wl Lb _ H2;replace H:=hid H2;clear H2)|(refine St.w_load1 (ty:=3) H.out (by rfl) rfl rfl 1 rfl rfl uInt_ ?_)|(refine St.w_load1 (ty:=3) H.out (by rfl) rfl rfl 0 rfl rfl uInt_ ?_)|(go_at_call 70;(with_reducible (refine (HNN.out _ (zac H.out)).mono ?_));rintro e wc ⟨rfl,hb9⟩;replace H:=hid (H.out.below hb9);clear hb9))
   refine zaa 13 (S:=fun W=>W.cell? ⟨X,0,none⟩=some (.string N)∧W.cell? ⟨X,1,none⟩=some (.int .i64 (kk:Int))∧W.cell? ⟨X,3,none⟩=some (.string M)∧W.cell? ⟨Lb,kk,none⟩=some (.string KS)) (by kernel_rfl) (by exact ⟨H.out.drew.cellS (i:=1) rfl rfl,H.out.drew.cellS (i:=1) rfl rfl,H.out.drew.cellS (i:=1) rfl rfl,H.out.drew.cellS (i:=0) rfl HKS.out⟩) (fun zJ=>?_);replace H:=hid H.out.drew;refine tKm 0 ?_;refine tKm 1 ?_;refine tKm 2 ?_;refine tKm 3 ?_;refine tKm 4 ?_;refine tKm 5 ?_;refine tKm 6 ?_;refine tKm 7 ?_;refine tKm 8 ?_;refine tKm 9 ?_;refine tKm 10 ?_;refine rK1 11 fun K hK=>?_
   rw[if_pos (by rfl)];refine H.out.o_lit rfl underlying48 iS2_ [.string N,.string KS,.string ⟨#[]⟩,.string ⟨#[97,115]⟩,.string M] rfl rfl rfl (by decide) (by decide) (by decide) (all_k rfl) rfl (fun wl Cl _ H2=>?_);refine hK.out _ _ ?_ (fun zH=>?_)
   ·exact ⟨H2.cellS (i:=2) rfl rfl,H2.cellS (i:=2) rfl rfl,H2.cellS (i:=2) rfl rfl,H2.cellS (i:=1) rfl HKS.out⟩
   replace zJ:=zH;clear hK K;replace H:=hid H2;clear H2;refine rK1 12 fun K hK=>?_
   go_simp;go_at_call 99
   (with_reducible (refine (HWD.out _ _ (H.out.at (i:=0) rfl)).mono ?_))
   rintro e wc ⟨rfl,hk9⟩;have H2:=H.out.lent hk9;clear hk9;try dsimp only
   refine hK.out _ _ ?_ (fun zH=>?_)
   ·exact ⟨H2.cellS (i:=1) rfl rfl,H2.cellS (i:=1) rfl rfl,H2.cellS (i:=1) rfl rfl,H2.cellS (i:=0) rfl HKS.out⟩
   replace zJ:=zH;clear hK K;replace H:=hid H2;clear H2;refine rKl 13 fun K hK=>?_
   go_simp;refine hK.out _ _ ?_;clear hK K;refine rKd ?_;go_wp2_with fail
   go_ret
   rw[← HRR.out];exact ⟨rfl,zac H.out⟩
 ·have e:inT ⟨a,K,n,s⟩=[]:=by unfold inT;rw[if_neg hk]
  rw[e,hN,hM];clear e hE a0 a1 hlen hN hM;rcases (by omega:K<1∨(¬ K<1∧6≤K)) with h1|⟨h1,h2⟩
  all_goals
   clear hk;go_enter func101,ntmps101
   go_wp2_with (first|(refine St.w_box (vs:=[.string N,.int .i64 K,.int .i64 n,.string M]) H.out (by rfl) rfl rfl rfl ?_;intro wn X _ _ H2;replace H:=hid H2;clear H2)|(refine St.w_lit H.out (by rfl) rfl underlying48 iS2_ zz4 rfl rfl rfl (by decide) (by decide) (by decide) (all_k rfl) rfl ?_;intro wl Lb _ H2;replace H:=hid H2;clear H2)|(refine St.w_load1 (ty:=3) H.out (by rfl) rfl rfl 1 rfl rfl uInt_ ?_)|(refine St.w_load1 (ty:=3) H.out (by rfl) rfl rfl 0 rfl rfl uInt_ ?_))
   go_ret
   exact ⟨rfl,zac H.out⟩
