/- Plain law of common texts: a row of operations of two names and a number, and a number turned round. -/
import Derived.Test.YtonkjhmkppeagaaGreatDoorCTxB
import Derived.Test.YtonkjhmkppeagaaGreatDoorCQy
set_option linter.unusedVariables false
namespace Go.Proofs.YtonkjhmkppeagaaGreatDoor.Pz
open Go.Proofs.Tryz
open Go Go.RowKit Lx
abbrev comK (n:Int):Ex:=zal ⟨1,n,[]⟩
abbrev comL (a:Str) (n:Int):Ex:=zag [45] (zaz a) (comK n)
abbrev comR (a b:Str):Ex:=zag [45] (zaz b) (zaz a)
abbrev comX (a b:Str) (n:Int):Ex:=zag [45] (comL a n) (comR a b)
abbrev comQ (a:Str) (n:Int):Pl:=.mk 2 [] [scanL a] (zat [45] (comK n)) [] [] [] [] [] 0
def comT (a b:Str) (n:Int):Str:=a++([32,45,32]++(Lib.itoa n++([32,45,32,40]++(b++([32,45,32]++(a++[41]))))))
def comN (n:Int):Str:=if 0<n then [45,40]++(Lib.itoa n++[41]) else 45::Lib.itoa n
theorem bin_parts {op:Str} {x y:Ex} (h:OkE (zag op x y)):OkE x∧OkE y:=by
 generalize hz:zag op x y=z at h
 cases h with
 | col n h=>cases hz
 | null=>cases hz
 | num n h0 h1=>cases hz
 | txt t h=>cases hz
 | not a h=>cases hz
 | neg a h=>cases hz
 | bin op' a b ho ha hb=>cases hz;exact ⟨ha,hb⟩
 | call n xs h h0 hx=>cases hz
theorem num_parts {n:Int} (h:OkE (comK n)):-9223372036854775807≤n:=by
 generalize hz:comK n=z at h
 cases h with
 | col n h=>cases hz
 | null=>cases hz
 | num m h0 h1=>cases hz;exact h0
 | txt t h=>cases hz
 | not a h=>cases hz
 | neg a h=>cases hz
 | bin op' a b ho ha hb=>cases hz
 | call n xs h h0 hx=>cases hz
theorem col_parts {n:Str} (h:OkE (zaz n)):zdg n:=by
 generalize hz:zaz n=z at h
 cases h with
 | col m h=>cases hz;exact h
 | null=>cases hz
 | num m h0 h1=>cases hz
 | txt t h=>cases hz
 | not a h=>cases hz
 | neg a h=>cases hz
 | bin op' a b ho ha hb=>cases hz
 | call n xs h h0 hx=>cases hz
theorem name16 {n:Str} (h:zdg n):n.length≤16:=by
 rcases h.1 with ⟨_,_,_,_,h4⟩|⟨h1,_⟩|⟨h1,_⟩|⟨h1,_⟩
 ·exact h4
 ·exact absurd h1 (by show ¬ (1:Int)=2;decide)
 ·exact absurd h1 (by show ¬ (1:Int)=3;decide)
 ·exact absurd h1 (by show ¬ (1:Int)=4;decide)
theorem col_read {a:Str} (h:zdg a):zbO a=(zaz a,a.length,0):=by
 have:=zje (.col a h) (by rw[zdU];omega) (by rw[zhK];have:=name16 h;omega);rw[zhK]at this;exact this
theorem col_name {a:Str} (h:(zbO a).2.2=0) (hx:(zbO a).1=zaz a):zdg a:=by
 have:=(zik h).1;rw[hx]at this;exact col_parts this
theorem rankOp_minus:zaH [45]=5:=by decide
theorem leftR_minus:leftR [45]=5:=by decide
theorem rank_colE (n:Str):rankE (zaz n)=8:=rfl
theorem rank_bin45 (x y:Ex):rankE (zag [45] x y)=5:=by
 have:rankE (zag [45] x y)=zaH [45]:=rfl;rw[this,rankOp_minus]
theorem rank_cmK (n:Int):rankE (comK n)=if n<0 then 7 else 8:=by
 unfold rankE;rw[if_neg (by show ¬ (2:Int)=4;decide),if_neg (by show ¬ (2:Int)=3;decide)];by_cases h:n<0
 ·rw[if_pos h,if_pos ⟨rfl,h⟩]
 ·rw[if_neg h,if_neg (fun e=>h e.2)]
theorem wi_col (k:Nat) (h:k≤8) (n:Str) (t:Str):wiT k (zaz n,t)=t:=by
 unfold wiT;rw[if_neg];show ¬ rankE (zaz n)<k;rw[rank_colE];omega
theorem wi_cmK (k:Nat) (h:k≤7) (n:Int) (t:Str):wiT k (comK n,t)=t:=by
 unfold wiT;rw[if_neg];show ¬ rankE (comK n)<k;rw[rank_cmK];split<;>omega
theorem text_cmK (n:Int):textE (comK n)=Lib.itoa n:=by rw[zcx,zhO]
theorem text_cmL (a:Str) (n:Int):textE (comL a n)=a++([32,45,32]++Lib.itoa n):=by
 rw[zhL,leftR_minus,rankOp_minus,wi_col 5 (by decide),wi_cmK 6 (by decide),zhK,text_cmK];rfl
theorem text_cmR (a b:Str):textE (comR a b)=b++([32,45,32]++a):=by
 rw[zhL,leftR_minus,rankOp_minus,wi_col 5 (by decide),wi_col 6 (by decide),zhK,zhK];rfl
theorem text_cmX (a b:Str) (n:Int):textE (comX a b n)=comT a b n:=by
 rw[zhL,leftR_minus,rankOp_minus];have h1:wiT 5 (comL a n,textE (comL a n))=textE (comL a n):=by unfold wiT;rw[if_neg];show ¬ rankE (comL a n)<5;rw[rank_bin45];decide
 have h2:wiT (5+1) (comR a b,textE (comR a b))=40::(textE (comR a b)++[41]):=by unfold wiT;rw[if_pos];show rankE (comR a b)<6;rw[rank_bin45];decide
 rw[h1,h2,text_cmL,text_cmR];unfold comT;simp[List.append_assoc]
theorem deep_cmX (a b:Str) (n:Int):deepE (comX a b n)≤3:=by
 have hw:∀ (k:Nat) (x:Ex),deepR k x≤deepE x+1:=fun k x=>by unfold deepR wiD;simp only;split<;>omega
 have hL:deepE (comL a n)≤1:=by
  rw[zeG];have h1:=hw (leftR [45]) (zaz a);have h2:=hw (zaH [45]+1) (comK n)
  rw[zdU]at h1;rw[zcD]at h2;omega
 have hR:deepE (comR a b)≤1:=by
  rw[zeG];have h1:=hw (leftR [45]) (zaz b);have h2:=hw (zaH [45]+1) (zaz a)
  rw[zdU]at h1;rw[zdU]at h2;omega
 rw[zeG];have h1:=hw (leftR [45]) (comL a n);have h2:=hw (zaH [45]+1) (comR a b)
 omega
theorem itoa_small {n:Int} (h0:-9223372036854775808≤n) (h1:n≤9223372036854775807):(Lib.itoa n).length≤21:=Lib.itoa_length_le n h0 h1
theorem cmT_len (a b:Str) {n:Int} (h0:-9223372036854775808≤n) (h1:n≤9223372036854775807):(comT a b n).length≤a.length+a.length+b.length+32:=by
 have:=itoa_small h0 h1;unfold comT;simp only[List.length_append,List.length_cons,List.length_nil];omega
def CmOk (a b:Str) (n:Int):Prop:=zdg a∧zdg b∧n≠-9223372036854775808
theorem cm_good {a b:Str} {n:Int} (h0:-9223372036854775808≤n) (h1:n≤9223372036854775807) (h:CmOk a b n):showE (comX a b n)=(comT a b n,0):=by
 obtain ⟨ha,hb,hn⟩:=h;have hr:=rankOp_minus;have ok:OkE (comX a b n):=.bin _ _ _ (by rw[hr];decide) (.bin _ _ _ (by rw[hr];decide) (.col a ha) (.num n (by omega) h1)) (.bin _ _ _ (by rw[hr];decide) (.col b hb) (.col a ha));have hl:=cmT_len a b h0 h1;have:=zje ok (by have:=deep_cmX a b n;omega) (by rw[text_cmX];have:=name16 ha;have:=name16 hb;omega);rw[zol this,text_cmX]
theorem cm_bad {a b:Str} {n:Int} (h:¬ CmOk a b n):showE (comX a b n)=([],20):=by
 unfold showE;rw[if_neg];rintro ⟨e,hx⟩;have ok:=(zik e).1;rw[hx]at ok;obtain ⟨o1,o2⟩:=bin_parts ok;obtain ⟨o3,o4⟩:=bin_parts o1;obtain ⟨o5,o6⟩:=bin_parts o2;have:=num_parts o4;exact h ⟨col_parts o3,col_parts o5,by omega⟩
theorem okQ_cm {a:Str} {n:Int} (h1:n≤9223372036854775807) (ha:zdg a) (hn:-9223372036854775807≤n):OkQ (comQ a n):=by
 refine .where_ _ _ (.scan a ha.1) ⟨.neg _ (.num n hn h1),?_⟩;rw[ziu,zcD];unfold miD wiD;simp only;split
 ·omega
 ·split<;>omega
theorem deepQ_cm (a:Str) (n:Int):deepQ (comQ a n)=0:=by unfold comQ;rw[zbg _ _ _ _ _ _ _ _ _ (by decide),zdt]
theorem textQ_cm (a:Str) (n:Int):textQ (comQ a n)=a++([32,124,32,119,104,101,114,101,32]++comN n):=by
 unfold comQ;rw[zbU _ _ _ _ _ _ _ _ _ (by decide),zdo];have h1:stepT (comQ a n) []=zav [zbp,textE (zat [45] (comK n))]:=rfl;have h2:textE (zat [45] (comK n))=comN n:=by
  rw[zhJ,text_cmK];unfold miT comN;by_cases h:0<n
  ·rw[if_pos h,if_pos (show posC (comK n) from ⟨rfl,rfl,h⟩)];rfl
  ·rw[if_neg h,if_neg (fun e=>h e.2.2),wi_cmK 7 (by decide)];rfl
 have h3:∃ r,comN n=45::r:=by
  unfold comN;split
  ·exact ⟨_,rfl⟩
  ·exact ⟨_,rfl⟩
 unfold comQ at h1;rw[h1,h2];obtain ⟨r,hr⟩:=h3;rw[hr];rfl
theorem cmN_len {n:Int} (h0:-9223372036854775808≤n) (h1:n≤9223372036854775807):(comN n).length≤24:=by
 have:=itoa_small h0 h1;unfold comN;split
 ·simp only[List.length_append,List.length_cons,List.length_nil];omega
 ·rw[List.length_cons];omega
end Go.Proofs.YtonkjhmkppeagaaGreatDoor.Pz
