/- Walks: bytes, runs of bytes, what stands between tokens, where a text between quotes ends. Walks: the token at a place. The plain law on tokens: those that are read, written down, are read again. No program in sight. Walks: the token at a place, a sign; all together. Walks: the tokens of a text. -/
import Derived.Test.YtonkjhmkppeagaaGreatDoorWLexA
import Derived.Deep.Cut
set_option maxHeartbeats 3200000
set_option linter.unusedVariables false
set_option linter.unusedSimpArgs false
namespace Go.Proofs.YtonkjhmkppeagaaGreatDoor.Lx
open Go.Proofs.Tryz
open Go.Lib (hid)
open Go.RowKit Go Ba Va
theorem zbn (c:UInt8) (w:World):Calls Tryz.prog 132 #[.int .u8 c.toNat] w fun e w'=>e=.returned (.bool (letB c))∧w=w':=by
 have hb:=zh5 c;by_cases h1:(97:Int)≤c.toNat
 ·by_cases h2:(c.toNat:Int)≤122
  ·have HB:Hid (letB c=true):=by show letB c=true;unfold letB;rw[yL];omega
   go_enter func132,ntmps132
   go_wp2_with fail
   go_ret
   exact ⟨zaT HB.out.symm,rfl⟩
  ·have HB:Hid (letB c=false):=by show letB c=false;unfold letB;rw[yK];omega
   go_enter func132,ntmps132
   go_wp2_with fail
   go_ret
   exact ⟨zaT HB.out.symm,rfl⟩
 ·have HB:Hid (letB c=false):=by show letB c=false;unfold letB;rw[yK];omega
  go_enter func132,ntmps132
  go_wp2_with fail
  go_ret
  exact ⟨zaT HB.out.symm,rfl⟩
theorem zb1 (c:UInt8) (w:World):Calls Tryz.prog 134 #[.int .u8 c.toNat] w fun e w'=>e=.returned (.bool (digB c))∧w=w':=by
 have hb:=zh5 c;by_cases h1:(48:Int)≤c.toNat
 ·by_cases h2:(c.toNat:Int)≤57
  ·have HB:Hid (digB c=true):=by show digB c=true;unfold digB;rw[yL];omega
   go_enter func134,ntmps134
   go_wp2_with fail
   go_ret
   exact ⟨zaT HB.out.symm,rfl⟩
  ·have HB:Hid (digB c=false):=by show digB c=false;unfold digB;rw[yK];omega
   go_enter func134,ntmps134
   go_wp2_with fail
   go_ret
   exact ⟨zaT HB.out.symm,rfl⟩
 ·have HB:Hid (digB c=false):=by show digB c=false;unfold digB;rw[yK];omega
  go_enter func134,ntmps134
  go_wp2_with fail
  go_ret
  exact ⟨zaT HB.out.symm,rfl⟩
theorem zqN (c:UInt8) (w:World):Calls Tryz.prog 131 #[.int .u8 c.toNat] w fun e w'=>e=.returned (.bool (notNl c))∧w=w':=by
 by_cases h:c=10
 ·subst h;go_enter func131,ntmps131
  go_wp2_with fail
  go_ret
  exact ⟨rfl,rfl⟩
 ·have h1:((c.toNat:Int) != 10)=true:=by
   simp only[bne_iff_ne,ne_eq];exact fun e=>h (zev (by rw[e];rfl))
  have h2:((c.toNat:Int) == 10)=false:=by
   rw[yT];exact fun e=>h (zev (by rw[e];rfl))
  have HB:Hid (notNl c=true):=by show notNl c=true;unfold notNl;rw[yL];exact h
  clear h;go_enter func131,ntmps131
  go_wp2_with fail
  go_ret
  exact ⟨zaT HB.out.symm,rfl⟩
theorem zd3 (c:UInt8) (w:World):Calls Tryz.prog 133 #[.int .u8 c.toNat] w fun e w'=>e=.returned (.bool (wordB c))∧w=w':=by
 have HW:Hid (wordB c=(letB c || digB c || decide (c=95))):=rfl;have hl:=zbn c;have hd:=zb1 c
 cases h1:letB c
 ·rw[h1]at hl HW
  cases h2:digB c
  ·rw[h2]at hd HW;by_cases h3:c=95
   ·subst h3;clear h1 h2;have HL:=hid hl;have HD:=hid hd;clear hl hd;go_enter func133,ntmps133
    go_wp2_with (first|(go_at_call 132;refine (HL.out _).mono ?_;rintro e w' ⟨rfl,rfl⟩)|(go_at_call 134;refine (HD.out _).mono ?_;rintro e w' ⟨rfl,rfl⟩))
    go_ret
    exact ⟨zaT HW.out.symm,rfl⟩
   ·have h4:((c.toNat:Int) == 95)=false:=by
     rw[yT];exact fun e=>h3 (zev (by rw[e];rfl))
    rw[yN h3]at HW;clear h1 h2 h3;have HL:=hid hl;have HD:=hid hd;clear hl hd;go_enter func133,ntmps133
    go_wp2_with (first|(go_at_call 132;refine (HL.out _).mono ?_;rintro e w' ⟨rfl,rfl⟩)|(go_at_call 134;refine (HD.out _).mono ?_;rintro e w' ⟨rfl,rfl⟩))
    go_ret
    exact ⟨zaT HW.out.symm,rfl⟩
  ·rw[h2]at hd HW;clear h1 h2;have HL:=hid hl;have HD:=hid hd;clear hl hd;go_enter func133,ntmps133
   go_wp2_with (first|(go_at_call 132;refine (HL.out _).mono ?_;rintro e w' ⟨rfl,rfl⟩)|(go_at_call 134;refine (HD.out _).mono ?_;rintro e w' ⟨rfl,rfl⟩))
   go_ret
   exact ⟨zaT HW.out.symm,rfl⟩
 ·rw[h1]at hl HW;clear h1 hd;have HL:=hid hl;clear hl;go_enter func133,ntmps133
  go_wp2_with (first|(go_at_call 132;refine (HL.out _).mono ?_;rintro e w' ⟨rfl,rfl⟩))
  go_ret
  exact ⟨zaT HW.out.symm,rfl⟩
theorem zcA (l:List UInt8) (k:Nat) (b:UInt8) (h:l[k]?=some b):l.drop k=b::l.drop (k+1):=by
 obtain ⟨hk,he⟩:=yE.1 h;rw[List.drop_eq_getElem_cons hk,he]
theorem zjw {f:UInt8→Bool} {l:List UInt8} {k:Nat} {b:UInt8} {a:Nat} (h:l[k]?=some b) (hf:f b=true) (e:a=k+runN f (l.drop k)):a=k+1+runN f (l.drop (k+1)):=by
 rw[e,zcA l k b h,za8,if_pos hf];omega
theorem zmL {f:UInt8→Bool} {l:List UInt8} {k:Nat} {b:UInt8} {a:Nat} (h:l[k]?=some b) (hf:f b=false) (e:a=k+runN f (l.drop k)):a=k:=by
 rw[e,zcA l k b h,za8,if_neg (by rw[hf];decide)];omega
theorem zjx {f:UInt8→Bool} {l:List UInt8} {k:Nat} {a:Nat} (h:l.length≤k) (e:a=k+runN f (l.drop k)):a=k:=by
 rw[e,List.drop_eq_nil_of_le h];rfl
theorem zgO (f:UInt8→Bool) (l:List UInt8) (k:Nat) (h:k≤l.length):k+runN f (l.drop k)≤l.length:=by
 have:=zcZ f (l.drop k);rw[List.length_drop]at this;omega
theorem ztb (s:ByteArray) (a:Nat) (w:World) (ha:a≤s.size) (hs:s.size≤1000000) :
 Calls Tryz.prog 130 #[.string s,.int .i64 a,.func (.func 131) #[] #[]] w fun e w'=>e=.returned (.int .i64 ((a+runN notNl (s.data.toList.drop a):Nat):Int))∧w=w':=by
 obtain ⟨R,hR⟩:∃ R,a+runN notNl (s.data.toList.drop a)=R:=⟨_,rfl⟩;rw[hR];have HR:=hid hR.symm;clear hR;go_enter func130,ntmps130
 go_wp2_with fail
 go_loop [1] (fun i=>∃ k:Nat,k≤s.size∧i=.int .i64 k∧Hid (R=k+runN notNl (s.data.toList.drop k))) (fun i=>s.size-(intOf i).toNat)
 case atStart=>exact ⟨a,ha,rfl,HR⟩
 case round =>
  clear HR;obtain ⟨k,hk,rfl,HR⟩:=hrel;by_cases hlt:k<s.size
  ·obtain ⟨b,hbk⟩:=bat s k hlt;have hat:=str_at hlt hbk
   cases hf:notNl b
   ·have HE:=hid (zmL hbk hf HR.out);have HC:=hid (fun W=>by have:=zqN b W;rw[hf]at this;exact this);clear hbk hf HR;go_wp2_with (go_at_call 131;refine (HC.out _).mono ?_;rintro e w' ⟨rfl,rfl⟩)
    go_ret
    exact ⟨by rw[HE.out];rfl,rfl⟩
   ·have HE:=hid (zjw hbk hf HR.out);have HC:=hid (fun W=>by have:=zqN b W;rw[hf]at this;exact this);clear hbk hf HR;go_wp2_with (go_at_call 131;refine (HC.out _).mono ?_;rintro e w' ⟨rfl,rfl⟩)
    go_round
    case rel=>exact ⟨k+1,by omega,by go_num,HE⟩
    case measure=>simp[intOf];omega
  ·have HE:=hid (zjx (by rw[← zau];omega) HR.out);clear HR;go_wp2_with fail
   go_ret
   exact ⟨by rw[HE.out];rfl,rfl⟩
theorem zkt (s:ByteArray) (a:Nat) (w:World) (ha:a≤s.size) (hs:s.size≤1000000) :
 Calls Tryz.prog 130 #[.string s,.int .i64 a,.func (.func 133) #[] #[]] w fun e w'=>e=.returned (.int .i64 ((a+runN wordB (s.data.toList.drop a):Nat):Int))∧w=w':=by
 obtain ⟨R,hR⟩:∃ R,a+runN wordB (s.data.toList.drop a)=R:=⟨_,rfl⟩;rw[hR];have HR:=hid hR.symm;clear hR;go_enter func130,ntmps130
 go_wp2_with fail
 go_loop [1] (fun i=>∃ k:Nat,k≤s.size∧i=.int .i64 k∧Hid (R=k+runN wordB (s.data.toList.drop k))) (fun i=>s.size-(intOf i).toNat)
 case atStart=>exact ⟨a,ha,rfl,HR⟩
 case round =>
  clear HR;obtain ⟨k,hk,rfl,HR⟩:=hrel;by_cases hlt:k<s.size
  ·obtain ⟨b,hbk⟩:=bat s k hlt;have hat:=str_at hlt hbk
   cases hf:wordB b
   ·have HE:=hid (zmL hbk hf HR.out);have HC:=hid (fun W=>by have:=zd3 b W;rw[hf]at this;exact this);clear hbk hf HR;go_wp2_with (go_at_call 133;refine (HC.out _).mono ?_;rintro e w' ⟨rfl,rfl⟩)
    go_ret
    exact ⟨by rw[HE.out];rfl,rfl⟩
   ·have HE:=hid (zjw hbk hf HR.out);have HC:=hid (fun W=>by have:=zd3 b W;rw[hf]at this;exact this);clear hbk hf HR;go_wp2_with (go_at_call 133;refine (HC.out _).mono ?_;rintro e w' ⟨rfl,rfl⟩)
    go_round
    case rel=>exact ⟨k+1,by omega,by go_num,HE⟩
    case measure=>simp[intOf];omega
  ·have HE:=hid (zjx (by rw[← zau];omega) HR.out);clear HR;go_wp2_with fail
   go_ret
   exact ⟨by rw[HE.out];rfl,rfl⟩
theorem zjy (s:ByteArray) (a:Nat) (w:World) (ha:a≤s.size) (hs:s.size≤1000000) :
 Calls Tryz.prog 130 #[.string s,.int .i64 a,.func (.func 134) #[] #[]] w fun e w'=>e=.returned (.int .i64 ((a+runN digB (s.data.toList.drop a):Nat):Int))∧w=w':=by
 obtain ⟨R,hR⟩:∃ R,a+runN digB (s.data.toList.drop a)=R:=⟨_,rfl⟩;rw[hR];have HR:=hid hR.symm;clear hR;go_enter func130,ntmps130
 go_wp2_with fail
 go_loop [1] (fun i=>∃ k:Nat,k≤s.size∧i=.int .i64 k∧Hid (R=k+runN digB (s.data.toList.drop k))) (fun i=>s.size-(intOf i).toNat)
 case atStart=>exact ⟨a,ha,rfl,HR⟩
 case round =>
  clear HR;obtain ⟨k,hk,rfl,HR⟩:=hrel;by_cases hlt:k<s.size
  ·obtain ⟨b,hbk⟩:=bat s k hlt;have hat:=str_at hlt hbk
   cases hf:digB b
   ·have HE:=hid (zmL hbk hf HR.out);have HC:=hid (fun W=>by have:=zb1 b W;rw[hf]at this;exact this);clear hbk hf HR;go_wp2_with (go_at_call 134;refine (HC.out _).mono ?_;rintro e w' ⟨rfl,rfl⟩)
    go_ret
    exact ⟨by rw[HE.out];rfl,rfl⟩
   ·have HE:=hid (zjw hbk hf HR.out);have HC:=hid (fun W=>by have:=zb1 b W;rw[hf]at this;exact this);clear hbk hf HR;go_wp2_with (go_at_call 134;refine (HC.out _).mono ?_;rintro e w' ⟨rfl,rfl⟩)
    go_round
    case rel=>exact ⟨k+1,by omega,by go_num,HE⟩
    case measure=>simp[intOf];omega
  ·have HE:=hid (zjx (by rw[← zau];omega) HR.out);clear HR;go_wp2_with fail
   go_ret
   exact ⟨by rw[HE.out];rfl,rfl⟩
theorem zsd {l:List UInt8} {k:Nat} {b:UInt8} {a:Nat} (h:l[k]?=some b) (hf:wsB b=true) (e:a=k+gapN (l.drop k)):a=k+1+gapN (l.drop (k+1)):=by
 rw[e,zcA l k b h,zqR hf];omega
theorem zqc {l:List UInt8} {k:Nat} {a:Nat} (h:l[k]?=some 35) (e:a=k+gapN (l.drop k)):a=k+runN notNl (l.drop k)+gapN (l.drop (k+runN notNl (l.drop k))):=by
 rw[e,zcA l k 35 h,zn8,za8,if_pos (by decide),List.drop_drop];rw[show k+1+runN notNl (l.drop (k+1))=k+(runN notNl (l.drop (k+1))+1) by omega];omega
theorem zqb {l:List UInt8} {k:Nat} {b:UInt8} {a:Nat} (h:l[k]?=some b) (hf:tokB b=true) (e:a=k+gapN (l.drop k)):a=k:=by
 rw[e,zcA l k b h,zn7 hf];omega
theorem zse {l:List UInt8} {k:Nat} {a:Nat} (h:l.length≤k) (e:a=k+gapN (l.drop k)):a=k:=by
 rw[e,List.drop_eq_nil_of_le h,zjZ];omega
theorem zcE {b:UInt8} {n:Nat} (hn:n<256) (h:b≠UInt8.ofNat n):((b.toNat:Int) == (n:Int))=false:=by
 rw[yT];intro e;refine h (UInt8.toNat_inj.1 ?_);rw[UInt8.toNat_ofNat'];omega
theorem zsJ {b:UInt8} (h:tokB b=true):((b.toNat:Int) == 32)=false∧((b.toNat:Int) == 9)=false∧((b.toNat:Int) == 10)=false∧((b.toNat:Int) == 35)=false:=by
 unfold tokB wsB at h;simp only[Bool.and_eq_true,Bool.not_eq_true',yL,yK]at h;exact ⟨zcE (n:=32) (by decide) (fun e=>h.1 (.inl e)),zcE (n:=9) (by decide) (fun e=>h.1 (.inr (.inl e))),zcE (n:=10) (by decide) (fun e=>h.1 (.inr (.inr e))),zcE (n:=35) (by decide) h.2⟩
theorem zrA {l:List UInt8} {k:Nat} (h:l[k]?=some 35):1≤runN notNl (l.drop k):=by
 rw[zcA l k 35 h,za8,if_pos (by decide)];omega
theorem zn9 (s:ByteArray) (a:Nat) (w:World) (ha:a≤s.size) (hs:s.size≤1000000) :
 Calls Tryz.prog 102 #[.string s,.int .i64 a] w fun e w'=>e=.returned (.int .i64 ((a+gapN (s.data.toList.drop a):Nat):Int))∧w=w':=by
 obtain ⟨R,hR⟩:∃ R,a+gapN (s.data.toList.drop a)=R:=⟨_,rfl⟩;rw[hR];have HR:=hid hR.symm;clear hR;go_enter func102,ntmps102
 go_wp2_with fail
 go_loop [1] (fun i=>∃ k:Nat,k≤s.size∧i=.int .i64 k∧Hid (R=k+gapN (s.data.toList.drop k))) (fun i=>s.size-(intOf i).toNat)
 case atStart=>exact ⟨a,ha,rfl,HR⟩
 case round =>
  clear HR;obtain ⟨k,hk,rfl,HR⟩:=hrel;by_cases hlt:k<s.size
  ·obtain ⟨b,hbk⟩:=bat s k hlt;have hat:=str_at hlt hbk;rcases zdz b with hw|rfl|ht
   ·have HE:=hid (zsd hbk hw HR.out);have hw':b=32∨b=9∨b=10:=by unfold wsB at hw;exact of_decide_eq_true hw
    clear hbk hw HR;rcases hw' with rfl|rfl|rfl
    all_goals
     go_wp2_with fail
     go_round
     case rel=>exact ⟨k+1,by omega,by go_num,HE⟩
     case measure=>simp[intOf];omega
   ·have HE:=hid (zqc hbk HR.out);have hbd:=zgO notNl s.data.toList k (by rw[← zau];omega);rw[← zau]at hbd;have hp:=zrA hbk;have HC:=hid (fun W=>ztb s k W (by omega) hs);obtain ⟨m,hm⟩:∃ m,k+runN notNl (s.data.toList.drop k)=m:=⟨_,rfl⟩;have hkm:k<m:=by omega
    rw[hm]at HE hbd HC;clear hbk hm hp HR;go_wp2_with (go_at_call 130;refine (HC.out _).mono ?_;rintro e w' ⟨rfl,rfl⟩)
    go_round
    case rel=>exact ⟨m,by omega,rfl,HE⟩
    case measure=>simp[intOf];omega
   ·have HE:=hid (zqb hbk ht HR.out);obtain ⟨t1,t2,t3,t4⟩:=zsJ ht;clear hbk ht HR;go_wp2_with fail
    go_ret
    exact ⟨by rw[HE.out];rfl,rfl⟩
  ·have HE:=hid (zse (by rw[← zau];omega) HR.out);clear HR;go_wp2_with fail
   go_ret
   exact ⟨by rw[HE.out];rfl,rfl⟩
def resQ (k:Nat) (o:Option Nat):Int:=match o with|some n=>((k+n:Nat):Int)|none=>-1
theorem zpm {l:List UInt8} {k:Nat} (h:l[k]?=some 92):resQ k (scanQ (l.drop k))=resQ (k+2) (scanQ (l.drop (k+2))):=by
 rw[zcA l k 92 h,zcv,if_pos rfl,show l.drop (k+2)=(l.drop (k+1)).drop 1 by rw[List.drop_drop]]
 cases l.drop (k+1) with
 | nil=>show resQ k none=resQ (k+2) (scanQ []);rw[zeG];rfl
 | cons c r =>
  simp only[List.drop_succ_cons,List.drop_zero]
  cases scanQ r with
  | none=>rfl
  | some n=>show ((k+(n+2):Nat):Int)=((k+2+n:Nat):Int);omega
theorem zln {l:List UInt8} {k:Nat} (h:l[k]?=some 34):resQ k (scanQ (l.drop k))=((k+1:Nat):Int):=by
 rw[zcA l k 34 h,zcv,if_neg (by decide),if_pos rfl];rfl
theorem zmF {l:List UInt8} {k:Nat} {b:UInt8} (h:l[k]?=some b) (h1:b≠92) (h2:b≠34):resQ k (scanQ (l.drop k))=resQ (k+1) (scanQ (l.drop (k+1))):=by
 rw[zcA l k b h,zcv,if_neg h1,if_neg h2]
 cases scanQ (l.drop (k+1)) with
 | none=>rfl
 | some n=>show ((k+(n+1):Nat):Int)=((k+1+n:Nat):Int);omega
theorem zpl {l:List UInt8} {k:Nat} (h:l.length≤k):resQ k (scanQ (l.drop k))=-1:=by
 rw[List.drop_eq_nil_of_le h,zeG];rfl
theorem ze8 (s:ByteArray) (a:Nat) (w:World) (ha:a<s.size) (hs:s.size≤1000000) :
 Calls Tryz.prog 136 #[.string s,.int .i64 a] w fun e w'=>e=.returned (.int .i64 (resQ (a+1) (scanQ (s.data.toList.drop (a+1)))))∧w=w':=by
 obtain ⟨R,hR⟩:∃ R,resQ (a+1) (scanQ (s.data.toList.drop (a+1)))=R:=⟨_,rfl⟩;rw[hR];have HR:=hid hR;clear hR;go_enter func136,ntmps136
 go_wp2_with fail
 go_loop [5] (fun i=>∃ k:Nat,k≤s.size+1∧i=.int .i64 k∧Hid (resQ k (scanQ (s.data.toList.drop k))=R)) (fun i=>s.size+1-(intOf i).toNat)
 case atStart=>exact ⟨a+1,by omega,by go_num,HR⟩
 case round =>
  clear HR;obtain ⟨k,hk,rfl,HR⟩:=hrel;by_cases hlt:k<s.size
  ·obtain ⟨b,hbk⟩:=bat s k hlt;have hat:=str_at hlt hbk;by_cases h1:b=92
   ·subst h1;have HE:=hid ((zpm hbk).symm.trans HR.out);clear hbk HR;go_wp2_with fail
    go_round
    case rel=>exact ⟨k+2,by omega,by go_num,HE⟩
    case measure=>simp[intOf];omega
   by_cases h2:b=34
   ·subst h2;have HE:=hid ((zln hbk).symm.trans HR.out);clear hbk HR h1;go_wp2_with fail
    go_ret
    exact ⟨by rw[← HE.out];rfl,rfl⟩
   ·have HE:=hid ((zmF hbk h1 h2).symm.trans HR.out);have t1:=zcE (n:=92) (by decide) h1;have t2:=zcE (n:=34) (by decide) h2;clear hbk HR h1 h2;go_wp2_with fail
    go_round
    case rel=>exact ⟨k+1,by omega,by go_num,HE⟩
    case measure=>simp[intOf];omega
  ·have HE:=hid ((zpl (by rw[← zau];omega)).symm.trans HR.out);clear HR;go_wp2_with fail
   go_ret
   exact ⟨by rw[← HE.out];rfl,rfl⟩
def sgL:List (List UInt8):=[[33,61],[60,61],[62,61],[46,46],[40],[41],[44],[59],[58],[124],[43],[45],[42],[47],[37],[61],[60],[62]]
theorem hp0 (x:List UInt8) (y:UInt8) (z:List UInt8):Lib.hasPrefix [] (y::z)=false:=rfl
theorem hp1 (a x:UInt8) (r:List UInt8):Lib.hasPrefix (a::r) [x]=(x == a):=by simp[Lib.hasPrefix,List.isPrefixOf]
theorem hp2 (a b x y:UInt8) (r:List UInt8):Lib.hasPrefix (a::b::r) [x,y]=(x == a && y == b):=by simp[Lib.hasPrefix,List.isPrefixOf]
theorem hp3 (a x y:UInt8):Lib.hasPrefix [a] [x,y]=false:=by simp[Lib.hasPrefix,List.isPrefixOf]
theorem zbc {x a:UInt8} (h:¬ a=x):(x == a)=false:=by rw[yT];exact fun e=>h e.symm
theorem zqH (a:UInt8):signN [a]=if a∈zco then 1 else 0:=rfl
theorem zmD (a b:UInt8) (r:List UInt8):signN (a::b::r)=if zcX a b=true then 2 else if a∈zco then 1 else 0:=rfl
theorem zoe (a:UInt8):sgL.find? (fun x=>Lib.hasPrefix [a] x)=if signN [a]=0 then none else some ([a].take (signN [a])):=by
 unfold sgL;simp only[List.find?_cons,List.find?_nil,hp1,hp3];by_cases h:a∈zco
 ·have hm:=h;unfold zco at hm;simp only[List.mem_cons,List.not_mem_nil,or_false]at hm;rcases hm with rfl|rfl|rfl|rfl|rfl|rfl|rfl|rfl|rfl|rfl|rfl|rfl|rfl|rfl<;>decide
 ·have hs:signN [a]=0:=by rw[zqH,if_neg h]
  rw[if_pos hs];unfold zco at h;simp only[List.mem_cons,List.not_mem_nil,or_false,not_or]at h;obtain ⟨h1,h2,h3,h4,h5,h6,h7,h8,h9,h10,h11,h12,h13,h14⟩:=h;simp only[zbc h1,zbc h2,zbc h3,zbc h4,zbc h5,zbc h6,zbc h7,zbc h8,zbc h9,zbc h10,zbc h11,zbc h12,zbc h13,zbc h14]
theorem zod (a b:UInt8) (r:List UInt8):sgL.find? (fun x=>Lib.hasPrefix (a::b::r) x)=if signN (a::b::r)=0 then none else some ((a::b::r).take (signN (a::b::r))):=by
 unfold sgL;simp only[List.find?_cons,List.find?_nil,hp1,hp2];by_cases h2:zcX a b=true
 ·have hs:signN (a::b::r)=2:=by rw[zmD,if_pos h2]
  rw[hs,if_neg (by decide)];unfold zcX at h2;simp only[yL]at h2;rcases h2 with ⟨rfl,rfl⟩|⟨rfl,rfl⟩|⟨rfl,rfl⟩|⟨rfl,rfl⟩<;>rfl
 ·have hs:signN (a::b::r)=if a∈zco then 1 else 0:=by rw[zmD,if_neg h2]
  rw[hs];unfold zcX at h2;simp only[yL,not_or,not_and]at h2;obtain ⟨n1,n2,n3,n4⟩:=h2;have m1:((33:UInt8) == a && (61:UInt8) == b)=false:=by
   by_cases e:a=33
   ·rw[zbc (n1 e),Bool.and_false]
   ·rw[zbc e,Bool.false_and]
  have m2:((60:UInt8) == a && (61:UInt8) == b)=false:=by
   by_cases e:a=60
   ·rw[zbc (n2 e),Bool.and_false]
   ·rw[zbc e,Bool.false_and]
  have m3:((62:UInt8) == a && (61:UInt8) == b)=false:=by
   by_cases e:a=62
   ·rw[zbc (n3 e),Bool.and_false]
   ·rw[zbc e,Bool.false_and]
  have m4:((46:UInt8) == a && (46:UInt8) == b)=false:=by
   by_cases e:a=46
   ·rw[zbc (n4 e),Bool.and_false]
   ·rw[zbc e,Bool.false_and]
  simp only[m1,m2,m3,m4];by_cases h:a∈zco
  ·rw[if_pos h];have hm:=h;unfold zco at hm;simp only[List.mem_cons,List.not_mem_nil,or_false]at hm;clear n1 n2 n3 n4 m1 m2 m3 m4 hs h;rcases hm with rfl|rfl|rfl|rfl|rfl|rfl|rfl|rfl|rfl|rfl|rfl|rfl|rfl|rfl<;>rfl
  ·rw[if_neg h];unfold zco at h;simp only[List.mem_cons,List.not_mem_nil,or_false,not_or]at h;obtain ⟨h1,h2,h3,h4,h5,h6,h7,h8,h9,h10,h11,h12,h13,h14⟩:=h;simp only[zbc h1,zbc h2,zbc h3,zbc h4,zbc h5,zbc h6,zbc h7,zbc h8,zbc h9,zbc h10,zbc h11,zbc h12,zbc h13,zbc h14];rfl
theorem zhc (l:List UInt8) (h:l≠[]):sgL.find? (fun x=>Lib.hasPrefix l x)=if signN l=0 then none else some (l.take (signN l)):=by
 match l,h with
 | [a],_=>exact zoe a
 | a::b::r,_=>exact zod a b r
theorem zpe (l:List UInt8):signN l≤l.length∧signN l≤2:=by
 match l with
 | []=>exact ⟨yG _,by decide⟩
 | [a]=>rw[zqH];split<;>simp
 | a::b::r =>
  rw[zmD];split
  ·simp
  ·split<;>simp
def sgB (k:Nat):ByteArray:=⟨(sgL.getD k []).toArray⟩
theorem zkq (k:Nat):(sgB k).data.toList=sgL.getD k []:=rfl
theorem sgAt0 (w:World):(Instr.index 189 (.agg zz0) (.int .i64 0)).run Tryz.prog w=.ok (.string ⟨#[33,61]⟩) w:=by kernel_rfl
theorem sgAt1 (w:World):(Instr.index 189 (.agg zz0) (.int .i64 1)).run Tryz.prog w=.ok (.string ⟨#[60,61]⟩) w:=by kernel_rfl
theorem sgAt2 (w:World):(Instr.index 189 (.agg zz0) (.int .i64 2)).run Tryz.prog w=.ok (.string ⟨#[62,61]⟩) w:=by kernel_rfl
theorem sgAt3 (w:World):(Instr.index 189 (.agg zz0) (.int .i64 3)).run Tryz.prog w=.ok (.string ⟨#[46,46]⟩) w:=by kernel_rfl
theorem sgAt4 (w:World):(Instr.index 189 (.agg zz0) (.int .i64 4)).run Tryz.prog w=.ok (.string ⟨#[40]⟩) w:=by kernel_rfl
theorem sgAt5 (w:World):(Instr.index 189 (.agg zz0) (.int .i64 5)).run Tryz.prog w=.ok (.string ⟨#[41]⟩) w:=by kernel_rfl
theorem sgAt6 (w:World):(Instr.index 189 (.agg zz0) (.int .i64 6)).run Tryz.prog w=.ok (.string ⟨#[44]⟩) w:=by kernel_rfl
theorem sgAt7 (w:World):(Instr.index 189 (.agg zz0) (.int .i64 7)).run Tryz.prog w=.ok (.string ⟨#[59]⟩) w:=by kernel_rfl
theorem sgAt8 (w:World):(Instr.index 189 (.agg zz0) (.int .i64 8)).run Tryz.prog w=.ok (.string ⟨#[58]⟩) w:=by kernel_rfl
theorem sgAt9 (w:World):(Instr.index 189 (.agg zz0) (.int .i64 9)).run Tryz.prog w=.ok (.string ⟨#[124]⟩) w:=by kernel_rfl
theorem zs5 (w:World):(Instr.index 189 (.agg zz0) (.int .i64 10)).run Tryz.prog w=.ok (.string ⟨#[43]⟩) w:=by kernel_rfl
theorem zs4 (w:World):(Instr.index 189 (.agg zz0) (.int .i64 11)).run Tryz.prog w=.ok (.string ⟨#[45]⟩) w:=by kernel_rfl
theorem zs3 (w:World):(Instr.index 189 (.agg zz0) (.int .i64 12)).run Tryz.prog w=.ok (.string ⟨#[42]⟩) w:=by kernel_rfl
theorem zs2 (w:World):(Instr.index 189 (.agg zz0) (.int .i64 13)).run Tryz.prog w=.ok (.string ⟨#[47]⟩) w:=by kernel_rfl
theorem zs1 (w:World):(Instr.index 189 (.agg zz0) (.int .i64 14)).run Tryz.prog w=.ok (.string ⟨#[37]⟩) w:=by kernel_rfl
theorem zs0 (w:World):(Instr.index 189 (.agg zz0) (.int .i64 15)).run Tryz.prog w=.ok (.string ⟨#[61]⟩) w:=by kernel_rfl
theorem zsZ (w:World):(Instr.index 189 (.agg zz0) (.int .i64 16)).run Tryz.prog w=.ok (.string ⟨#[60]⟩) w:=by kernel_rfl
theorem zsY (w:World):(Instr.index 189 (.agg zz0) (.int .i64 17)).run Tryz.prog w=.ok (.string ⟨#[62]⟩) w:=by kernel_rfl
theorem sgAt (k:Nat) (hk:k<18) (w:World):(Instr.index 189 (.agg zz0) (.int .i64 (k:Int))).run Tryz.prog w=.ok (.string (sgB k)) w:=by
 match k,hk with
 | 0,_=>exact sgAt0 w
 | 1,_=>exact sgAt1 w
 | 2,_=>exact sgAt2 w
 | 3,_=>exact sgAt3 w
 | 4,_=>exact sgAt4 w
 | 5,_=>exact sgAt5 w
 | 6,_=>exact sgAt6 w
 | 7,_=>exact sgAt7 w
 | 8,_=>exact sgAt8 w
 | 9,_=>exact sgAt9 w
 | 10,_=>exact zs5 w
 | 11,_=>exact zs4 w
 | 12,_=>exact zs3 w
 | 13,_=>exact zs2 w
 | 14,_=>exact zs1 w
 | 15,_=>exact zs0 w
 | 16,_=>exact zsZ w
 | 17,_=>exact zsY w
 | n+18,h=>exact absurd h (by omega)
structure EnvL (w:World):Prop where
 pow:Va.Env w
 err:Errs w
 sg:∀ j,j<18→w.cell? ⟨1,j,none⟩=some (.string (sgB j))
theorem EnvL.below {w w':World} (h:EnvL w) (hb:Below w.heap.size w w'):EnvL w' :=
 ⟨Va.Env.below h.pow hb,h.err.below hb,fun j hj=>(hb.cell (by exact zb3 (h.sg j hj))).trans (h.sg j hj)⟩
def nextV (a:Nat) (r:TokR):Value:=match r with
 | .ok k t n m=>.tuple #[.agg #[.int .i64 k,.string ⟨t.toArray⟩,.int .i64 n,.int .i64 (a:Int)],.int .i64 ((a+m:Nat):Int),.int .i64 0]
 | .err e=>.tuple #[.agg #[.int .i64 0,.string ⟨#[]⟩,.int .i64 0,.int .i64 (a:Int)],.int .i64 0,.int .i64 e]
theorem four {W:World} {B:Nat} {a b c d:Value} (h:Box W B [a,b,c,d]):W.cell? ⟨B,0,none⟩=some a∧W.cell? ⟨B,1,none⟩=some b∧W.cell? ⟨B,2,none⟩=some c∧W.cell? ⟨B,3,none⟩=some d∧W.frozen? ⟨B,0,none⟩=false∧W.frozen? ⟨B,1,none⟩=false∧W.frozen? ⟨B,2,none⟩=false∧W.frozen? ⟨B,3,none⟩=false :=
 ⟨h.cl 0 _ rfl,h.cl 1 _ rfl,h.cl 2 _ rfl,h.cl 3 _ rfl,h.fr 0 (by simp),h.fr 1 (by simp),h.fr 2 (by simp),h.fr 3 (by simp)⟩
theorem zen (s:ByteArray) (a n:Nat):s.extract a (a+n)=⟨((s.data.toList.drop a).take n).toArray⟩:=by
 refine zfY ?_;rw[Lib.extract_data];congr 2
 omega
theorem put4 {W:World} {B:Nat} {a b c d:Value} (h:Box W B [a,b,c,d]) (a' b' c' d':Value) :
 Box ((((W.setCell ⟨B,0,none⟩ a').setCell ⟨B,1,none⟩ b').setCell ⟨B,2,none⟩ c').setCell ⟨B,3,none⟩ d') B [a',b',c',d']:=((((h.put 0 a').put 1 b').put 2 c').put 3 d')
theorem bput4 {W w:World} {B C:Nat} (h:Below B w W) (hC:B≤C) (a' b' c' d':Value) :
 Below B w ((((W.setCell ⟨C,0,none⟩ a').setCell ⟨C,1,none⟩ b').setCell ⟨C,2,none⟩ c').setCell ⟨C,3,none⟩ d') :=
 (((h.setCell hC _).setCell hC _).setCell hC _).setCell hC _
theorem bput2 {W w:World} {B C:Nat} (h:Below B w W) (hC:B≤C) (i j:Nat) (a' b':Value) :
 Below B w ((W.setCell ⟨C,i,none⟩ a').setCell ⟨C,j,none⟩ b') :=
 (h.setCell hC _).setCell hC _
theorem znf (s:ByteArray) (a:Nat) (c:UInt8) (w:World) (ha:a<s.size) (hs:s.size≤20000) (hc:s.data.toList[a]?=some c) (h1:letB c=true) (h3:runN wordB (s.data.toList.drop a)≤16) :
 Calls Tryz.prog 103 #[.string s,.int .i64 (a:Int)] w fun e w'=>e=.returned (nextV a (.ok 1 ((s.data.toList.drop a).take (runN wordB (s.data.toList.drop a))) 0 (runN wordB (s.data.toList.drop a))))∧Below w.heap.size w w':=by
 have hat:=str_at ha hc;have HL:=hid (fun W=>by have:=zbn c W;rw[h1]at this;exact this);have hbd:=zgO wordB s.data.toList a (by rw[← zau];omega);rw[← zau]at hbd;have HRUN:=hid (fun W=>zkt s a W (by omega) (by omega));have hx:=zen s a (runN wordB (s.data.toList.drop a));obtain ⟨m,hm⟩:∃ m,runN wordB (s.data.toList.drop a)=m:=⟨_,rfl⟩;rw[hm]at hx h3 hbd HRUN ⊢;obtain ⟨X,hX⟩:∃ X:ByteArray,s.extract a (a+m)=X:=⟨_,rfl⟩;have HNV:Hid (nextV a (.ok 1 ((s.data.toList.drop a).take m) 0 m)=.tuple #[.agg #[.int .i64 1,.string X,.int .i64 0,.int .i64 (a:Int)],.int .i64 ((a+m:Nat):Int),.int .i64 0]):=by
  show nextV a (.ok 1 ((s.data.toList.drop a).take m) 0 m)=_
  rw[← hX,hx];rfl
 obtain ⟨z,hz⟩:∃ z:Nat,a+m=z:=⟨_,rfl⟩;rw[hz]at hX hbd HRUN HNV;have haz:a≤z:=by omega
 have hz16:z≤a+16:=by omega
 clear h1 h3 hc hm hx hz;go_enter func103,ntmps103
 go_wp2_with (first|(go_at_call 132;refine (HL.out _).mono ?_;rintro e w' ⟨rfl,rfl⟩)|(go_at_call 134;refine (HD.out _).mono ?_;rintro e w' ⟨rfl,rfl⟩)|(go_at_call 130;refine (HRUN.out _).mono ?_;rintro e w' ⟨rfl,rfl⟩)|(go_at_call 136;refine (HQ.out _).mono ?_;rintro e w' ⟨rfl,rfl⟩))
 go_region
 go_wp2_with (first|(go_at_call 132;refine (HL.out _).mono ?_;rintro e w' ⟨rfl,rfl⟩)|(go_at_call 134;refine (HD.out _).mono ?_;rintro e w' ⟨rfl,rfl⟩)|(go_at_call 130;refine (HRUN.out _).mono ?_;rintro e w' ⟨rfl,rfl⟩)|(go_at_call 136;refine (HQ.out _).mono ?_;rintro e w' ⟨rfl,rfl⟩))
 try simp only[Exit.inBlock,Exit.then]
 refine bodyPost_ret (by simp[results,results103,go_sem];try rfl) rfl ?_;exact ⟨by rw[HNV.out],by go_grown⟩
theorem ziJ (s:ByteArray) (a:Nat) (c:UInt8) (w:World) (ha:a<s.size) (hs:s.size≤20000) (hc:s.data.toList[a]?=some c) (h1:letB c=true) (h3:16<runN wordB (s.data.toList.drop a)) :
 Calls Tryz.prog 103 #[.string s,.int .i64 (a:Int)] w fun e w'=>e=.returned (nextV a (.err 50))∧Below w.heap.size w w':=by
 have hat:=str_at ha hc;have HL:=hid (fun W=>by have:=zbn c W;rw[h1]at this;exact this);have hbd:=zgO wordB s.data.toList a (by rw[← zau];omega);rw[← zau]at hbd;have HRUN:=hid (fun W=>zkt s a W (by omega) (by omega));have hx:=zen s a (runN wordB (s.data.toList.drop a));obtain ⟨m,hm⟩:∃ m,runN wordB (s.data.toList.drop a)=m:=⟨_,rfl⟩;rw[hm]at h3 hbd HRUN;obtain ⟨z,hz⟩:∃ z:Nat,a+m=z:=⟨_,rfl⟩;rw[hz]at hbd HRUN;have hz16:a+16<z:=by omega
 clear h1 h3 hc hm hx hz;go_enter func103,ntmps103
 go_wp2_with (first|(go_at_call 132;refine (HL.out _).mono ?_;rintro e w' ⟨rfl,rfl⟩)|(go_at_call 134;refine (HD.out _).mono ?_;rintro e w' ⟨rfl,rfl⟩)|(go_at_call 130;refine (HRUN.out _).mono ?_;rintro e w' ⟨rfl,rfl⟩)|(go_at_call 136;refine (HQ.out _).mono ?_;rintro e w' ⟨rfl,rfl⟩))
 try simp only[Exit.inBlock,Exit.then]
 refine bodyPost_ret (by simp[results,results103,go_sem];try rfl) rfl ?_;exact ⟨rfl,by go_grown⟩
theorem zmK {f:UInt8→Bool} {l:List UInt8} {a:Nat} {c:UInt8} (h:l[a]?=some c) (hf:f c=true):1≤runN f (l.drop a):=by
 rw[zcA l a c h,za8,if_pos hf];omega
theorem zne (s:ByteArray) (a:Nat) (c:UInt8) (w:World) (ha:a<s.size) (hs:s.size≤20000) (hc:s.data.toList[a]?=some c) (h1:letB c=false) (h2:digB c=true) (h0:c=48) (h3:1<runN digB (s.data.toList.drop a)) :
 Calls Tryz.prog 103 #[.string s,.int .i64 (a:Int)] w fun e w'=>e=.returned (nextV a (.err 50))∧Below w.heap.size w w':=by
 have hat:=str_at ha hc;have HL:=hid (fun W=>by have:=zbn c W;rw[h1]at this;exact this);have HD:=hid (fun W=>by have:=zb1 c W;rw[h2]at this;exact this);have hbd:=zgO digB s.data.toList a (by rw[← zau];omega);rw[← zau]at hbd;have HRUN:=hid (fun W=>zjy s a W (by omega) (by omega));have hx:=zen s a (runN digB (s.data.toList.drop a));obtain ⟨m,hm⟩:∃ m,runN digB (s.data.toList.drop a)=m:=⟨_,rfl⟩;rw[hm]at h3 hbd HRUN;obtain ⟨z,hz⟩:∃ z:Nat,a+m=z:=⟨_,rfl⟩;rw[hz]at hbd HRUN;have hz1:a+1<z:=by omega
 subst h0;clear h1 h2 h3 hc hm hx hz;go_enter func103,ntmps103
 go_wp2_with (first|(go_at_call 132;refine (HL.out _).mono ?_;rintro e w' ⟨rfl,rfl⟩)|(go_at_call 134;refine (HD.out _).mono ?_;rintro e w' ⟨rfl,rfl⟩)|(go_at_call 130;refine (HRUN.out _).mono ?_;rintro e w' ⟨rfl,rfl⟩)|(go_at_call 136;refine (HQ.out _).mono ?_;rintro e w' ⟨rfl,rfl⟩))
 try simp only[Exit.inBlock,Exit.then]
 refine bodyPost_ret (by simp[results,results103,go_sem];try rfl) rfl ?_;exact ⟨rfl,by go_grown⟩
theorem zpL (s:ByteArray) (a:Nat) (c:UInt8) (w:World) (ha:a<s.size) (hs:s.size≤20000) (hc:s.data.toList[a]?=some c) (h1:letB c=false) (h2:digB c=true) (h0:¬ (c=48∧1<runN digB (s.data.toList.drop a))) (h3:decV 0 ((s.data.toList.drop a).take (runN digB (s.data.toList.drop a)))≤9223372036854775807) (hE:EnvL w) :
 Calls Tryz.prog 103 #[.string s,.int .i64 (a:Int)] w fun e w'=>e=.returned (nextV a (.ok 2 [] (decV 0 ((s.data.toList.drop a).take (runN digB (s.data.toList.drop a))):Nat) (runN digB (s.data.toList.drop a))))∧Below w.heap.size w w':=by
 have HE:=hid hE;have hall:=zfE digB (s.data.toList.drop a);have hpos:=zmK hc h2;have hat:=str_at ha hc;have HL:=hid (fun W=>by have:=zbn c W;rw[h1]at this;exact this);have HD:=hid (fun W=>by have:=zb1 c W;rw[h2]at this;exact this);have hbd:=zgO digB s.data.toList a (by rw[← zau];omega);rw[← zau]at hbd;have HRUN:=hid (fun W=>zjy s a W (by omega) (by omega));have hx:=zen s a (runN digB (s.data.toList.drop a));obtain ⟨m,hm⟩:∃ m,runN digB (s.data.toList.drop a)=m:=⟨_,rfl⟩;have hlm:((s.data.toList.drop a).take (runN digB (s.data.toList.drop a))).length=runN digB (s.data.toList.drop a):=by
  rw[List.length_take];have:=zcZ digB (s.data.toList.drop a);omega
 rw[hm]at hx h3 hbd h0 hall hpos hlm HRUN ⊢;obtain ⟨L,hL⟩:∃ L,(s.data.toList.drop a).take m=L:=⟨_,rfl⟩;rw[hL]at hx h3 hall hlm ⊢;have hne:L≠[]:=by
  intro e;rw[e]at hlm;simp only[List.length_nil]at hlm;omega
 have hat2:=zk7 L hall hne;rw[if_pos h3]at hat2;have hsz:(s.extract a (a+m)).data.toList=L:=by rw[hx]
 have hsz2:(s.extract a (a+m)).size≤20000:=by rw[zeE,hsz,hlm];omega
 have HAT:=hid (fun W =>zh7 (s.extract a (a+m)) (by omega) (decV 0 L:Nat) (by rw[hsz];exact hat2) W);obtain ⟨n,hn⟩:∃ n:Nat,decV 0 L=n:=⟨_,rfl⟩;rw[hn]at HAT ⊢;have HNV:Hid (nextV a (.ok 2 [] ((n:Nat):Int) m)=.tuple #[.agg #[.int .i64 2,.string ⟨#[]⟩,.int .i64 ((n:Nat):Int),.int .i64 (a:Int)],.int .i64 ((a+m:Nat):Int),.int .i64 0]):=by
  show nextV a (.ok 2 [] ((n:Nat):Int) m)=_
  rfl
 obtain ⟨X,hX⟩:∃ X:ByteArray,s.extract a (a+m)=X:=⟨_,rfl⟩;rw[hX]at HAT;obtain ⟨z,hz⟩:∃ z:Nat,a+m=z:=⟨_,rfl⟩;rw[hz]at hX hbd HRUN HNV;have haz:a≤z:=by omega
 by_cases h48:c=48
 ·have hz1:z≤a+1:=by
   have:¬ 1<m:=fun h=>h0 ⟨h48,h⟩
   omega
  have hd1:decide ((a:Int)+1<(z:Int))=false:=by rw[yK];omega
  have hd2:decide (a+1<z)=false:=by rw[yK];omega
  subst h48;clear h0 h1 h2 h3 hc hm hx hz hE hall hpos hlm hL hne hat2 hsz hsz2 hn;go_enter func103,ntmps103
  go_wp2_with (first|(go_at_call 132;refine (HL.out _).mono ?_;rintro e w' ⟨rfl,rfl⟩)|(go_at_call 134;refine (HD.out _).mono ?_;rintro e w' ⟨rfl,rfl⟩)|(go_at_call 130;refine (HRUN.out _).mono ?_;rintro e w' ⟨rfl,rfl⟩)|(go_at_call 136;refine (HQ.out _).mono ?_;rintro e w' ⟨rfl,rfl⟩))
  try any_goals (exfalso;omega)
  refine (HAT.out _).mono ?_;rintro e w3 ⟨rfl,hb⟩;have V:=(Box.new w [.int .i64 0,.string ⟨#[]⟩,.int .i64 0,.int .i64 (a:Int)] 169).next hb;have bw:=two (w:=w) (by go_grown) hb;clear hb;obtain ⟨v0,v1,v2,v3,g0,g1,g2,g3⟩:=four V;have V':Box ((w3.setCell ⟨w.heap.size,0,none⟩ (.int .i64 2)).setCell ⟨w.heap.size,2,none⟩ (.int .i64 (n:Int))) w.heap.size [.int .i64 2,.string ⟨#[]⟩,.int .i64 (n:Int),.int .i64 (a:Int)]:=(V.put 0 (.int .i64 2)).put 2 (.int .i64 (n:Int));have bw':=bput2 bw (yG _) 0 2 (.int .i64 2) (.int .i64 (n:Int));have V'':=put4 V' (.int .i64 2) (.string ⟨#[]⟩) (.int .i64 (n:Int)) (.int .i64 (a:Int));have bw'':=bput4 bw' (yG _) (.int .i64 2) (.string ⟨#[]⟩) (.int .i64 (n:Int)) (.int .i64 (a:Int))
  go_wp2_with (first|(go_at_call 132;refine (HL.out _).mono ?_;rintro e w' ⟨rfl,rfl⟩)|(go_at_call 134;refine (HD.out _).mono ?_;rintro e w' ⟨rfl,rfl⟩)|(go_at_call 130;refine (HRUN.out _).mono ?_;rintro e w' ⟨rfl,rfl⟩)|(go_at_call 136;refine (HQ.out _).mono ?_;rintro e w' ⟨rfl,rfl⟩))
  clear v0 v1 v2 v3 g0 g1 g2 g3;generalize ((((((w3.setCell ⟨w.heap.size,0,none⟩ (.int .i64 2)).setCell ⟨w.heap.size,2,none⟩ (.int .i64 (n:Int))).setCell ⟨w.heap.size,0,none⟩ (.int .i64 2)).setCell ⟨w.heap.size,1,none⟩ (.string ⟨#[]⟩)).setCell ⟨w.heap.size,2,none⟩ (.int .i64 (n:Int))).setCell ⟨w.heap.size,3,none⟩ (.int .i64 (a:Int)))=W2 at V'' bw'' ⊢;obtain ⟨v0,v1,v2,v3,g0,g1,g2,g3⟩:=four V'';try simp only[Exit.inBlock,Exit.then]
  refine bodyPost_ret (by simp[results,results103,go_sem,v0,v1,v2,v3];try rfl) rfl ?_;exact ⟨by rw[HNV.out],bw''⟩
 ·have t48:((c.toNat:Int) == 48)=false:=zcE (n:=48) (by decide) h48;clear h0 h1 h2 h3 hc hm hx hz hE hall hpos hlm hL hne hat2 hsz hsz2 h48 hn;go_enter func103,ntmps103
  go_wp2_with (first|(go_at_call 132;refine (HL.out _).mono ?_;rintro e w' ⟨rfl,rfl⟩)|(go_at_call 134;refine (HD.out _).mono ?_;rintro e w' ⟨rfl,rfl⟩)|(go_at_call 130;refine (HRUN.out _).mono ?_;rintro e w' ⟨rfl,rfl⟩)|(go_at_call 136;refine (HQ.out _).mono ?_;rintro e w' ⟨rfl,rfl⟩))
  try any_goals (exfalso;omega)
  refine (HAT.out _).mono ?_;rintro e w3 ⟨rfl,hb⟩;have V:=(Box.new w [.int .i64 0,.string ⟨#[]⟩,.int .i64 0,.int .i64 (a:Int)] 169).next hb;have bw:=two (w:=w) (by go_grown) hb;clear hb;obtain ⟨v0,v1,v2,v3,g0,g1,g2,g3⟩:=four V;have V':Box ((w3.setCell ⟨w.heap.size,0,none⟩ (.int .i64 2)).setCell ⟨w.heap.size,2,none⟩ (.int .i64 (n:Int))) w.heap.size [.int .i64 2,.string ⟨#[]⟩,.int .i64 (n:Int),.int .i64 (a:Int)]:=(V.put 0 (.int .i64 2)).put 2 (.int .i64 (n:Int));have bw':=bput2 bw (yG _) 0 2 (.int .i64 2) (.int .i64 (n:Int));have V'':=put4 V' (.int .i64 2) (.string ⟨#[]⟩) (.int .i64 (n:Int)) (.int .i64 (a:Int));have bw'':=bput4 bw' (yG _) (.int .i64 2) (.string ⟨#[]⟩) (.int .i64 (n:Int)) (.int .i64 (a:Int))
  go_wp2_with (first|(go_at_call 132;refine (HL.out _).mono ?_;rintro e w' ⟨rfl,rfl⟩)|(go_at_call 134;refine (HD.out _).mono ?_;rintro e w' ⟨rfl,rfl⟩)|(go_at_call 130;refine (HRUN.out _).mono ?_;rintro e w' ⟨rfl,rfl⟩)|(go_at_call 136;refine (HQ.out _).mono ?_;rintro e w' ⟨rfl,rfl⟩))
  clear v0 v1 v2 v3 g0 g1 g2 g3;generalize ((((((w3.setCell ⟨w.heap.size,0,none⟩ (.int .i64 2)).setCell ⟨w.heap.size,2,none⟩ (.int .i64 (n:Int))).setCell ⟨w.heap.size,0,none⟩ (.int .i64 2)).setCell ⟨w.heap.size,1,none⟩ (.string ⟨#[]⟩)).setCell ⟨w.heap.size,2,none⟩ (.int .i64 (n:Int))).setCell ⟨w.heap.size,3,none⟩ (.int .i64 (a:Int)))=W2 at V'' bw'' ⊢;obtain ⟨v0,v1,v2,v3,g0,g1,g2,g3⟩:=four V'';try simp only[Exit.inBlock,Exit.then]
  refine bodyPost_ret (by simp[results,results103,go_sem,v0,v1,v2,v3];try rfl) rfl ?_;exact ⟨by rw[HNV.out],bw''⟩
theorem zni (s:ByteArray) (a:Nat) (c:UInt8) (w:World) (ha:a<s.size) (hs:s.size≤20000) (hc:s.data.toList[a]?=some c) (h1:letB c=false) (h2:digB c=true) (h0:¬ (c=48∧1<runN digB (s.data.toList.drop a))) (h3:¬ decV 0 ((s.data.toList.drop a).take (runN digB (s.data.toList.drop a)))≤9223372036854775807) (hE:EnvL w) :
 Calls Tryz.prog 103 #[.string s,.int .i64 (a:Int)] w fun e w'=>e=.returned (nextV a (.err 10))∧Below w.heap.size w w':=by
 have HE:=hid hE;have hall:=zfE digB (s.data.toList.drop a);have hpos:=zmK hc h2;have hat:=str_at ha hc;have HL:=hid (fun W=>by have:=zbn c W;rw[h1]at this;exact this);have HD:=hid (fun W=>by have:=zb1 c W;rw[h2]at this;exact this);have hbd:=zgO digB s.data.toList a (by rw[← zau];omega);rw[← zau]at hbd;have HRUN:=hid (fun W=>zjy s a W (by omega) (by omega));have hx:=zen s a (runN digB (s.data.toList.drop a));obtain ⟨m,hm⟩:∃ m,runN digB (s.data.toList.drop a)=m:=⟨_,rfl⟩;have hlm:((s.data.toList.drop a).take (runN digB (s.data.toList.drop a))).length=runN digB (s.data.toList.drop a):=by
  rw[List.length_take];have:=zcZ digB (s.data.toList.drop a);omega
 rw[hm]at hx h3 hbd h0 hall hpos hlm HRUN;obtain ⟨L,hL⟩:∃ L,(s.data.toList.drop a).take m=L:=⟨_,rfl⟩;rw[hL]at hx h3 hall hlm;have hne:L≠[]:=by
  intro e;rw[e]at hlm;simp only[List.length_nil]at hlm;omega
 have hat2:=zk7 L hall hne;rw[if_neg h3]at hat2;have hsz:(s.extract a (a+m)).data.toList=L:=by rw[hx]
 have hsz2:(s.extract a (a+m)).size≤20000:=by rw[zeE,hsz,hlm];omega
 have HAT:=hid (fun W (hW:Errs W)=>zoG (s.extract a (a+m)) (by omega) (fun v hv=>by rw[hsz,hat2]at hv;cases hv) W hW);obtain ⟨X,hX⟩:∃ X:ByteArray,s.extract a (a+m)=X:=⟨_,rfl⟩;rw[hX]at HAT;obtain ⟨z,hz⟩:∃ z:Nat,a+m=z:=⟨_,rfl⟩;rw[hz]at hX hbd HRUN;have haz:a≤z:=by omega
 by_cases h48:c=48
 ·have hz1:z≤a+1:=by
   have:¬ 1<m:=fun h=>h0 ⟨h48,h⟩
   omega
  have hd1:decide ((a:Int)+1<(z:Int))=false:=by rw[yK];omega
  have hd2:decide (a+1<z)=false:=by rw[yK];omega
  subst h48;clear h0 h1 h2 h3 hc hm hx hz hE hall hpos hlm hL hne hat2 hsz hsz2;go_enter func103,ntmps103
  go_wp2_with (first|(go_at_call 132;refine (HL.out _).mono ?_;rintro e w' ⟨rfl,rfl⟩)|(go_at_call 134;refine (HD.out _).mono ?_;rintro e w' ⟨rfl,rfl⟩)|(go_at_call 130;refine (HRUN.out _).mono ?_;rintro e w' ⟨rfl,rfl⟩)|(go_at_call 136;refine (HQ.out _).mono ?_;rintro e w' ⟨rfl,rfl⟩))
  try any_goals (exfalso;omega)
  refine (HAT.out _ (HE.out.below (by go_grown)).err).mono ?_;rintro e w3 ⟨q,N,rfl,hb⟩;have V:=(Box.new w [.int .i64 0,.string ⟨#[]⟩,.int .i64 0,.int .i64 (a:Int)] 169).next hb;have bw:=two (w:=w) (by go_grown) hb;clear hb;obtain ⟨v0,v1,v2,v3,g0,g1,g2,g3⟩:=four V;have V':=put4 V (.int .i64 0) (.string ⟨#[]⟩) (.int .i64 0) (.int .i64 (a:Int));have bw':=bput4 bw (yG _) (.int .i64 0) (.string ⟨#[]⟩) (.int .i64 0) (.int .i64 (a:Int));go_wp2_with (first|(go_at_call 132;refine (HL.out _).mono ?_;rintro e w' ⟨rfl,rfl⟩)|(go_at_call 134;refine (HD.out _).mono ?_;rintro e w' ⟨rfl,rfl⟩)|(go_at_call 130;refine (HRUN.out _).mono ?_;rintro e w' ⟨rfl,rfl⟩)|(go_at_call 136;refine (HQ.out _).mono ?_;rintro e w' ⟨rfl,rfl⟩))
  clear v0 v1 v2 v3 g0 g1 g2 g3;generalize ((((w3.setCell ⟨w.heap.size,0,none⟩ (.int .i64 0)).setCell ⟨w.heap.size,1,none⟩ (.string ⟨#[]⟩)).setCell ⟨w.heap.size,2,none⟩ (.int .i64 0)).setCell ⟨w.heap.size,3,none⟩ (.int .i64 (a:Int)))=W2 at V' bw' ⊢;obtain ⟨v0,v1,v2,v3,g0,g1,g2,g3⟩:=four V';try simp only[Exit.inBlock,Exit.then]
  refine bodyPost_ret (by simp[results,results103,go_sem,v0,v1,v2,v3];try rfl) rfl ?_;first|exact ⟨rfl,bw'⟩|exact ⟨rfl,bw'.drew⟩
 ·have t48:((c.toNat:Int) == 48)=false:=zcE (n:=48) (by decide) h48;clear h0 h1 h2 h3 hc hm hx hz hE hall hpos hlm hL hne hat2 hsz hsz2 h48;go_enter func103,ntmps103
  go_wp2_with (first|(go_at_call 132;refine (HL.out _).mono ?_;rintro e w' ⟨rfl,rfl⟩)|(go_at_call 134;refine (HD.out _).mono ?_;rintro e w' ⟨rfl,rfl⟩)|(go_at_call 130;refine (HRUN.out _).mono ?_;rintro e w' ⟨rfl,rfl⟩)|(go_at_call 136;refine (HQ.out _).mono ?_;rintro e w' ⟨rfl,rfl⟩))
  try any_goals (exfalso;omega)
  refine (HAT.out _ (HE.out.below (by go_grown)).err).mono ?_;rintro e w3 ⟨q,N,rfl,hb⟩;have V:=(Box.new w [.int .i64 0,.string ⟨#[]⟩,.int .i64 0,.int .i64 (a:Int)] 169).next hb;have bw:=two (w:=w) (by go_grown) hb;clear hb;obtain ⟨v0,v1,v2,v3,g0,g1,g2,g3⟩:=four V;have V':=put4 V (.int .i64 0) (.string ⟨#[]⟩) (.int .i64 0) (.int .i64 (a:Int));have bw':=bput4 bw (yG _) (.int .i64 0) (.string ⟨#[]⟩) (.int .i64 0) (.int .i64 (a:Int));go_wp2_with (first|(go_at_call 132;refine (HL.out _).mono ?_;rintro e w' ⟨rfl,rfl⟩)|(go_at_call 134;refine (HD.out _).mono ?_;rintro e w' ⟨rfl,rfl⟩)|(go_at_call 130;refine (HRUN.out _).mono ?_;rintro e w' ⟨rfl,rfl⟩)|(go_at_call 136;refine (HQ.out _).mono ?_;rintro e w' ⟨rfl,rfl⟩))
  clear v0 v1 v2 v3 g0 g1 g2 g3;generalize ((((w3.setCell ⟨w.heap.size,0,none⟩ (.int .i64 0)).setCell ⟨w.heap.size,1,none⟩ (.string ⟨#[]⟩)).setCell ⟨w.heap.size,2,none⟩ (.int .i64 0)).setCell ⟨w.heap.size,3,none⟩ (.int .i64 (a:Int)))=W2 at V' bw' ⊢;obtain ⟨v0,v1,v2,v3,g0,g1,g2,g3⟩:=four V';try simp only[Exit.inBlock,Exit.then]
  refine bodyPost_ret (by simp[results,results103,go_sem,v0,v1,v2,v3];try rfl) rfl ?_;first|exact ⟨rfl,bw'⟩|exact ⟨rfl,bw'.drew⟩
theorem znB {l:List UInt8} {n:Nat} {b:UInt8} (h:l[n]?=some b) (hl:l.length=n+1):l.getLast?=some b:=by
 rw[List.getLast?_eq_getElem?,hl];exact h
theorem zjC {r:List UInt8} {n:Nat} (h:scanQ r=some n):isQ (34::r.take n)=true:=by
 obtain ⟨h1,h2,h3⟩:=zhA r.length r n (yG _) h;have hl:(34::r.take n).length=n+1:=by rw[yB,List.length_take];omega
 have e:(34::r.take n).getLast?=some 34:=by
  refine znB (n:=n) ?_ hl;obtain ⟨m,rfl⟩:∃ m,n=m+1:=⟨n-1,by omega⟩;rw[List.getElem?_cons_succ,List.getElem?_take_of_lt (by omega)];exact h3
 unfold isQ;rw[e,hl,decide_eq_true (by omega:1<n+1)];rfl
theorem zpJ (r:List UInt8):(34::r)≠nullL:=by
 unfold nullL;intro e;injection e with e1 e2
 exact absurd e1 (by decide)
theorem zpy {t:List UInt8} (h:∀ c∈t,32≤c.toNat∧c.toNat≤126) (hl:t.length≤64):rightB 2 0 ⟨t.toArray⟩=true:=by
 unfold rightB plainB;rw[if_neg (by decide),if_neg (by decide),if_pos rfl];simp only[decide_true,Bool.true_and,Bool.and_eq_true,yL];refine ⟨?_,by rw[zcQ];exact hl⟩;rw[List.all_eq_true];intro c hc;have:=h c hc;unfold okByte;rw[yL];omega
theorem zpx {t:List UInt8} (h:rightB 2 0 ⟨t.toArray⟩=true):(∀ c∈t,32≤c.toNat∧c.toNat≤126)∧t.length≤64:=by
 unfold rightB plainB at h;rw[if_neg (by decide),if_neg (by decide),if_pos rfl]at h;simp only[decide_true,Bool.true_and,Bool.and_eq_true,yL]at h;refine ⟨fun c hc=>?_,by rw[← zcQ];exact h.2⟩;have:=List.all_eq_true.1 h.1 c hc;unfold okByte at this;rw[yL]at this;omega
theorem zlv {r:List UInt8} {n:Nat} (h:scanQ r=some n) :
 (∃ t,qTok r=some (t,n+1)∧ze1 (34::r.take n) 2 0 t 0)∨(qTok r=none∧ze1 (34::r.take n) 0 0 [] 20):=by
 have hc:candV (34::r.take n)=some (2,0,(unqL (inner (34::r.take n))).1):=by
  unfold candV;rw[if_neg (zpJ _),if_pos (zjC h)]
 obtain ⟨t,ht⟩:∃ t,(unqL (inner (34::r.take n))).1=t:=⟨_,rfl⟩;rw[ht]at hc;by_cases hs:showL 2 0 ⟨t.toArray⟩=34::r.take n
 ·left
  have hr:rightB 2 0 ⟨t.toArray⟩=true:=zlm hs (by simp);obtain ⟨p1,p2⟩:=zpx hr;refine ⟨t,?_,.inl ⟨rfl,hc,hs⟩⟩;have e:34::r.take n=quotedL t:=by
   rw[← hs];unfold showL;rw[if_pos hr,if_neg (by decide),if_neg (by decide)]
  have e2:r.take n=esc t++[34]:=by
   unfold quotedL at e;rw[List.cons_append]at e;injection e
  have e3:r=esc t++34::r.drop n:=by
   conv=>lhs;rw[← List.take_append_drop n r,e2]
   simp
  have e4:=zjA t (r.drop n) p1;rw[← e3]at e4;have e5:=(zeJ r.length r t _ (yG _) e4).1;rw[h]at e5;injection e5 with e5
  unfold qTok;rw[e4];simp only;rw[if_pos p2,e5]
 ·right
  refine ⟨?_,.inr ⟨rfl,rfl,rfl,rfl,fun k' n' t' h'=>?_⟩⟩
  ·unfold qTok
   cases hq:rdQ r with
   | none=>rfl
   | some x =>
    obtain ⟨t',n'⟩:=x;obtain ⟨a1,a2,a3,a4,a5⟩:=zeJ r.length r t' n' (yG _) hq;rw[h]at a1;injection a1 with a1
    subst a1;simp only;by_cases h64:t'.length≤64
    ·exfalso
     have e:34::r.take n=quotedL t':=by rw[a3];rfl
     have hc2:=zkc t';rw[← e,hc]at hc2;simp only[Option.some.injEq,Prod.mk.injEq,true_and]at hc2;subst hc2;apply hs;unfold showL;rw[if_pos (zpy a4 h64),if_neg (by decide),if_neg (by decide)];exact e.symm
    ·rw[if_neg h64]
  ·rw[hc]at h';simp only[Option.some.injEq,Prod.mk.injEq]at h';obtain ⟨rfl,rfl,rfl⟩:=h';exact hs
theorem zmW {r:List UInt8} (h:scanQ r=none):qTok r=none:=by
 unfold qTok
 cases hq:rdQ r with
 | none=>rfl
 | some x =>
  obtain ⟨t',n'⟩:=x;rw[(zeJ r.length r t' n' (yG _) hq).1]at h
  cases h
theorem znj (s:ByteArray) (a:Nat) (c:UInt8) (w:World) (ha:a<s.size) (hs:s.size≤20000) (hc:s.data.toList[a]?=some c) (h0:c=34) (h3:scanQ (s.data.toList.drop (a+1))=none) :
 Calls Tryz.prog 103 #[.string s,.int .i64 (a:Int)] w fun e w'=>e=.returned (nextV a (.err 50))∧Below w.heap.size w w':=by
 subst h0;have hat:=str_at ha hc;have HL:=hid (fun W=>by have:=zbn 34 W;rw[show letB 34=false by decide]at this;exact this);have HD:=hid (fun W=>by have:=zb1 34 W;rw[show digB 34=false by decide]at this;exact this);have hq:=fun W=>ze8 s a W (by omega) (by omega)
 rw[h3]at hq;have HQ:=hid hq;clear hq h3 hc;go_enter func103,ntmps103
 go_wp2_with (first|(go_at_call 132;refine (HL.out _).mono ?_;rintro e w' ⟨rfl,rfl⟩)|(go_at_call 134;refine (HD.out _).mono ?_;rintro e w' ⟨rfl,rfl⟩)|(go_at_call 130;refine (HRUN.out _).mono ?_;rintro e w' ⟨rfl,rfl⟩)|(go_at_call 136;refine (HQ.out _).mono ?_;rintro e w' ⟨rfl,rfl⟩))
 try simp only[Exit.inBlock,Exit.then]
 refine bodyPost_ret (by simp[results,results103,go_sem];try rfl) rfl ?_;exact ⟨rfl,by go_grown⟩
theorem zng (s:ByteArray) (a:Nat) (c:UInt8) (w:World) (ha:a<s.size) (hs:s.size≤20000) (hc:s.data.toList[a]?=some c) (h0:c=34) (n:Nat) (h3:scanQ (s.data.toList.drop (a+1))=some n) (t:List UInt8) (hp:ze1 (34::(s.data.toList.drop (a+1)).take n) 2 0 t 0) (hE:EnvL w) :
 Calls Tryz.prog 103 #[.string s,.int .i64 (a:Int)] w fun e w'=>e=.returned (nextV a (.ok 3 t 0 (n+1)))∧Below w.heap.size w w':=by
 subst h0;have hat:=str_at ha hc;have HL:=hid (fun W=>by have:=zbn 34 W;rw[show letB 34=false by decide]at this;exact this);have HD:=hid (fun W=>by have:=zb1 34 W;rw[show digB 34=false by decide]at this;exact this);have hq:=fun W=>ze8 s a W (by omega) (by omega)
 rw[h3]at hq;have hql:resQ (a+1) (some n)=((a+(n+1):Nat):Int):=by
  show ((a+1+n:Nat):Int)=_
  omega
 rw[hql]at hq;have HQ:=hid hq;have hn:=(zhA _ _ n (yG _) h3).1;rw[List.length_drop,← zau]at hn;have hx:(s.extract a (a+(n+1))).data.toList=34::(s.data.toList.drop (a+1)).take n:=by
  rw[zen,zcA _ a 34 hc];rfl
 obtain ⟨z,hz⟩:∃ z:Nat,a+(n+1)=z:=⟨_,rfl⟩;rw[hz]at hx HQ;have haz:a≤z:=by omega
 have hzs:z≤s.size:=by omega
 obtain ⟨X,hX⟩:∃ X:ByteArray,s.extract a z=X:=⟨_,rfl⟩;rw[hX]at hx;have hXs:X.size≤20000:=by
  rw[← hX,ByteArray.size_extract];omega
 rw[← hx]at hp;obtain ⟨Y,hY⟩:∃ Y:ByteArray,(⟨t.toArray⟩:ByteArray)=Y:=⟨_,rfl⟩;have hYd:t=Y.data.toList:=by rw[← hY]
 rw[hYd]at hp;have HP:=hid (fun W (h1:EnvL W)=>zkI X 2 0 Y 0 W hp hXs h1.pow h1.err);have HNV:Hid (nextV a (.ok 3 t 0 (n+1))=.tuple #[.agg #[.int .i64 3,.string Y,.int .i64 0,.int .i64 (a:Int)],.int .i64 (z:Int),.int .i64 0]):=by
  show nextV a (.ok 3 t 0 (n+1))=_
  rw[← hY,← hz];rfl
 have HE:=hid hE;clear hp hx hql hq hn hz hc h3 hE hY hYd hXs;go_enter func103,ntmps103
 go_wp2_with (first|(go_at_call 132;refine (HL.out _).mono ?_;rintro e w' ⟨rfl,rfl⟩)|(go_at_call 134;refine (HD.out _).mono ?_;rintro e w' ⟨rfl,rfl⟩)|(go_at_call 130;refine (HRUN.out _).mono ?_;rintro e w' ⟨rfl,rfl⟩)|(go_at_call 136;refine (HQ.out _).mono ?_;rintro e w' ⟨rfl,rfl⟩))
 refine (HP.out _ (HE.out.below (by go_grown))).mono ?_;rintro e w3 ⟨rfl,hb⟩;have V:=((Box.new w [.int .i64 0,.string ⟨#[]⟩,.int .i64 0,.int .i64 (a:Int)] 169).next hb).alloc (.cells #[.int .i64 2,.int .i64 0,.string Y] 24);have X2:=Box.new w3 [.int .i64 2,.int .i64 0,.string Y] 24;have bw:=(two (w:=w) (by go_grown) hb).alloc (by have:=hb.size;simp at this;omega) (.cells #[.int .i64 2,.int .i64 0,.string Y] 24);have hzz:w.heap.size<w3.heap.size:=by have:=hb.size;simp at this;omega
 have hz1:¬ w3.heap.size=w.heap.size:=by omega
 have hz2:¬ w.heap.size=w3.heap.size:=by omega
 clear hb;obtain ⟨v0,v1,v2,v3,g0,g1,g2,g3⟩:=four V;obtain ⟨x0,x1,x2,p0,p1,p2⟩:=X2.three;have V':Box (((w3.alloc (.cells #[.int .i64 2,.int .i64 0,.string Y] 24)).setCell ⟨w.heap.size,0,none⟩ (.int .i64 3)).setCell ⟨w.heap.size,1,none⟩ (.string Y)) w.heap.size [.int .i64 3,.string Y,.int .i64 0,.int .i64 (a:Int)]:=(V.put 0 (.int .i64 3)).put 1 (.string Y);have bw':=bput2 bw (yG _) 0 1 (.int .i64 3) (.string Y);go_wp2_with (first|(go_at_call 132;refine (HL.out _).mono ?_;rintro e w' ⟨rfl,rfl⟩)|(go_at_call 134;refine (HD.out _).mono ?_;rintro e w' ⟨rfl,rfl⟩)|(go_at_call 130;refine (HRUN.out _).mono ?_;rintro e w' ⟨rfl,rfl⟩)|(go_at_call 136;refine (HQ.out _).mono ?_;rintro e w' ⟨rfl,rfl⟩))
 generalize (w3.alloc (.cells #[.int .i64 2,.int .i64 0,.string Y] 24))=W3 at *
 go_region
 all_goals clear x0 x1 x2 p0 p1 p2
 all_goals (clear v0 v1 v2 v3 g0 g1 g2 g3;generalize (W3.setCell ⟨w.heap.size,0,none⟩ (.int .i64 3)).setCell ⟨w.heap.size,1,none⟩ (.string Y)=W1 at V' bw' ⊢;clear V bw;have V:=V';have bw:=bw';clear V' bw';obtain ⟨v0,v1,v2,v3,g0,g1,g2,g3⟩:=four V)
 have V':=put4 V (.int .i64 3) (.string Y) (.int .i64 0) (.int .i64 (a:Int));have bw':=bput4 bw (yG _) (.int .i64 3) (.string Y) (.int .i64 0) (.int .i64 (a:Int));go_wp2_with (first|(go_at_call 132;refine (HL.out _).mono ?_;rintro e w' ⟨rfl,rfl⟩)|(go_at_call 134;refine (HD.out _).mono ?_;rintro e w' ⟨rfl,rfl⟩)|(go_at_call 130;refine (HRUN.out _).mono ?_;rintro e w' ⟨rfl,rfl⟩)|(go_at_call 136;refine (HQ.out _).mono ?_;rintro e w' ⟨rfl,rfl⟩))
 clear v0 v1 v2 v3 g0 g1 g2 g3;generalize ((((W1.setCell ⟨w.heap.size,0,none⟩ (.int .i64 3)).setCell ⟨w.heap.size,1,none⟩ (.string Y)).setCell ⟨w.heap.size,2,none⟩ (.int .i64 0)).setCell ⟨w.heap.size,3,none⟩ (.int .i64 (a:Int)))=W2 at V' bw' ⊢;obtain ⟨v0,v1,v2,v3,g0,g1,g2,g3⟩:=four V';try simp only[Exit.inBlock,Exit.then]
 refine bodyPost_ret (by simp[results,results103,go_sem,v0,v1,v2,v3];try rfl) rfl ?_;first|exact ⟨by rw[HNV.out],bw'⟩|exact ⟨by rw[HNV.out],bw'.drew⟩
theorem zpM (s:ByteArray) (a:Nat) (c:UInt8) (w:World) (ha:a<s.size) (hs:s.size≤20000) (hc:s.data.toList[a]?=some c) (h0:c=34) (n:Nat) (h3:scanQ (s.data.toList.drop (a+1))=some n) (hp:ze1 (34::(s.data.toList.drop (a+1)).take n) 0 0 [] 20) (hE:EnvL w) :
 Calls Tryz.prog 103 #[.string s,.int .i64 (a:Int)] w fun e w'=>e=.returned (nextV a (.err 50))∧Below w.heap.size w w':=by
 subst h0;have hat:=str_at ha hc;have HL:=hid (fun W=>by have:=zbn 34 W;rw[show letB 34=false by decide]at this;exact this);have HD:=hid (fun W=>by have:=zb1 34 W;rw[show digB 34=false by decide]at this;exact this);have hq:=fun W=>ze8 s a W (by omega) (by omega)
 rw[h3]at hq;have hql:resQ (a+1) (some n)=((a+(n+1):Nat):Int):=by
  show ((a+1+n:Nat):Int)=_
  omega
 rw[hql]at hq;have HQ:=hid hq;have hn:=(zhA _ _ n (yG _) h3).1;rw[List.length_drop,← zau]at hn;have hx:(s.extract a (a+(n+1))).data.toList=34::(s.data.toList.drop (a+1)).take n:=by
  rw[zen,zcA _ a 34 hc];rfl
 obtain ⟨z,hz⟩:∃ z:Nat,a+(n+1)=z:=⟨_,rfl⟩;rw[hz]at hx HQ;have haz:a≤z:=by omega
 have hzs:z≤s.size:=by omega
 obtain ⟨X,hX⟩:∃ X:ByteArray,s.extract a z=X:=⟨_,rfl⟩;rw[hX]at hx;have hXs:X.size≤20000:=by
  rw[← hX,ByteArray.size_extract];omega
 rw[← hx]at hp;have HP:=hid (fun W (h1:EnvL W)=>zkI X 0 0 ⟨#[]⟩ 20 W hp hXs h1.pow h1.err);have HE:=hid hE;clear hp hx hql hq hn hz hc h3 hE hXs;go_enter func103,ntmps103
 go_wp2_with (first|(go_at_call 132;refine (HL.out _).mono ?_;rintro e w' ⟨rfl,rfl⟩)|(go_at_call 134;refine (HD.out _).mono ?_;rintro e w' ⟨rfl,rfl⟩)|(go_at_call 130;refine (HRUN.out _).mono ?_;rintro e w' ⟨rfl,rfl⟩)|(go_at_call 136;refine (HQ.out _).mono ?_;rintro e w' ⟨rfl,rfl⟩))
 refine (HP.out _ (HE.out.below (by go_grown))).mono ?_;rintro e w3 ⟨rfl,hb⟩;have V:=((Box.new w [.int .i64 0,.string ⟨#[]⟩,.int .i64 0,.int .i64 (a:Int)] 169).next hb).alloc (.cells #[.int .i64 0,.int .i64 0,.string ⟨#[]⟩] 24);have X2:=Box.new w3 [.int .i64 0,.int .i64 0,.string ⟨#[]⟩] 24;have bw:=(two (w:=w) (by go_grown) hb).alloc (by have:=hb.size;simp at this;omega) (.cells #[.int .i64 0,.int .i64 0,.string ⟨#[]⟩] 24);have hzz:w.heap.size<w3.heap.size:=by have:=hb.size;simp at this;omega
 have hz1:¬ w3.heap.size=w.heap.size:=by omega
 have hz2:¬ w.heap.size=w3.heap.size:=by omega
 clear hb;obtain ⟨v0,v1,v2,v3,g0,g1,g2,g3⟩:=four V;obtain ⟨x0,x1,x2,p0,p1,p2⟩:=X2.three;go_upto_if 102 with (fail)
 clear v0 v1 v2 v3 g0 g1 g2 g3 x0 x1 x2 p0 p1 p2;generalize (w3.alloc (.cells #[.int .i64 0,.int .i64 0,.string ⟨#[]⟩] 24))=W3 at *
 obtain ⟨v0,v1,v2,v3,g0,g1,g2,g3⟩:=four V;have V':=put4 V (.int .i64 0) (.string ⟨#[]⟩) (.int .i64 0) (.int .i64 (a:Int));have bw':=bput4 bw (yG _) (.int .i64 0) (.string ⟨#[]⟩) (.int .i64 0) (.int .i64 (a:Int));go_wp2_with (first|(go_at_call 132;refine (HL.out _).mono ?_;rintro e w' ⟨rfl,rfl⟩)|(go_at_call 134;refine (HD.out _).mono ?_;rintro e w' ⟨rfl,rfl⟩)|(go_at_call 130;refine (HRUN.out _).mono ?_;rintro e w' ⟨rfl,rfl⟩)|(go_at_call 136;refine (HQ.out _).mono ?_;rintro e w' ⟨rfl,rfl⟩))
 clear v0 v1 v2 v3 g0 g1 g2 g3;generalize ((((W3.setCell ⟨w.heap.size,0,none⟩ (.int .i64 0)).setCell ⟨w.heap.size,1,none⟩ (.string ⟨#[]⟩)).setCell ⟨w.heap.size,2,none⟩ (.int .i64 0)).setCell ⟨w.heap.size,3,none⟩ (.int .i64 (a:Int)))=W2 at V' bw' ⊢;obtain ⟨v0,v1,v2,v3,g0,g1,g2,g3⟩:=four V';try simp only[Exit.inBlock,Exit.then]
 refine bodyPost_ret (by simp[results,results103,go_sem,v0,v1,v2,v3];try rfl) rfl ?_;first|exact ⟨rfl,bw'⟩|exact ⟨rfl,bw'.drew⟩
end Go.Proofs.YtonkjhmkppeagaaGreatDoor.Lx
namespace Go.Proofs.YtonkjhmkppeagaaGreatDoor.Lx
open Go.Proofs.Tryz
open Go.Lib (hid)
open Go Go.RowKit Ba
def TokOk (t:Tok):Prop :=
 (t.k=1∧t.n=0∧(∃ c r,t.t=c::r∧letB c=true)∧t.t.all wordB=true∧t.t.length≤16)∨
 (t.k=2∧t.t=[]∧0≤t.n∧t.n≤9223372036854775807)∨
 (t.k=3∧t.n=0∧t.t.length≤64∧∀ c∈t.t,32≤c.toNat∧c.toNat≤126)∨
 (t.k=4∧t.n=0∧t.t∈sgL)
def sh (t:Tok):List UInt8:=if t.k=2 then Lib.itoa t.n else if t.k=3 then Va.quotedL t.t else t.t
theorem ziv {f:UInt8→Bool} {l:List UInt8} (h:l.all f=true):runN f l=l.length:=by
 induction l with
 | nil=>rfl
 | cons c l ih =>
  simp only[List.all_cons,Bool.and_eq_true]at h;rw[za8,if_pos h.1,ih h.2];rfl
theorem zkZ (u:Nat) (h:1≤u):∃ c r,Lib.decDigits u=c::r∧c≠48:=by
 induction u using Nat.strongRecOn with
 | _ u ih =>
  rw[Lib.decDigits];split
  ·rename_i h10
   refine ⟨_,_,rfl,fun e=>?_⟩;have:=congrArg UInt8.toNat e;rw[Nu.dig_nat u h10]at this;have h48:(48:UInt8).toNat=48:=rfl;omega
  ·obtain ⟨c,r,e,hc⟩:=ih (u / 10) (by omega) (by omega);exact ⟨c,r++[_],by rw[e];rfl,hc⟩
theorem zj7 (u:Nat):(Lib.decDigits u).all digB=true:=Nu.dec_all u
theorem zou (u:Nat) (h:u<18446744073709551616):decV 0 (Lib.decDigits u)=u:=by
 have h1:=Nu.pu_dec u h;rw[zmX _ (zj7 u) 0 (by omega)]at h1;split at h1
 ·injection h1
 ·cases h1
theorem zl7:∀ (m u:Nat),1≤m→u<10 ^ m→(Lib.decDigits u).length≤m:=by
 intro m;induction m with
 | zero=>intro u h;omega
 | succ m ih =>
  intro u _ h;rw[Lib.decDigits];split
  ·simp
  ·rename_i h10
   have hm:1≤m:=by
    cases m with
    | zero=>simp at h;omega
    | succ m=>omega
   have:=ih (u / 10) hm (by rw[Nat.pow_succ]at h;omega);rw[yA,List.length_singleton];omega
theorem zl8 {l:List UInt8} (h:l.all digB=true):decV 0 l<10 ^ l.length:=by
 have key:∀ (l:List UInt8),l.all digB=true→∀ a,decV a l<(a+1)*10 ^ l.length:=by
  intro l;induction l with
  | nil=>intro _ a;rw[zk0];simp
  | cons c l ih =>
   intro hl a;simp only[List.all_cons,Bool.and_eq_true]at hl;have hc:=hl.1;unfold digB at hc;rw[yL]at hc;have h1:=ih hl.2 (a*10+(c.toNat-48));rw[zjc,yB,Nat.pow_succ];have h2:(a*10+(c.toNat-48)+1)*10 ^ l.length≤(a+1)*10*10 ^ l.length:=Nat.mul_le_mul_right _ (by omega);calc decV (a*10+(c.toNat-48)) l<(a*10+(c.toNat-48)+1)*10 ^ l.length:=h1
    _≤(a+1)*10*10 ^ l.length:=h2
    _=(a+1)*(10 ^ l.length*10):=by rw[Nat.mul_assoc,Nat.mul_comm 10]
 have:=key l h 0;simpa using this
theorem zfD:∀ x∈sgL,∃ a l,x=a::l∧letB a=false∧digB a=false∧a≠34∧tokB a=true∧signN (a::l)=(a::l).length:=by
 intro x hx;unfold sgL at hx;simp only[List.mem_cons,List.not_mem_nil,or_false]at hx;rcases hx with rfl|rfl|rfl|rfl|rfl|rfl|rfl|rfl|rfl|rfl|rfl|rfl|rfl|rfl|rfl|rfl|rfl|rfl
 all_goals exact ⟨_,_,rfl,by decide,by decide,by decide,by decide,by decide⟩
theorem zrc {c:UInt8} {r:List UInt8} {k:Int} {t:List UInt8} {n:Int} {m:Nat} (h:tok1 (c::r)=.ok k t n m) (p:Nat):TokOk ⟨k,t,n,p⟩∧(sh ⟨k,t,n,p⟩).length≤m:=by
 rw[zbt]at h;by_cases h1:letB c=true
 ·rw[if_pos h1]at h;by_cases h2:runN wordB (c::r)>16
  ·rw[if_pos h2]at h;cases h
  rw[if_neg h2]at h;injection h with e1 e2 e3 e4
  subst e1 e2 e3 e4;have hl:((c::r).take (runN wordB (c::r))).length=runN wordB (c::r):=by
   rw[List.length_take];have:=zcZ wordB (c::r);omega
  refine ⟨.inl ⟨rfl,rfl,⟨c,r.take (runN wordB r),?_,h1⟩,zfE wordB (c::r),by show ((c::r).take _).length≤16;omega⟩,by show ((c::r).take _).length≤_;omega⟩;show (c::r).take (runN wordB (c::r))=_
  rw[za8,if_pos (zhR h1),List.take_succ_cons]
 rw[if_neg h1]at h;by_cases h2:digB c=true
 ·rw[if_pos h2]at h;by_cases h3:c=48∧runN digB (c::r)>1
  ·rw[if_pos h3]at h;cases h
  rw[if_neg h3]at h;by_cases h4:decV 0 ((c::r).take (runN digB (c::r)))≤9223372036854775807
  ·rw[if_pos h4]at h;injection h with e1 e2 e3 e4
   subst e1 e2 e3 e4;have hl:((c::r).take (runN digB (c::r))).length=runN digB (c::r):=by
    rw[List.length_take];have:=zcZ digB (c::r);omega
   have hb:=zl8 (zfE digB (c::r));rw[hl]at hb;refine ⟨.inr (.inl ⟨rfl,rfl,by show (0:Int)≤((_:Nat):Int);omega,by show ((_:Nat):Int)≤_;omega⟩),?_⟩;show (if (2:Int)=2 then Lib.itoa _ else _).length≤_
   rw[if_pos rfl,Lib.itoa_nonneg];exact zl7 _ _ (zhB h2) hb
  ·rw[if_neg h4]at h;cases h
 rw[if_neg h2]at h;by_cases h3:c=34
 ·rw[if_pos h3]at h
  cases hq:qTok r with
  | none=>rw[hq]at h;cases h
  | some x =>
   obtain ⟨t',n'⟩:=x;rw[hq]at h;injection h with e1 e2 e3 e4
   subst e1 e2 e3 e4;unfold qTok at hq
   cases hr:rdQ r with
   | none=>rw[hr]at hq;cases hq
   | some y =>
    obtain ⟨t2,n2⟩:=y;rw[hr]at hq;simp only at hq;by_cases h64:t2.length≤64
    ·rw[if_pos h64]at hq;simp only[Option.some.injEq,Prod.mk.injEq]at hq;obtain ⟨rfl,rfl⟩:=hq;obtain ⟨a1,a2,a3,a4,a5⟩:=zeJ r.length r t2 n2 (yG _) hr;refine ⟨.inr (.inr (.inl ⟨rfl,rfl,h64,a4⟩)),?_⟩;show (if (3:Int)=2 then _ else if (3:Int)=3 then Va.quotedL t2 else _).length≤_
     rw[if_neg (by decide),if_pos rfl];have hl:=congrArg List.length a3;rw[List.length_take,yA,List.length_singleton]at hl;unfold Va.quotedL;simp only[yA,yB,List.length_nil];omega
    ·rw[if_neg h64]at hq;cases hq
 rw[if_neg h3]at h;by_cases h4:signN (c::r)=0
 ·rw[if_pos h4]at h;cases h
 ·rw[if_neg h4]at h;injection h with e1 e2 e3 e4
  subst e1 e2 e3 e4;have hf:=zhc (c::r) (by simp);rw[if_neg h4]at hf;refine ⟨.inr (.inr (.inr ⟨rfl,rfl,List.mem_of_find?_eq_some hf⟩)),?_⟩;show ((c::r).take _).length≤_
  rw[List.length_take];omega
theorem zrb {t:Tok} (h:TokOk t) {c:UInt8} (hc:sepB c=true) (y:List UInt8):(∃ b r,sh t=b::r∧tokB b=true)∧tok1 (sh t++c::y)=.ok t.k t.t t.n (sh t).length:=by
 obtain ⟨sw,sd⟩:=zph hc;obtain ⟨k,tt,n,p⟩:=t;rcases h with ⟨hk,hn,⟨b,r,ht,hb⟩,hall,h16⟩|⟨hk,ht,h0,h1⟩|⟨hk,hn,h64,hp⟩|⟨hk,hn,hm⟩
 ·simp only at hk hn ht hall h16;subst hk hn ht;have e:sh ⟨1,b::r,0,p⟩=b::r:=rfl;rw[e];have hr:runN wordB (b::r++c::y)=(b::r).length:=by rw[zku sw,ziv hall]
  refine ⟨⟨b,r,rfl,?_⟩,?_⟩
  ·unfold letB at hb;rw[yL]at hb;unfold tokB wsB;simp only[Bool.and_eq_true,Bool.not_eq_true',yL,yK];refine ⟨?_,?_⟩
   ·rintro (rfl|rfl|rfl)<;>revert hb<;>decide
   ·rintro rfl;revert hb;decide
  ·rw[List.cons_append]at hr ⊢;rw[zbt,if_pos hb,hr,if_neg (by omega),show b::(r++c::y)=(b::r)++c::y from rfl,List.take_left' rfl]
 ·simp only at hk ht h0 h1;subst hk ht;obtain ⟨u,rfl⟩:∃ u:Nat,n=u:=⟨n.toNat,by omega⟩;have e:sh ⟨2,[],(u:Int),p⟩=Lib.decDigits u:=by
   show (if (2:Int)=2 then Lib.itoa (u:Int) else _)=_
   rw[if_pos rfl,Lib.itoa_nonneg]
  rw[e];obtain ⟨b,r,hd,hdb⟩:=Nu.dec_cons u;have hdb':digB b=true:=hdb;have hall:=zj7 u;have hv:=zou u (by omega);have hz:¬ (b=48∧(b::r).length>1):=by
   rintro ⟨rfl,hl⟩;by_cases hu:1≤u
   ·obtain ⟨c',r',e',hc'⟩:=zkZ u hu;rw[hd]at e';injection e' with e1 e2
    exact hc' e1.symm
   ·obtain rfl:u=0:=by omega
    have:Lib.decDigits 0=[48]:=by decide +kernel
    rw[this]at hd;injection hd with _ e2
    subst e2;simp at hl
  rw[hd]at hall hv ⊢;have hr:runN digB (b::r++c::y)=(b::r).length:=by rw[zku sd,ziv hall]
  have hlb:letB b=false:=by
   unfold digB at hdb';rw[yL]at hdb';unfold letB;rw[yK];omega
  refine ⟨⟨b,r,rfl,?_⟩,?_⟩
  ·unfold digB at hdb';rw[yL]at hdb';unfold tokB wsB;simp only[Bool.and_eq_true,Bool.not_eq_true',yL,yK];refine ⟨?_,?_⟩
   ·rintro (rfl|rfl|rfl)<;>revert hdb'<;>decide
   ·rintro rfl;revert hdb';decide
  ·rw[List.cons_append]at hr ⊢;rw[zbt,if_neg (by rw[hlb];decide),if_pos hdb',hr,if_neg hz,show b::(r++c::y)=(b::r)++c::y from rfl,List.take_left' rfl,hv,if_pos (by omega)]
 ·simp only at hk hn h64 hp;subst hk hn;have e:sh ⟨3,tt,0,p⟩=Va.quotedL tt:=by
   show (if (3:Int)=2 then _ else if (3:Int)=3 then Va.quotedL tt else _)=_
   rw[if_neg (by decide),if_pos rfl]
  rw[e];refine ⟨⟨34,Va.esc tt++[34],rfl,by decide⟩,?_⟩;have hq:qTok (Va.esc tt++[34]++c::y)=some (tt,(Va.esc tt).length+1+1):=by
   unfold qTok;rw[yM,show [34]++c::y=34::c::y from rfl,zjA tt (c::y) hp];simp only;rw[if_pos h64]
  unfold Va.quotedL;rw[show (34::Va.esc tt++[34])++c::y=34::(Va.esc tt++[34]++c::y) from rfl,zbt,if_neg (by decide),if_neg (by decide),if_pos rfl,hq];simp
 ·simp only at hk hn hm;subst hk hn;have e:sh ⟨4,tt,0,p⟩=tt:=by
   show (if (4:Int)=2 then _ else if (4:Int)=3 then _ else tt)=_
   rw[if_neg (by decide),if_neg (by decide)]
  rw[e];obtain ⟨a,l,rfl,f1,f2,f3,f4,f5⟩:=zfD tt hm;refine ⟨⟨a,l,rfl,f4⟩,?_⟩;have hs:=zmx hc a l y;rw[f5]at hs;rw[List.cons_append]at hs ⊢;rw[zbt,if_neg (by rw[f1];decide),if_neg (by rw[f2];decide),if_neg f3,hs,if_neg (by simp),show a::(l++c::y)=(a::l)++c::y from rfl,List.take_left' rfl]
theorem zkM:∀ (k:Nat) (l:List UInt8) (p:Nat),l.length≤k→(∀ t∈(lexL l p).1,TokOk t)∧((lexL l p).1.map fun t=>(sh t).length).sum≤l.length∧(lexL l p).1.length≤l.length:=by
 intro k;induction k with
 | zero =>
  intro l p hl;obtain rfl:=List.eq_nil_of_length_eq_zero (Nat.le_zero.1 hl);rw[zc4];simp
 | succ k ih =>
  intro l p hl;match l,hl with
  | [],_=>rw[zc4];simp
  | c::r,hl =>
   simp only[yB]at hl;rcases zdz c with hc|rfl|hc
   ·rw[zgX hc];obtain ⟨a1,a2,a3⟩:=ih r (p+1) (by omega);exact ⟨a1,by rw[yB];omega,by rw[yB];omega⟩
   ·rw[zgj];obtain ⟨a1,a2,a3⟩:=ih (r.drop (runN notNl r)) (p+1+runN notNl r) (by rw[List.length_drop];omega);rw[List.length_drop]at a2 a3;exact ⟨a1,by rw[yB];omega,by rw[yB];omega⟩
   ·cases h:tok1 (c::r) with
    | err e=>rw[zhQ hc h];simp
    | ok kk t n m =>
     obtain ⟨m1,m2⟩:=zct.1 kk t n m h;obtain ⟨o1,o2⟩:=zrc h p;rw[zgk hc h m1];obtain ⟨a1,a2,a3⟩:=ih ((c::r).drop m) (p+m) (by rw[List.length_drop,yB];omega);rw[List.length_drop,yB]at a2 a3;unfold pre;split
     ·refine ⟨fun u hu=>?_,?_,?_⟩
      ·simp only[List.singleton_append,List.mem_cons]at hu;rcases hu with rfl|hu
       ·exact o1
       ·exact a1 u hu
      ·simp only[List.singleton_append,List.map_cons,List.sum_cons,yB];omega
      ·simp only[List.singleton_append,yB];omega
     ·simp
open Va
theorem ziC (s p:ByteArray) (w:World):Calls Tryz.prog 138 #[.string s,.string p] w fun e w'=>e=.returned (.bool (Lib.hasPrefix s.data.toList p.data.toList))∧w=w' :=
 (Tryz.strings_HasPrefix s p w).mono fun _ _ ⟨h1,h2⟩=>⟨h1,h2.symm⟩
theorem zoh {p:List UInt8→Bool} {k:Nat} (hk:k<18):(sgL.drop k).find? p=if p (sgL.getD k [])=true then some (sgL.getD k []) else (sgL.drop (k+1)).find? p:=by
 have hl:k<sgL.length:=hk;rw[List.drop_eq_getElem_cons hl,List.find?_cons,show sgL.getD k []=sgL[k] by simp[List.getD,hl]]
 cases p sgL[k]<;>rfl
theorem zog {p:List UInt8→Bool}:(sgL.drop 18).find? p=none:=rfl
def zqI (k:Nat):Nat:=(sgL.getD k []).length
theorem zpg (k:Nat):(sgB k).size=zqI k:=zcQ _
theorem ziq:∀ k:Nat,k<18→zqI k≤2:=by decide
theorem zoD {w:World} (h:∀ j,j<18→w.cell? ⟨1,j,none⟩=some (.string (sgB j))) :
 w.cell? ⟨1,0,none⟩=some (.string ⟨#[33,61]⟩)∧w.cell? ⟨1,1,none⟩=some (.string ⟨#[60,61]⟩)∧w.cell? ⟨1,2,none⟩=some (.string ⟨#[62,61]⟩)∧w.cell? ⟨1,3,none⟩=some (.string ⟨#[46,46]⟩)∧w.cell? ⟨1,4,none⟩=some (.string ⟨#[40]⟩)∧w.cell? ⟨1,5,none⟩=some (.string ⟨#[41]⟩)∧w.cell? ⟨1,6,none⟩=some (.string ⟨#[44]⟩)∧w.cell? ⟨1,7,none⟩=some (.string ⟨#[59]⟩)∧w.cell? ⟨1,8,none⟩=some (.string ⟨#[58]⟩)∧w.cell? ⟨1,9,none⟩=some (.string ⟨#[124]⟩)∧w.cell? ⟨1,10,none⟩=some (.string ⟨#[43]⟩)∧w.cell? ⟨1,11,none⟩=some (.string ⟨#[45]⟩)∧w.cell? ⟨1,12,none⟩=some (.string ⟨#[42]⟩)∧w.cell? ⟨1,13,none⟩=some (.string ⟨#[47]⟩)∧w.cell? ⟨1,14,none⟩=some (.string ⟨#[37]⟩)∧w.cell? ⟨1,15,none⟩=some (.string ⟨#[61]⟩)∧w.cell? ⟨1,16,none⟩=some (.string ⟨#[60]⟩)∧w.cell? ⟨1,17,none⟩=some (.string ⟨#[62]⟩) :=
 ⟨h 0 (by decide),h 1 (by decide),h 2 (by decide),h 3 (by decide),h 4 (by decide),h 5 (by decide),h 6 (by decide),h 7 (by decide),h 8 (by decide),h 9 (by decide),h 10 (by decide),h 11 (by decide),h 12 (by decide),h 13 (by decide),h 14 (by decide),h 15 (by decide),h 16 (by decide),h 17 (by decide)⟩
theorem znh (s:ByteArray) (a:Nat) (c:UInt8) (w:World) (ha:a<s.size) (hs:s.size≤20000) (hc:s.data.toList[a]?=some c) (h1:letB c=false) (h2:digB c=false) (h3:c≠34) (X:List UInt8) (hf:sgL.find? (fun x=>Lib.hasPrefix (s.data.toList.drop a) x)=some X) (hE:EnvL w) :
 Calls Tryz.prog 103 #[.string s,.int .i64 (a:Int)] w fun e w'=>e=.returned (nextV a (.ok 4 X 0 X.length))∧Below w.heap.size w w':=by
 have hat:=str_at ha hc;have HL:=hid (fun W=>by have:=zbn c W;rw[h1]at this;exact this);have HD:=hid (fun W=>by have:=zb1 c W;rw[h2]at this;exact this);have t34:((c.toNat:Int) == 34)=false:=zcE (n:=34) (by decide) h3;have HE:=hid hE;have hpf:=fun x W=>ziC (s.extract a s.size) x W
 have hde:(s.extract a s.size).data.toList=s.data.toList.drop a:=by
  rw[Lib.extract_data,List.take_of_length_le];rw[List.length_drop,← zau];omega
 rw[hde]at hpf;have HPF:=hid hpf;have HF:=hid hf;obtain ⟨c0,c1,c2,c3,c4,c5,c6,c7,c8,c9,c10,c11,c12,c13,c14,c15,c16,c17⟩:=zoD (w:=w.alloc (.cells #[.int .i64 0,.string ⟨#[]⟩,.int .i64 0,.int .i64 (a:Int)] 169)) (HE.out.below (by go_grown)).sg;clear hpf hde hf hc h1 h2 h3 hE;go_enter func103,ntmps103
 go_wp2_with (first|(go_at_call 132;refine (HL.out _).mono ?_;rintro e w' ⟨rfl,rfl⟩)|(go_at_call 134;refine (HD.out _).mono ?_;rintro e w' ⟨rfl,rfl⟩)|(go_at_call 130;refine (HRUN.out _).mono ?_;rintro e w' ⟨rfl,rfl⟩)|(go_at_call 136;refine (HQ.out _).mono ?_;rintro e w' ⟨rfl,rfl⟩))
 clear c0 c1 c2 c3 c4 c5 c6 c7 c8 c9 c10 c11 c12 c13 c14 c15 c16 c17;generalize hW0:w.alloc (.cells #[.int .i64 0,.string ⟨#[]⟩,.int .i64 0,.int .i64 (a:Int)] 169)=W0;have V:=Box.new w [.int .i64 0,.string ⟨#[]⟩,.int .i64 0,.int .i64 (a:Int)] 169;have bw:Below w.heap.size w (w.alloc (.cells #[.int .i64 0,.string ⟨#[]⟩,.int .i64 0,.int .i64 (a:Int)] 169)):=by go_grown
 rw[hW0]at V bw;clear hW0;go_loop [20] (fun i=>∃ k:Nat,k≤18∧i=.int .i64 k∧Hid ((sgL.drop k).find? (fun x=>Lib.hasPrefix (s.data.toList.drop a) x)=some X)) (fun i=>18-(intOf i).toNat)
 case atStart=>exact ⟨0,by omega,rfl,HF⟩
 case round =>
  clear HF;obtain ⟨k,hk,rfl,HF⟩:=hrel;by_cases hlt:k<18
  ·have hix:=sgAt k hlt;have hfk:=zoh (p:=fun x=>Lib.hasPrefix (s.data.toList.drop a) x) hlt;have hb2:=ziq k hlt;have hq:=HPF.out (sgB k);rw[zkq]at hq;by_cases hp:Lib.hasPrefix (s.data.toList.drop a) (sgL.getD k [])=true
   ·rw[if_pos hp]at hfk;have HX:=hid (hfk.symm.trans HF.out);rw[hp]at hq;have HQ2:=hid hq;clear hq hp hfk HF;obtain ⟨B,hB⟩:∃ B:ByteArray,sgB k=B:=⟨_,rfl⟩;have hBs:B.size≤2:=by rw[← hB,zpg];exact hb2
    have hBX:(⟨X.toArray⟩:ByteArray)=B∧B.size=X.length:=by
     have e:=HX.out;injection e with e
     rw[← hB,← e];exact ⟨rfl,zcQ _⟩
    have HNV:Hid (nextV a (.ok 4 X 0 X.length)=.tuple #[.agg #[.int .i64 4,.string B,.int .i64 0,.int .i64 (a:Int)],.int .i64 ((a:Int)+(B.size:Int)),.int .i64 0]):=by
     show nextV a (.ok 4 X 0 X.length)=_
     rw[← hBX.1,zcQ];show Value.tuple #[.agg #[.int .i64 4,.string ⟨X.toArray⟩,.int .i64 0,.int .i64 (a:Int)],.int .i64 ((a+X.length:Nat):Int),.int .i64 0]=_
     rw[show ((a+X.length:Nat):Int)=(a:Int)+(X.length:Int) by omega]
    rw[hB]at hix HQ2;have HIX:=hid hB;clear hB hBX hb2;obtain ⟨v0,v1,v2,v3,g0,g1,g2,g3⟩:=four V;have V':Box ((W0.setCell ⟨w.heap.size,0,none⟩ (.int .i64 4)).setCell ⟨w.heap.size,1,none⟩ (.string B)) w.heap.size [.int .i64 4,.string B,.int .i64 0,.int .i64 (a:Int)]:=(V.put 0 (.int .i64 4)).put 1 (.string B);have bw':=bput2 bw (yG _) 0 1 (.int .i64 4) (.string B);have V'':=put4 V' (.int .i64 4) (.string B) (.int .i64 0) (.int .i64 (a:Int));have bw'':=bput4 bw' (yG _) (.int .i64 4) (.string B) (.int .i64 0) (.int .i64 (a:Int));go_wp2_with (go_at_call 138;refine (HQ2.out _).mono ?_;rintro e w' ⟨rfl,rfl⟩)
    clear v0 v1 v2 v3 g0 g1 g2 g3;generalize ((((((W0.setCell ⟨w.heap.size,0,none⟩ (.int .i64 4)).setCell ⟨w.heap.size,1,none⟩ (.string B)).setCell ⟨w.heap.size,0,none⟩ (.int .i64 4)).setCell ⟨w.heap.size,1,none⟩ (.string B)).setCell ⟨w.heap.size,2,none⟩ (.int .i64 0)).setCell ⟨w.heap.size,3,none⟩ (.int .i64 (a:Int)))=W2 at V'' bw'' ⊢;obtain ⟨v0,v1,v2,v3,g0,g1,g2,g3⟩:=four V'';try simp only[Exit.inBlock,Exit.then]
    refine bodyPost_ret (by simp[results,results103,go_sem,v0,v1,v2,v3];try rfl) rfl ?_;exact ⟨by rw[HNV.out],bw''⟩
   ·rw[if_neg hp]at hfk;have HX:=hid (hfk.symm.trans HF.out);rw[Bool.not_eq_true _ |>.mp hp]at hq;have HQ2:=hid hq;clear hq hp hfk HF;go_wp2_with (go_at_call 138;refine (HQ2.out _).mono ?_;rintro e w' ⟨rfl,rfl⟩)
    go_round
    case rel=>exact ⟨k+1,by omega,by go_num,HX⟩
    case measure=>simp[intOf];omega
  ·obtain rfl:k=18:=by omega
   have:=HF.out;rw[zog]at this
   cases this
theorem znk (s:ByteArray) (a:Nat) (c:UInt8) (w:World) (ha:a<s.size) (hs:s.size≤20000) (hc:s.data.toList[a]?=some c) (h1:letB c=false) (h2:digB c=false) (h3:c≠34) (hf:sgL.find? (fun x=>Lib.hasPrefix (s.data.toList.drop a) x)=none) (hE:EnvL w) :
 Calls Tryz.prog 103 #[.string s,.int .i64 (a:Int)] w fun e w'=>e=.returned (nextV a (.err 50))∧Below w.heap.size w w':=by
 have hat:=str_at ha hc;have HL:=hid (fun W=>by have:=zbn c W;rw[h1]at this;exact this);have HD:=hid (fun W=>by have:=zb1 c W;rw[h2]at this;exact this);have t34:((c.toNat:Int) == 34)=false:=zcE (n:=34) (by decide) h3;have HE:=hid hE;have hpf:=fun x W=>ziC (s.extract a s.size) x W
 have hde:(s.extract a s.size).data.toList=s.data.toList.drop a:=by
  rw[Lib.extract_data,List.take_of_length_le];rw[List.length_drop,← zau];omega
 rw[hde]at hpf;have HPF:=hid hpf;have HF:=hid hf;obtain ⟨c0,c1,c2,c3,c4,c5,c6,c7,c8,c9,c10,c11,c12,c13,c14,c15,c16,c17⟩:=zoD (w:=w.alloc (.cells #[.int .i64 0,.string ⟨#[]⟩,.int .i64 0,.int .i64 (a:Int)] 169)) (HE.out.below (by go_grown)).sg;clear hpf hde hf hc h1 h2 h3 hE;go_enter func103,ntmps103
 go_wp2_with (first|(go_at_call 132;refine (HL.out _).mono ?_;rintro e w' ⟨rfl,rfl⟩)|(go_at_call 134;refine (HD.out _).mono ?_;rintro e w' ⟨rfl,rfl⟩)|(go_at_call 130;refine (HRUN.out _).mono ?_;rintro e w' ⟨rfl,rfl⟩)|(go_at_call 136;refine (HQ.out _).mono ?_;rintro e w' ⟨rfl,rfl⟩))
 clear c0 c1 c2 c3 c4 c5 c6 c7 c8 c9 c10 c11 c12 c13 c14 c15 c16 c17;generalize hW0:w.alloc (.cells #[.int .i64 0,.string ⟨#[]⟩,.int .i64 0,.int .i64 (a:Int)] 169)=W0;have V:=Box.new w [.int .i64 0,.string ⟨#[]⟩,.int .i64 0,.int .i64 (a:Int)] 169;have bw:Below w.heap.size w (w.alloc (.cells #[.int .i64 0,.string ⟨#[]⟩,.int .i64 0,.int .i64 (a:Int)] 169)):=by go_grown
 rw[hW0]at V bw;clear hW0;go_loop [20] (fun i=>∃ k:Nat,k≤18∧i=.int .i64 k∧Hid ((sgL.drop k).find? (fun x=>Lib.hasPrefix (s.data.toList.drop a) x)=none)) (fun i=>18-(intOf i).toNat)
 case atStart=>exact ⟨0,by omega,rfl,HF⟩
 case round =>
  clear HF;obtain ⟨k,hk,rfl,HF⟩:=hrel;by_cases hlt:k<18
  ·have hix:=sgAt k hlt;have hfk:=zoh (p:=fun x=>Lib.hasPrefix (s.data.toList.drop a) x) hlt;have hb2:=ziq k hlt;have hq:=HPF.out (sgB k);rw[zkq]at hq;by_cases hp:Lib.hasPrefix (s.data.toList.drop a) (sgL.getD k [])=true
   ·rw[if_pos hp]at hfk;have HX:=hid (hfk.symm.trans HF.out);rw[hp]at hq;have HQ2:=hid hq;clear hq hp hfk HF;have:=HX.out
    cases this
   ·rw[if_neg hp]at hfk;have HX:=hid (hfk.symm.trans HF.out);rw[Bool.not_eq_true _ |>.mp hp]at hq;have HQ2:=hid hq;clear hq hp hfk HF;go_wp2_with (go_at_call 138;refine (HQ2.out _).mono ?_;rintro e w' ⟨rfl,rfl⟩)
    go_round
    case rel=>exact ⟨k+1,by omega,by go_num,HX⟩
    case measure=>simp[intOf];omega
  ·obtain rfl:k=18:=by omega
   obtain ⟨v0,v1,v2,v3,g0,g1,g2,g3⟩:=four V;have V':=put4 V (.int .i64 0) (.string ⟨#[]⟩) (.int .i64 0) (.int .i64 (a:Int));have bw':=bput4 bw (yG _) (.int .i64 0) (.string ⟨#[]⟩) (.int .i64 0) (.int .i64 (a:Int));go_wp2_with (first|(go_at_call 132;refine (HL.out _).mono ?_;rintro e w' ⟨rfl,rfl⟩)|(go_at_call 134;refine (HD.out _).mono ?_;rintro e w' ⟨rfl,rfl⟩)|(go_at_call 130;refine (HRUN.out _).mono ?_;rintro e w' ⟨rfl,rfl⟩)|(go_at_call 136;refine (HQ.out _).mono ?_;rintro e w' ⟨rfl,rfl⟩))
   clear v0 v1 v2 v3 g0 g1 g2 g3;generalize ((((W0.setCell ⟨w.heap.size,0,none⟩ (.int .i64 0)).setCell ⟨w.heap.size,1,none⟩ (.string ⟨#[]⟩)).setCell ⟨w.heap.size,2,none⟩ (.int .i64 0)).setCell ⟨w.heap.size,3,none⟩ (.int .i64 (a:Int)))=W2 at V' bw' ⊢;obtain ⟨v0,v1,v2,v3,g0,g1,g2,g3⟩:=four V';try simp only[Exit.inBlock,Exit.then]
   refine bodyPost_ret (by simp[results,results103,go_sem,v0,v1,v2,v3];try rfl) rfl ?_;first|exact ⟨rfl,bw'⟩|exact ⟨rfl,bw'.drew⟩
theorem zrS (s:ByteArray) (a:Nat) (c:UInt8) (w:World) (ha:a<s.size) (hs:s.size≤20000) (hc:s.data.toList[a]?=some c) (hE:EnvL w) :
 Calls Tryz.prog 103 #[.string s,.int .i64 (a:Int)] w fun e w'=>e=.returned (nextV a (tok1 (s.data.toList.drop a)))∧Below w.heap.size w w':=by
 have hd:=zcA _ a c hc;obtain ⟨l,hl⟩:∃ l,s.data.toList.drop a=l:=⟨_,rfl⟩;have ht:tok1 (s.data.toList.drop a)=tok1 (c::s.data.toList.drop (a+1)):=by rw[hd]
 by_cases h1:letB c=true
 ·by_cases h3:runN wordB (s.data.toList.drop a)≤16
  ·have e:tok1 (s.data.toList.drop a)=.ok 1 ((s.data.toList.drop a).take (runN wordB (s.data.toList.drop a))) 0 (runN wordB (s.data.toList.drop a)):=by
    rw[hd]at h3 ⊢;show (if letB c=true then _ else _)=_
    rw[if_pos h1,if_neg (by omega)]
   rw[e];exact znf s a c w ha hs hc h1 h3
  ·have e:tok1 (s.data.toList.drop a)=.err 50:=by
    rw[hd]at h3 ⊢;show (if letB c=true then _ else _)=_
    rw[if_pos h1,if_pos (by omega)]
   rw[e];exact ziJ s a c w ha hs hc h1 (by omega)
 have h1':letB c=false:=by simpa using h1
 by_cases h2:digB c=true
 ·by_cases h0:c=48∧1<runN digB (s.data.toList.drop a)
  ·have e:tok1 (s.data.toList.drop a)=.err 50:=by
    have h0':=h0;rw[hd]at h0' ⊢;show (if letB c=true then _ else if digB c=true then _ else _)=_
    rw[if_neg h1,if_pos h2,if_pos h0']
   rw[e];exact zne s a c w ha hs hc h1' h2 h0.1 h0.2
  ·by_cases h3:decV 0 ((s.data.toList.drop a).take (runN digB (s.data.toList.drop a)))≤9223372036854775807
   ·have e:tok1 (s.data.toList.drop a)=.ok 2 [] (decV 0 ((s.data.toList.drop a).take (runN digB (s.data.toList.drop a))):Nat) (runN digB (s.data.toList.drop a)):=by
     have h0':=h0;rw[hd]at h0' h3 ⊢;show (if letB c=true then _ else if digB c=true then _ else _)=_
     rw[if_neg h1,if_pos h2,if_neg h0',if_pos h3]
    rw[e];exact zpL s a c w ha hs hc h1' h2 h0 h3 hE
   ·have e:tok1 (s.data.toList.drop a)=.err 10:=by
     have h0':=h0;rw[hd]at h0' h3 ⊢;show (if letB c=true then _ else if digB c=true then _ else _)=_
     rw[if_neg h1,if_pos h2,if_neg h0',if_neg h3]
    rw[e];exact zni s a c w ha hs hc h1' h2 h0 h3 hE
 have h2':digB c=false:=by simpa using h2
 by_cases h34:c=34
 ·have hq:tok1 (s.data.toList.drop a)=match qTok (s.data.toList.drop (a+1)) with|some (t,n)=>.ok 3 t 0 n|none=>.err 50:=by
   rw[hd];show (if letB c=true then _ else if digB c=true then _ else if c=34 then _ else _)=_
   rw[if_neg h1,if_neg h2,if_pos h34]
   cases qTok (s.data.toList.drop (a+1))<;>rfl
  cases h3:scanQ (s.data.toList.drop (a+1)) with
  | none =>
   rw[zmW h3]at hq;rw[hq];exact znj s a c w ha hs hc h34 h3
  | some n =>
   rcases zlv h3 with ⟨t,h4,h5⟩|⟨h4,h5⟩
   ·rw[h4]at hq;rw[hq];exact zng s a c w ha hs hc h34 n h3 t h5 hE
   ·rw[h4]at hq;rw[hq];exact zpM s a c w ha hs hc h34 n h3 h5 hE
 have hf:=zhc (s.data.toList.drop a) (by rw[hd];simp);have hq:tok1 (s.data.toList.drop a)=if signN (s.data.toList.drop a)=0 then .err 50 else .ok 4 ((s.data.toList.drop a).take (signN (s.data.toList.drop a))) 0 (signN (s.data.toList.drop a)):=by
  rw[hd];show (if letB c=true then _ else if digB c=true then _ else if c=34 then _ else _)=_
  rw[if_neg h1,if_neg h2,if_neg h34]
 by_cases h0:signN (s.data.toList.drop a)=0
 ·rw[if_pos h0]at hf hq;rw[hq];exact znk s a c w ha hs hc h1' h2' h34 hf hE
 ·rw[if_neg h0]at hf hq;have hl2:((s.data.toList.drop a).take (signN (s.data.toList.drop a))).length=signN (s.data.toList.drop a):=by
   rw[List.length_take];have:=(zpe (s.data.toList.drop a)).1;omega
  have:=znh s a c w ha hs hc h1' h2' h34 _ hf hE;rw[hl2]at this;rw[hq];exact this
def zkg (c:UInt8):Prop:=tokB c=true
set_option maxRecDepth 100000 in
theorem zr0 (s:ByteArray) (w:World) (hs:s.size≤20000) (hE:EnvL w) :
 Calls Tryz.prog 77 #[.string s] w (LexTo (lexS s.data.toList) 169 w):=by
 have HE:=hid hE;clear hE;by_cases h16:16384<s.size
 ·have HX:Hid (lexS s.data.toList=([],0,31)):=by
   show lexS s.data.toList=_
   unfold lexS;rw[if_pos (by rw[← zau];exact h16)]
  go_enter func77,ntmps77
  go_wp2_with fail
  refine bodyPost_ret (v:=.tuple #[.slice none 0 0,.int .i64 0,.int .i64 31]) (by simp[results,results77,go_sem]) rfl ?_;rw[HX.out];exact ⟨_,rfl,World.ownsRow_nil _ _ _ _,Below.refl _ _⟩
 have HX:Hid (lexS s.data.toList=lexL s.data.toList 0):=by
  show lexS s.data.toList=_
  unfold lexS;rw[if_neg (by rw[← zau];exact h16)]
 obtain ⟨i0,hi,hz0,hz1,hz2⟩:=info_parts zsa;have hls:s.data.toList.length=s.size:=(zau s).symm;have hg0:=zqS s.data.toList 0 (by omega);rw[hls]at hg0;have hG0:=fun W=>zn9 s 0 W (by omega) (by omega)
 rw[show ((0:Nat):Int)=0 from rfl]at hG0;have HG0:=hid hG0;clear hG0;have HST:Hid (lexL s.data.toList 0=pre [] (lexL (s.data.toList.drop (0+gapN (s.data.toList.drop 0))) (0+gapN (s.data.toList.drop 0)))):=by
  have:=zlj s.data.toList;rw[Nat.zero_add]at this;rw[List.drop_zero,Nat.zero_add];exact this
 have HTK:Hid (∀ c,s.data.toList[0+gapN (s.data.toList.drop 0)]?=some c→zkg c):=fun c hc=>zkW hc
 obtain ⟨k0,hk0⟩:∃ k0,0+gapN (s.data.toList.drop 0)=k0:=⟨_,rfl⟩;rw[hk0]at hg0 HG0 HST HTK;clear hk0;have HLS:=hid hls;clear hls;go_enter func77,ntmps77
 go_wp2_with (go_at_call 102;refine (HG0.out _).mono ?_;rintro e w' ⟨rfl,rfl⟩)
 go_loopw [2,3] (fun v i wr=>∃ (k:Nat) (acc:List Tok),k≤s.size∧i=.int .i64 k∧wr.ownsRow w.heap.size 169 4 v acc.length (zdO acc)∧Below w.heap.size w wr∧Hid (lexL s.data.toList 0=pre acc (lexL (s.data.toList.drop k) k))∧Hid (∀ c,s.data.toList[k]?=some c→zkg c)∧acc.length≤k) (fun _ i _=>s.size-(intOf i).toNat)
 case atStart=>exact ⟨k0,[],hg0,rfl,World.ownsRow_nil _ _ _ _,Below.refl _ _,HST,HTK,yS _⟩
 case round =>
  clear HST HTK hg0 HG0;obtain ⟨k,acc,hk,rfl,hown,hbel,HST,HTK,hacc⟩:=hrel;have HOWN:=hid hown;clear hown;by_cases hlt:k<s.size
  ·obtain ⟨c,hc⟩:=bat s k hlt;have HN:=hid (fun W hW=>zrS s k c W hlt hs hc hW);have HC:=hid hc
   cases ht:tok1 (s.data.toList.drop k) with
   | err er =>
    have HSE:=hid (zpb hc (HTK.out c hc) ht HST.out);have her:((er:Int) != 0)=true:=by
     have:=HSE.out.2;simpa using this
    have her2:((er:Int) == 0)=false:=by
     have:=HSE.out.2;simpa using this
    rw[ht]at HN;unfold nextV at HN;dsimp only at HN;clear ht hc HST HTK;go_wp2_with (go_at_call 103;refine (HN.out _ (HE.out.below hbel)).mono ?_;rintro e w1 ⟨rfl,hb⟩)
    try simp only[Exit.inBlock,Exit.then]
    refine bodyPost_ret (v:=.tuple #[.slice none 0 0,.int .i64 (k:Int),.int .i64 er]) (by simp[results,results77,go_sem]) rfl ?_;rw[HX.out,HSE.out.1];exact ⟨_,rfl,World.ownsRow_nil _ _ _ _,(two hbel hb).alloc (by have:=hbel.size;have:=hb.size;omega) _⟩
   | ok kk t n m =>
    have HSO:=hid (zro hc (HTK.out c hc) ht HST.out);have hmb:=zrd hc ht;rw[HLS.out]at hmb;obtain ⟨hm1,hm2⟩:=hmb;have hgb:=zqS s.data.toList (k+m) (by rw[HLS.out];exact hm2);rw[HLS.out]at hgb;have HG:=hid (fun W=>zn9 s (k+m) W hm2 (by omega));have HTK2:Hid (∀ c,s.data.toList[k+m+gapN (s.data.toList.drop (k+m))]?=some c→zkg c):=fun c hc=>zkW hc
    have hle:k+m≤k+m+gapN (s.data.toList.drop (k+m)):=by omega
    obtain ⟨z,hz⟩:∃ z,k+m=z:=⟨_,rfl⟩;rw[ht]at HN;unfold nextV at HN;dsimp only at HN;rw[hz]at HSO hm2 hgb HG HTK2 hle HN;obtain ⟨k',hk'⟩:∃ k',z+gapN (s.data.toList.drop z)=k':=⟨_,rfl⟩;rw[hk']at HSO hgb HG HTK2 hle;have hkz:k<z:=by omega
    obtain ⟨X,hX⟩:∃ X:ByteArray,(⟨t.toArray⟩:ByteArray)=X:=⟨_,rfl⟩;rw[hX]at HN;have HXX:=hid hX;have HTC:Hid ([Value.int .i64 kk,.string X,.int .i64 n,.int .i64 (k:Int)]=zcO ⟨kk,t,n,k⟩):=by
     show [Value.int .i64 kk,.string X,.int .i64 n,.int .i64 (k:Int)]=_
     rw[← hX];rfl
    clear ht hc HST HTK hz hk' hX
    go_wp2_with (first|(go_at_call 103;refine (HN.out _ (HE.out.below hbel)).mono ?_;rintro e w1 ⟨rfl,hb⟩;have hbw:=(two hbel hb).alloc (yH hbel.size hb.size) (.cells #[.int .i64 kk,.string X,.int .i64 n,.int .i64 (k:Int)] 169);have HO1:=hid ((ziI HOWN.out hb (yG _)).alloc (.cells #[.int .i64 kk,.string X,.int .i64 n,.int .i64 (k:Int)] 169));have hz1s:=hbw.size;clear hb)|(at_builtin;refine zst rfl (.tmp 31) (.tmp 33) 132 169 rfl underlying132 hi hz0 hz1 hz2 w.heap.size u2 acc ⟨kk,t,n,k⟩ _ _ _ _ HTC.out ?_ ?_ ?_ ?_ ?_ ?_;rfl;exact HO1.out;(show Value.slice (some ⟨w1.heap.size+1,0,none⟩) 1 1=_;rw[World.size_alloc]);omega;exact hz1s;intro v1 w2 hown1 hg1)|(go_at_call 102;refine (HG.out _).mono ?_;rintro e w' ⟨rfl,rfl⟩))
    go_roundw
    case rel=>exact ⟨k',acc++[⟨kk,t,n,k⟩],hgb,rfl,hown1,zgr hbw HO1.out hg1 (yG _) hz1s,HSO,HTK2,by rw[yA];simp only[List.length_singleton];omega⟩
    case measure=>simp[intOf];omega
  ·have HEND:=hid (zpc (by rw[HLS.out];omega) HST.out);clear HST HTK;go_wp2_with fail
   try simp only[Exit.inBlock,Exit.then]
   refine bodyPost_ret (by simp[results,results77,go_sem];try rfl) rfl ?_;rw[HX.out,HEND.out];exact ⟨_,rfl,HOWN.out,hbel⟩
