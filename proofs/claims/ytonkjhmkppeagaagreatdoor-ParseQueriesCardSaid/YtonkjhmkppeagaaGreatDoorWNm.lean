/- Walks: names (schema.Name), words (the law's word and words). -/
import Derived.Test.YtonkjhmkppeagaaGreatDoorWEq
set_option maxRecDepth 100000
set_option maxHeartbeats 1600000
set_option linter.unusedVariables false
set_option linter.unusedSimpArgs false
namespace Go.Proofs.YtonkjhmkppeagaaGreatDoor.Nm
open Go.Proofs.Tryz
open Go.Lib (hid)
open Go.RowKit Go Ba Va
def letterB (b:UInt8):Bool:=decide (97≤(b.toNat:Int)∧(b.toNat:Int)≤122)
def innerB (b:UInt8):Bool:=letterB b || decide ((b.toNat:Int)=95∨(48≤(b.toNat:Int)∧(b.toNat:Int)≤57))
def nameL (l:List UInt8):Bool:=(match l with|[]=>false|b::_=>letterB b) && l.all innerB && decide (l.length≤16)
def nameB (s:ByteArray):Bool:=nameL s.data.toList
theorem zsj {s:ByteArray} (h:s.size≤0):s.toList.isEmpty=true:=(zdv s).2 (by
 have:s.data=#[]:=Array.eq_empty_of_size_eq_zero (by show s.size=0;omega)
 cases s;simp only at this;subst this;rfl)
theorem zbn (c:UInt8) (w:World):Calls Tryz.prog 85 #[.int .u8 c.toNat] w fun e w'=>e=.returned (.bool (letterB c))∧w=w':=by
 unfold letterB;by_cases h1:97≤(c.toNat:Int)
 ·by_cases h2:(c.toNat:Int)≤122
  ·rw[decide_eq_true (show 97≤(c.toNat:Int)∧(c.toNat:Int)≤122 from ⟨h1,h2⟩)];go_enter func85,ntmps85
   go_wp2_with fail
   go_returns
   exact ⟨rfl,rfl⟩
  ·rw[yN (show ¬ (97≤(c.toNat:Int)∧(c.toNat:Int)≤122) from fun h=>h2 h.2)];go_enter func85,ntmps85
   go_wp2_with fail
   go_returns
   exact ⟨rfl,rfl⟩
 ·rw[yN (show ¬ (97≤(c.toNat:Int)∧(c.toNat:Int)≤122) from fun h=>h1 h.1)];go_enter func85,ntmps85
  go_wp2_with fail
  go_returns
  exact ⟨rfl,rfl⟩
theorem zeN {c:UInt8} {r:Bool} (h:letterB c=r) (w:World):Calls Tryz.prog 85 #[.int .u8 c.toNat] w fun e w'=>e=.returned (.bool r)∧w=w':=by
 rw[← h];exact zbn c w
theorem znT (c:UInt8) (w:World):Calls Tryz.prog 86 #[.int .u8 c.toNat] w fun e w'=>e=.returned (.bool (innerB c))∧w=w':=by
 cases hl:letterB c with
 | true =>
  have hr:innerB c=true:=by unfold innerB;rw[hl];rfl
  have HL:=hid (zeN hl);rw[hr];clear hl hr;go_enter func86,ntmps86
  go_wp2_with (go_at_call 85;refine (HL.out _).mono ?_;rintro e w' ⟨rfl,rfl⟩)
  go_returns
  exact ⟨rfl,rfl⟩
 | false =>
  have HL:=hid (zeN hl);by_cases h0:(c.toNat:Int)=95
  ·have hr:innerB c=true:=by unfold innerB;rw[hl,decide_eq_true (.inl h0)];rfl
   rw[hr];have d0:((c.toNat:Int) == (95:Int))=true:=by simpa using h0
   clear hl hr h0;go_enter func86,ntmps86
   go_wp2_with (go_at_call 85;refine (HL.out _).mono ?_;rintro e w' ⟨rfl,rfl⟩)
   go_returns
   exact ⟨rfl,rfl⟩
  ·have d0:((c.toNat:Int) == (95:Int))=false:=by simpa using h0
   by_cases h1:48≤(c.toNat:Int)
   ·by_cases h2:(c.toNat:Int)≤57
    ·have hr:innerB c=true:=by unfold innerB;rw[hl,decide_eq_true (.inr ⟨h1,h2⟩)];rfl
     rw[hr];clear hl hr h0;go_enter func86,ntmps86
     go_wp2_with (go_at_call 85;refine (HL.out _).mono ?_;rintro e w' ⟨rfl,rfl⟩)
     go_returns
     exact ⟨rfl,rfl⟩
    ·have hr:innerB c=false:=by unfold innerB;rw[hl,yN (by omega)];rfl
     rw[hr];clear hl hr h0;go_enter func86,ntmps86
     go_wp2_with (go_at_call 85;refine (HL.out _).mono ?_;rintro e w' ⟨rfl,rfl⟩)
     go_returns
     exact ⟨zaT (yN (by omega)),rfl⟩
   ·have hr:innerB c=false:=by unfold innerB;rw[hl,yN (by omega)];rfl
    rw[hr];clear hl hr h0;go_enter func86,ntmps86
    go_wp2_with (go_at_call 85;refine (HL.out _).mono ?_;rintro e w' ⟨rfl,rfl⟩)
    go_returns
    exact ⟨rfl,rfl⟩
theorem zkV {c:UInt8} {r:Bool} (h:innerB c=r) (w:World):Calls Tryz.prog 86 #[.int .u8 c.toNat] w fun e w'=>e=.returned (.bool r)∧w=w':=by
 rw[← h];exact znT c w
theorem znl {s:ByteArray} (h:16<s.size):nameB s=false:=by
 unfold nameB nameL;rw[yN (by rw[← zau];omega),Bool.and_false]
theorem zlH {s:ByteArray} {b:UInt8} (h:s.data.toList[0]?=some b) (hb:letterB b=false):nameB s=false:=by
 unfold nameB nameL
 cases e:s.data.toList with
 | nil=>rw[e]at h;cases h
 | cons x l =>
  rw[e]at h;simp only[List.getElem?_cons_zero,Option.some.injEq]at h;subst h;simp[hb]
theorem zlG {s:ByteArray} {b:UInt8} (h:b∈s.data.toList) (hb:innerB b=false):nameB s=false:=by
 unfold nameB nameL;have:s.data.toList.all innerB=false:=by
  rw[List.all_eq_false];exact ⟨b,h,by simp[hb]⟩
 rw[this,Bool.and_false,Bool.false_and]
theorem zpN {s:ByteArray} {b:UInt8} (h:s.data.toList[0]?=some b) (hb:letterB b=true) (ha:(s.data.toList.take s.size).all innerB=true) (hl:s.size≤16):nameB s=true:=by
 unfold nameB nameL;rw[zau,List.take_length]at ha;rw[ha,decide_eq_true (by rw[← zau];exact hl)]
 cases e:s.data.toList with
 | nil=>rw[e]at h;cases h
 | cons x l =>
  rw[e]at h;simp only[List.getElem?_cons_zero,Option.some.injEq]at h;subst h;simp[hb]
theorem zrn {s:ByteArray} {b:UInt8} (hj:0<s.size) (h:s.data.toList[0]?=some b):s[0]=b:=str_at hj h
theorem name_any (s:ByteArray) (w:World) (hs:s.size≤9223372036854775807) :
 Calls Tryz.prog 51 #[.string s] w fun e w'=>e=.returned (.bool (nameB s))∧Below w.heap.size w w':=by
 by_cases h0:s=⟨#[]⟩
 ·subst h0;go_enter func51,ntmps51
  go_wp2_with fail
  go_ret
  exact ⟨rfl,Below.refl _ _⟩
 have hn:(s.toList == [])=false:=by
  cases e:(s.toList == []) with
  | false=>rfl
  | true=>exact absurd ((zdv s).1 (by rw[List.isEmpty_iff];simpa using e)) h0
 have hn2:s.toList.isEmpty=false:=by
  cases e:s.toList.isEmpty with
  | false=>rfl
  | true=>exact absurd ((zdv s).1 e) h0
 have hpos:0<s.size:=by
  rcases Nat.eq_zero_or_pos s.size with h|h
  ·exact absurd ((zdv s).1 (zsj (by omega))) h0
  ·exact h
 clear h0;by_cases h16:16<s.size
 ·rw[znl h16];go_enter func51,ntmps51
  go_wp2_with fail
  go_ret
  exact ⟨rfl,Below.refl _ _⟩
 obtain ⟨b,hb⟩:=bat s 0 hpos;have hz0:=zrn hpos hb;have HB0:=hid hb;clear hb
 cases hl:letterB b with
 | false =>
  rw[zlH HB0.out hl];have HL:=hid (zeN hl);clear hl;go_enter func51,ntmps51
  go_wp2_with (go_at_call 85;refine (HL.out _).mono ?_;rintro e w' ⟨rfl,rfl⟩)
  go_ret
  exact ⟨rfl,Below.refl _ _⟩
 | true =>
  have HLT:=hid hl;have HL:=hid (zeN hl);clear hl;have hcv:=fun w=>Lib.run_convert_string_bytes (P:=Tryz.prog) w 9 122 5 s underlying9 underlying122 underlying5
  have hcell:=zeu (w:=w) 5 s;have hbw:=Lib.bytesWorld_below w 5 s;go_enter func51,ntmps51
  go_wp2_with (go_at_call 85;refine (HL.out _).mono ?_;rintro e w' ⟨rfl,rfl⟩)
  generalize Lib.bytesWorld w 5 s=w1 at *
  clear hcv;have HC:=hid hcell;have HB:=hid hbw;clear hcell hbw;go_loop [21] (fun i=>∃ k:Nat,k≤s.size∧i=.int .i64 k∧(s.data.toList.take k).all innerB=true) (fun i=>s.size-(intOf i).toNat)
  case atStart=>exact ⟨0,by omega,rfl,by simp⟩
  case round =>
   obtain ⟨k,hk,rfl,hall⟩:=hrel;have HA:=hid hall;clear hall;by_cases hlt:k<s.size
   ·obtain ⟨c,hck⟩:=bat s k hlt;have hc:=HC.out k c hck;have HCK:=hid hck;clear hck
    cases hi:innerB c with
    | false =>
     have HI:=hid (zkV hi);have HN:=hid (zlG (yP HCK.out) hi);clear hi;go_wp2_with (go_at_call 86;refine (HI.out _).mono ?_;rintro e w' ⟨rfl,rfl⟩)
     go_ret
     exact ⟨zaT HN.out.symm,HB.out⟩
    | true =>
     have HI:=hid (zkV hi);have HA2:Hid ((s.data.toList.take (k+1)).all innerB=true):=by show _=_;rw[zfC _ _ _ HCK.out,List.all_append,HA.out];simp[hi]
     clear hi;go_wp2_with (go_at_call 86;refine (HI.out _).mono ?_;rintro e w' ⟨rfl,rfl⟩)
     go_round
     case rel=>exact ⟨k+1,by omega,by go_num,HA2.out⟩
     case measure=>simp[intOf];omega
   ·have ek:k=s.size:=by omega
    have HK:=hid ek;clear ek;go_wp2_with fail
    go_ret
    refine ⟨zaT ?_,HB.out⟩;have ha:=HA.out;rw[HK.out]at ha;exact (zpN HB0.out HLT.out ha (by omega)).symm
end Go.Proofs.YtonkjhmkppeagaaGreatDoor.Nm
namespace Go.Proofs.YtonkjhmkppeagaaGreatDoor.Pz
open Go.Proofs.Tryz
open Go.Lib (hid)
open Go.RowKit Go Go.Sort Ba Lx
def wordQ (s:Str):Bool:=Nm.nameL s && (decide (s≠sAnd) && (decide (s≠sOr) && (decide (s≠sNot) && decide (s≠sNull))))
theorem zfQ (a b:Str):((⟨a.toArray⟩:ByteArray).toList == (⟨b.toArray⟩:ByteArray).toList)=decide (a=b):=str_q (by rw[zeg,yL])
theorem zd3 (s:Str) (w:World) (hs:s.length≤9223372036854775807):Calls Tryz.prog 21 #[.string ⟨s.toArray⟩] w fun e w'=>e=.returned (.bool (wordQ s))∧Below w.heap.size w w':=by
 have HN:=hid (Nm.name_any ⟨s.toArray⟩ w (by rw[sz_mk];exact hs));have e0:Nm.nameB ⟨s.toArray⟩=Nm.nameL s:=rfl;rw[e0]at HN;have q1:=zfQ s sAnd;have q2:=zfQ s sOr;have q3:=zfQ s sNot;have q4:=zfQ s sNull;obtain ⟨Y,hY⟩:∃ Y:ByteArray,(⟨s.toArray⟩:ByteArray)=Y:=⟨_,rfl⟩;rw[hY]at HN q1 q2 q3 q4 ⊢;rw[ByteArray.toList_eq ⟨(sAnd:Str).toArray⟩]at q1;rw[ByteArray.toList_eq ⟨(sOr:Str).toArray⟩]at q2;rw[ByteArray.toList_eq ⟨(sNot:Str).toArray⟩]at q3;rw[ByteArray.toList_eq ⟨(sNull:Str).toArray⟩]at q4;obtain ⟨q0,h0⟩:∃ q,Nm.nameL s=q:=⟨_,rfl⟩;obtain ⟨r1,h1⟩:∃ q:Bool,decide (s=sAnd)=q:=⟨_,rfl⟩;obtain ⟨r2,h2⟩:∃ q:Bool,decide (s=sOr)=q:=⟨_,rfl⟩;obtain ⟨r3,h3⟩:∃ q:Bool,decide (s=sNot)=q:=⟨_,rfl⟩;obtain ⟨r4,h4⟩:∃ q:Bool,decide (s=sNull)=q:=⟨_,rfl⟩;have hw:wordQ s=(q0 && (!r1 && (!r2 && (!r3 && !r4)))):=by unfold wordQ;rw[← h0,← h1,← h2,← h3,← h4];simp
 rw[h0]at HN;change (Y.toList == [97,110,100])=_ at q1
 change (Y.toList == [111,114])=_ at q2
 change (Y.toList == [110,111,116])=_ at q3
 change (Y.toList == [110,117,108,108])=_ at q4
 rw[h1]at q1;rw[h2]at q2;rw[h3]at q3;rw[h4]at q4;have HW:=hid hw;clear hw h0 h1 h2 h3 h4 hY e0 hs
 cases q0 with
 | false =>
  clear q1 q2 q3 q4;go_enter func21,ntmps21
  go_wp2_with (go_at_call 51;(with_reducible (refine HN.out.mono ?_));rintro e w1 ⟨rfl,hb⟩)
  go_ret
  rw[HW.out];exact ⟨rfl,hb⟩
 | true =>
  cases r1 with
  | true =>
   go_enter func21,ntmps21
   go_wp2_with (go_at_call 51;(with_reducible (refine HN.out.mono ?_));rintro e w1 ⟨rfl,hb⟩)
   go_ret
   rw[HW.out];exact ⟨rfl,hb⟩
  | false =>
   cases r2 with
   | true =>
    go_enter func21,ntmps21
    go_wp2_with (go_at_call 51;(with_reducible (refine HN.out.mono ?_));rintro e w1 ⟨rfl,hb⟩)
    go_ret
    rw[HW.out];exact ⟨rfl,hb⟩
   | false =>
    cases r3 with
    | true =>
     go_enter func21,ntmps21
     go_wp2_with (go_at_call 51;(with_reducible (refine HN.out.mono ?_));rintro e w1 ⟨rfl,hb⟩)
     go_ret
     rw[HW.out];exact ⟨rfl,hb⟩
    | false =>
     cases r4 with
     | true =>
      go_enter func21,ntmps21
      go_wp2_with (go_at_call 51;(with_reducible (refine HN.out.mono ?_));rintro e w1 ⟨rfl,hb⟩)
      go_ret
      rw[HW.out];exact ⟨rfl,hb⟩
     | false =>
      go_enter func21,ntmps21
      go_wp2_with (go_at_call 51;(with_reducible (refine HN.out.mono ?_));rintro e w1 ⟨rfl,hb⟩)
      go_ret
      rw[HW.out];exact ⟨rfl,hb⟩
def zdQ (l:List Str):Bool:=l.all wordQ && decide (0<l.length∧l.length≤20)
theorem zgG (l:List Str) (hl:∀ s∈l,s.length≤9223372036854775807) (sa:Option Addr) (ca:Nat) (w:World) (ok:Nat→Prop) (hA:Rep w ok (.sl 1 (l.map strD)) (.slice sa l.length ca)) :
 Calls Tryz.prog 22 #[.slice sa l.length ca] w fun e w'=>e=.returned (.bool (zdQ l))∧Below w.heap.size w w':=by
 have HA:=hid hA;have HS:=hid hl;have hm:l.length≤9223372036854775807:=by
  obtain ⟨_,_,e,h1,h2⟩:=hA.len;rw[yC]at h1;exact yH (yH h1 h2) (by decide)
 obtain ⟨n,hn⟩:∃ n,l.length=n:=⟨_,rfl⟩;rw[hn]at HA hm ⊢;have HN:=hid hn;clear hA hn hl;go_enter func22,ntmps22
 go_wp2_with fail
 go_loopw [7] (fun i wr=>∃ m:Nat,m≤n∧i=.int .i64 m∧Hid (Below w.heap.size w wr)∧Hid (∀ (j:Nat) (x:Str),j<m→l[j]?=some x→wordQ x=true)) (fun i _=>n-(intOf i).toNat)
 case atStart=>exact ⟨0,yS _,rfl,Below.refl _ _,(fun j x hj=>by omega:∀ (j:Nat) (x:Str),j<0→l[j]?=some x→wordQ x=true)⟩
 case round =>
  obtain ⟨m,hmn,rfl,HBW,HE⟩:=hrel;by_cases hlt:m<n
  ·have hlt2:(m:Int)<(n:Int):=by omega
   obtain ⟨x,hx⟩:∃ x,l[m]?=some x:=⟨_,yF (by rw[HN.out];exact hlt)⟩;obtain ⟨b1,o1,rfl,hc1⟩:=HA.out.cells_at (i:=m) (r:=strD x) (vs:=[.string ⟨x.toArray⟩]) (by rw[yQ,hx];rfl) rfl;have HW:=hid (zd3 x wr (HS.out x (yP hx)));obtain ⟨N0,hN0⟩:∃ N:ByteArray,(⟨x.toArray⟩:ByteArray)=N:=⟨_,rfl⟩;rw[hN0]at HW;have x0:wr.cell? ⟨b1,o1+m,none⟩=some (.string N0):=by have:=hc1 wr HBW.out 0 _ rfl;rw[hN0]at this;simpa [Nat.add_assoc] using this
   have HX:=hid hx;clear hc1 hx hN0
   cases hq:wordQ x<;>rw[hq]at HW
   ·have HQ:=hid hq;clear hq;go_wp2_with (go_at_call 21;(with_reducible (refine HW.out.mono ?_));rintro e w1 ⟨rfl,hb⟩)
    go_ret
    have hf:zdQ l=false:=by
     unfold zdQ;rw[show l.all wordQ=false from by rw[List.all_eq_false];exact ⟨x,yP HX.out,by rw[HQ.out];decide⟩];rfl
    rw[hf];exact ⟨rfl,two HBW.out hb⟩
   ·have HQ:=hid hq;clear hq;go_wp2_with (go_at_call 21;(with_reducible (refine HW.out.mono ?_));rintro e w1 ⟨rfl,hb⟩)
    have H2:Hid (Below w.heap.size w w1):=two HBW.out hb;go_roundw
    case rel=>exact ⟨m+1,by omega,by go_num,H2,(fun j x' hj hx'=>by
     by_cases hjm:j<m
     ·exact HE.out j x' hjm hx'
     ·obtain rfl:j=m:=by omega
      rw[HX.out]at hx';obtain rfl:=Option.some.inj hx';exact HQ.out:∀ (j:Nat) (x:Str),j<m+1→l[j]?=some x→wordQ x=true)⟩
    case measure=>simp[intOf];omega
  ·have hlt2:¬ ((m:Int)<(n:Int)):=by omega
   have hall:l.all wordQ=true:=List.all_eq_true.2 fun x hx=>by
    obtain ⟨j,hj⟩:=List.mem_iff_getElem?.1 hx;exact HE.out j x (by have:=(yE.1 hj).1;rw[HN.out]at this;omega) hj
   have hf:zdQ l=decide (0<n∧n≤20):=by unfold zdQ;rw[hall,HN.out];rfl
   have HF:=hid hf;clear hf hall;by_cases h0:0<n
   ·have h0':(0:Int)<(n:Int):=by omega
    by_cases h20:n≤20
    ·have h20':(n:Int)≤20:=by omega
     go_wp2_with fail
     go_ret
     rw[HF.out,decide_eq_true ⟨h0,h20⟩];exact ⟨rfl,HBW.out⟩
    ·have h20':¬ (n:Int)≤20:=by omega
     go_wp2_with fail
     go_ret
     rw[HF.out,yN (fun h=>h20 h.2)];exact ⟨rfl,HBW.out⟩
   ·have h0':¬ (0:Int)<(n:Int):=by omega
    go_wp2_with fail
    go_ret
    rw[HF.out,yN (fun h=>h0 h.1)];exact ⟨rfl,HBW.out⟩
theorem zfA {s:Str} (h:wordQ s=true):zao s∧s.length≤16∧s≠sAnd∧s≠sOr∧s≠sNot∧s≠sNull:=by
 unfold wordQ Nm.nameL at h;simp only[Bool.and_eq_true,yL]at h;obtain ⟨⟨⟨h1,h2⟩,h3⟩,h4,h5,h6,h7⟩:=h;refine ⟨.inl ⟨rfl,rfl,?_,?_,h3⟩,h3,h4,h5,h6,h7⟩
 ·cases s with
  | nil=>cases h1
  | cons b l =>
   refine ⟨b,l,rfl,?_⟩;have h1':decide (97≤(b.toNat:Int)∧(b.toNat:Int)≤122)=true:=h1;rw[yL]at h1';unfold letB;rw[yL];omega
 ·show s.all wordB=true
  rw[List.all_eq_true]at h2 ⊢;intro c hc;have:=h2 c hc;unfold Nm.innerB Nm.letterB at this;rw[Bool.or_eq_true,yL,yL]at this;unfold wordB letB digB;simp only[Bool.or_eq_true,yL,beq_iff_eq];rcases this with h|h|h
  ·exact .inl (.inl (by omega))
  ·refine .inr ?_;have h':c.toNat=95:=by omega
   exact UInt8.toNat_inj.1 h'
  ·exact .inl (.inr (by omega))
