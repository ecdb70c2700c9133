/- strconv.Atoi of a text that is no number: some number, and an error. Walks: values made; texts that may stand in a cell; a text between quotes. Walks: a text between quotes; the text of a value. Walks: the text of a value; two numbers reckoned. Plain facts on decimal numerals: what is written is read back. No program in sight. Plain facts: what is written between quotes is read back; the value that a text stands for. No program in sight. Walks: what is between quotes; small facts on bytes. Walks: a text read as a value. -/
import Derived.Test.YtonkjhmkppeagaaGreatDoorShelf
import Derived.Test.YtonkjhmkppeagaaGreatDoorVBase
import Derived.Shelf.Strconv.ErrVarAll
import Derived.Lib.AtoiAllCases
import Derived.Lib.ItoaMem
set_option maxHeartbeats 3200000
set_option linter.unusedVariables false
set_option linter.unusedSimpArgs false
namespace Go.Proofs.YtonkjhmkppeagaaGreatDoor.Ba
open Go.Proofs.Tryz
open Go.Lib (hid)
open Go.RowKit Go
def Errs (w:World):Prop:=(∃ tp p,w.var? Tryz.prog "strconv.ErrSyntax"=some #[.iface tp p])∧(∃ tp p,w.var? Tryz.prog "strconv.ErrRange"=some #[.iface tp p])
theorem Errs.below {w w':World} (h:Errs w) (hb:Below w.heap.size w w'):Errs w':=by
 obtain ⟨⟨tp,p,h1⟩,⟨tq,q,h2⟩⟩:=h;have g1:Tryz.prog.globalNamed "strconv.ErrSyntax"=some 4:=by kernel_rfl
 have g2:Tryz.prog.globalNamed "strconv.ErrRange"=some 5:=by kernel_rfl
 have l1:w.cell? ⟨4,0,none⟩=some (.iface tp p):=World.var?_cell g1 h1 0;have l2:w.cell? ⟨5,0,none⟩=some (.iface tq q):=World.var?_cell g2 h2 0;exact ⟨⟨tp,p,var?_below hb g1 (zb3 l1) h1⟩,⟨tq,q,var?_below hb g2 (zb3 l2) h2⟩⟩
def NoNum (w:World) (e:Ending) (w':World):Prop:=∃ (n:Int) (N:Nat),e=.returned (.tuple #[.int .i64 n,.iface 212 (.pointer (some ⟨N,0,none⟩))])∧Below w.heap.size w w'
theorem zoG (s:ByteArray) (hlim:s.size≤281474976710656) (h:∀ v,Lib.atoiAll s.data.toList≠.ok v) (w:World) (hE:Errs w):Calls Tryz.prog 135 #[.string s] w (NoNum w):=by
 obtain ⟨⟨tp,p,h1⟩,⟨tq,q,h2⟩⟩:=hE;by_cases hr:Lib.atoiAll s.data.toList=.range
 ·have c:Calls Tryz.prog 135 #[.string s] w fun e w'=>∃ N,e=.returned (.tuple #[.int .i64 (Lib.atoiSat s.data.toList),.iface 212 (.pointer (some ⟨N,0,none⟩))])∧w.heap.size≤N∧w'.heap[N]?=some (.cells #[.string ⟨#[65,116,111,105]⟩,.string s,.iface tq q] 219 (0,0))∧Below w.heap.size w w':=Any.strconv_Atoi_range_var Tryz.laysC172 s hlim hr tq q w h2
  exact c.mono fun e w' ⟨N,he,_,_,hb⟩=>⟨_,N,he,hb⟩
 ·have hs:=Any.strconv_Atoi_syntax_var Tryz.laysC172 s hlim (by revert h hr;cases Lib.atoiAll s.data.toList<;>simp) tp p w h1;have c:Calls Tryz.prog 135 #[.string s] w fun e w'=>∃ N,e=.returned (.tuple #[.int .i64 0,.iface 212 (.pointer (some ⟨N,0,none⟩))])∧w.heap.size≤N∧w'.heap[N]?=some (.cells #[.string ⟨#[65,116,111,105]⟩,.string s,.iface tp p] 219 (0,0))∧Below w.heap.size w w':=hs
  exact c.mono fun e w' ⟨N,he,_,_,hb⟩=>⟨_,N,he,hb⟩
theorem zh7 (s:ByteArray) (hmax:s.size≤9223372036854775806) (v:Int) (h:Lib.atoiAll s.data.toList=.ok v) (w:World) :
 Calls Tryz.prog 135 #[.string s] w fun e w'=>e=.returned (.tuple #[.int .i64 v,.nilIface])∧Below w.heap.size w w' :=
 (Tryz.strconv_Atoi_ok s hmax v h w).mono fun e w' ⟨he,hw⟩=>⟨he,by
  rcases hw with rfl|⟨t,rfl⟩
  ·exact Below.refl _ _
  ·exact Lib.bytesWorld_below w _ t⟩
theorem zjU (n:Int) (h0:-9223372036854775808≤n) (h1:n≤9223372036854775807) (w:World) (hE:Lib.TabIs Tryz.prog w "internal/strconv.uint64pow10" .u64 Lib.pow10Tab) :
 Calls Tryz.prog 70 #[.int .i64 n] w fun e w'=>e=.returned (.string ⟨(Lib.itoa n).toArray⟩)∧Below w.heap.size w w' :=
 (Tryz.strconv_Itoa n h0 h1 w hE).mono fun e w' ⟨he,hw⟩=>⟨he,zhp hw⟩
end Go.Proofs.YtonkjhmkppeagaaGreatDoor.Ba
namespace Go.Proofs.YtonkjhmkppeagaaGreatDoor.Va
open Go.Proofs.Tryz
open Go.Lib (hid)
open Go.RowKit Go Ba
theorem info5:(Tryz.prog.info? 5).map (fun i=>(i.zero,i.size,i.bytes))=some (some (.int .u8 0),1,1):=by kernel_rfl
theorem null_any (w:World):Calls Tryz.prog 154 #[] w fun e w'=>e=.returned (.agg #[.int .i64 0,.int .i64 0,.string ⟨#[]⟩])∧Below w.heap.size w w':=by
 go_enter func154,ntmps154
 go_wp2_with fail
 go_returns
 exact ⟨rfl,by go_grown⟩
theorem of_any (n:Int) (w:World):Calls Tryz.prog 27 #[.int .i64 n] w fun e w'=>e=.returned (.agg #[.int .i64 1,.int .i64 n,.string ⟨#[]⟩])∧Below w.heap.size w w':=by
 go_enter func27,ntmps27
 go_wp2_with fail
 go_returns
 exact ⟨rfl,by go_grown⟩
theorem text_any (s:ByteArray) (w:World):Calls Tryz.prog 37 #[.string s] w fun e w'=>e=.returned (.agg #[.int .i64 2,.int .i64 0,.string s])∧Below w.heap.size w w':=by
 go_enter func37,ntmps37
 go_wp2_with fail
 go_returns
 exact ⟨rfl,by go_grown⟩
def okByte (b:UInt8):Bool:=decide (32≤(b.toNat:Int)∧(b.toNat:Int)≤126)
def plainB (s:ByteArray):Bool:=s.data.toList.all okByte && decide (s.size≤64)
theorem zfC {α:Type} (l:List α) (k:Nat) (x:α) (h:l[k]?=some x):l.take (k+1)=l.take k++[x]:=by
 rw[List.take_add_one,h];rfl
theorem zkD {s:ByteArray} {b:UInt8} (h:b∈s.data.toList) (hb:okByte b=false):plainB s=false:=by
 unfold plainB;have:s.data.toList.all okByte=false:=by
  rw[List.all_eq_false];exact ⟨b,h,by simp[hb]⟩
 rw[this,Bool.false_and]
theorem zm2 (s:ByteArray) (w:World) (hs:s.size≤9223372036854775807) :
 Calls Tryz.prog 69 #[.string s] w fun e w'=>e=.returned (.bool (plainB s))∧Below w.heap.size w w':=by
 have hcv:=fun w=>Lib.run_convert_string_bytes (P:=Tryz.prog) w 9 122 5 s underlying9 underlying122 underlying5
 have hcell:=zeu (w:=w) 5 s;have hb:=Lib.bytesWorld_below w 5 s;go_enter func69,ntmps69
 go_wp2_with fail
 generalize Lib.bytesWorld w 5 s=w1 at *
 clear hcv;have HC:=hid hcell;have HB:=hid hb;clear hcell hb;go_loop [8] (fun i=>∃ k:Nat,k≤s.size∧i=.int .i64 k∧(s.data.toList.take k).all okByte=true) (fun i=>s.size-(intOf i).toNat)
 case atStart=>exact ⟨0,by omega,rfl,by simp⟩
 case round =>
  obtain ⟨k,hk,rfl,hall⟩:=hrel;have HA:=hid hall;clear hall;by_cases hlt:k<s.size
  ·obtain ⟨b,hbk⟩:=bat s k hlt;have hc:=HC.out k b hbk;have HBK:=hid hbk;clear hbk;have hb8:(b.toNat:Int)≤255:=by have:=b.toNat_lt;omega
   by_cases h1:(b.toNat:Int)<32
   ·go_wp2_with fail
    go_ret
    exact ⟨zaT (zkD (yP HBK.out) (by unfold okByte;simp;omega)).symm,HB.out⟩
   ·by_cases h2:126<(b.toNat:Int)
    ·go_wp2_with fail
     go_ret
     exact ⟨zaT (zkD (yP HBK.out) (by unfold okByte;simp;omega)).symm,HB.out⟩
    ·go_wp2_with fail
     go_round
     case rel=>exact ⟨k+1,by omega,by go_num,by rw[zfC _ _ _ HBK.out,List.all_append,HA.out];simp[okByte];omega⟩
     case measure=>simp[intOf];omega
  ·have ek:k=s.size:=by omega
   have HK:=hid ek;clear ek;go_wp2_with fail
   go_ret
   refine ⟨zaT ?_,HB.out⟩;have ha:=HA.out;rw[HK.out,zau,List.take_length]at ha;unfold plainB;rw[ha,Bool.true_and,Bool.eq_iff_iff];simp
   omega
theorem zdv (s:ByteArray):s.toList.isEmpty=true↔s=⟨#[]⟩:=by
 rw[List.isEmpty_iff,toList_nil_iff_emptyBytes];rfl
def rightB (k n:Int) (s:ByteArray):Bool :=
 if k=0 then decide (n=0) && s.toList.isEmpty else if k=1 then s.toList.isEmpty else if k=2 then decide (n=0) && plainB s else false
theorem zmQ (k n:Int) (s:ByteArray) (w:World) (hs:s.size≤9223372036854775807) :
 Calls Tryz.prog 38 #[.agg #[.int .i64 k,.int .i64 n,.string s]] w fun e w'=>e=.returned (.bool (rightB k n s))∧Below w.heap.size w w':=by
 by_cases h0:k=0
 ·subst h0;by_cases hn:n=0
  ·subst hn;go_enter func38,ntmps38
   go_wp2_with fail
   go_ret
   exact ⟨zaT (by simp[rightB]),by go_grown⟩
  ·have hb:(n == 0)=false:=by simpa using hn
   have H:=hid hn;clear hn;go_enter func38,ntmps38
   go_wp2_with fail
   go_ret
   exact ⟨zaT (by simp[rightB,H.out]),by go_grown⟩
 by_cases h1:k=1
 ·subst h1;clear h0;go_enter func38,ntmps38
  go_wp2_with fail
  go_ret
  exact ⟨zaT (by simp[rightB]),by go_grown⟩
 by_cases h2:k=2
 ·subst h2;clear h0 h1;by_cases hn:n=0
  ·subst hn;go_enter func38,ntmps38
   go_wp2_with fail
   refine (zm2 s _ hs).mono ?_;rintro e w1 ⟨rfl,hb⟩;have b1:=two (w:=w) (by go_grown) hb;go_wp2_with fail
   go_ret
   exact ⟨zaT (by simp[rightB]),b1⟩
  ·have hb:(n == 0)=false:=by simpa using hn
   have H:=hid hn;clear hn;go_enter func38,ntmps38
   go_wp2_with fail
   go_ret
   exact ⟨zaT (by simp[rightB,H.out]),by go_grown⟩
 have b0:(k == 0)=false:=by simpa using h0
 have b1:(k == 1)=false:=by simpa using h1
 have b2:(k == 2)=false:=by simpa using h2
 have HR:Hid (rightB k n s=false):=by show rightB k n s=false;unfold rightB;rw[if_neg h0,if_neg h1,if_neg h2]
 clear h0 h1 h2;go_enter func38,ntmps38
 go_wp2_with fail
 go_ret
 exact ⟨zaT HR.out.symm,by go_grown⟩
def esc:List UInt8→List UInt8
 | []=>[]
 | b::r=>(if b=34∨b=92 then [92,b] else [b])++esc r
def quotedL (l:List UInt8):List UInt8:=34::esc l++[34]
theorem zsh (l r:List UInt8):esc (l++r)=esc l++esc r:=by
 induction l with
 | nil=>rfl
 | cons b l ih=>simp[esc,ih]
theorem zj1 (l:List UInt8):(esc l).length≤2*l.length:=by
 induction l with
 | nil=>simp[esc]
 | cons b l ih=>simp only[esc,yA,yB];split<;>simp<;>omega
theorem zoj (b:UInt8) (h:b=34∨b=92):esc [b]=[92,b]:=by simp[esc,h]
theorem zts (b:UInt8) (h:¬ (b=34∨b=92)):esc [b]=[b]:=by simp[esc,h]
theorem b92:(92:Int)=((92:UInt8).toNat:Int):=by decide
theorem b34:(34:Int)=((34:UInt8).toNat:Int):=by decide
theorem zjB (l:List UInt8) (k:Nat) (b:UInt8) (h:l[k]?=some b):34::esc (l.take (k+1))=34::esc (l.take k)++esc [b]:=by
 rw[zfC l k b h,zsh];rfl
theorem ziw (l:List UInt8) (k:Nat) (hl:l.length≤4096):(34::esc (l.take k)).length≤8193:=by
 have:=zj1 (l.take k);have:(l.take k).length≤l.length:=List.length_take_le' _ _;simp only[yB];omega
theorem zlr (s:ByteArray) (w:World) (hs:s.size≤4096) :
 Calls Tryz.prog 71 #[.string s] w fun e w'=>e=.returned (.string ⟨(quotedL s.data.toList).toArray⟩)∧Below w.heap.size w w':=by
 obtain ⟨i0,hi,hz0,hz1,hz2⟩:=info_parts info5;have hcv:=fun w=>Lib.run_convert_string_bytes (P:=Tryz.prog) w 9 122 5 s underlying9 underlying122 underlying5
 obtain ⟨C,m,hrow,hC⟩:=zjh (w:=w.alloc (.cells #[.int .u8 34] 5)) 5 s;have hb:=Lib.bytesWorld_below (w.alloc (.cells #[.int .u8 34] 5)) 5 s;have hown:=ziI (zna (w:=w) (base:=w.heap.size) (e:=5) [34] #[.int .u8 34] rfl (yG _) (by unfold maxLen;simp)) hb (yG _);have b0:=two (w:=w) (by go_grown) hb;have z0:=hb.size;simp only[World.size_alloc]at hrow z0;have hz:w.heap.size+2≤(Lib.bytesWorld (w.alloc (.cells #[.int .u8 34] 5)) 5 s).heap.size:=by rw[Lib.bytesWorld_size];simp
 have hLs:s.data.toList.length≤4096:=by rw[← zau];exact hs
 have HC:=hid hC;clear hC hb;go_enter func71,ntmps71
 go_wp2_with fail
 clear hcv;generalize Lib.bytesWorld (w.alloc (.cells #[.int .u8 34] 5)) 5 s=wB at *
 go_loopw [3,10] (fun v i wr=>∃ k:Nat,k≤s.size∧i=.int .i64 k∧wr.ownsRow w.heap.size 5 1 v (34::esc (s.data.toList.take k)).length (zb2 (34::esc (s.data.toList.take k)))∧wr.heap[w.heap.size+1]?=some (.cells C 5 (m,m+1))∧Below w.heap.size w wr∧w.heap.size+2≤wr.heap.size)
  (fun _ i _=>s.size-(intOf i).toNat)
 case atStart=>exact ⟨0,by omega,rfl,hown,hrow,b0,hz⟩
 case round =>
  clear hown hrow b0 hz z0;obtain ⟨k,hk,rfl,hown,hrow,hbel,hz⟩:=hrel;by_cases hlt:k<s.size
  ·obtain ⟨b,hbk⟩:=bat s k hlt;have hc:wr.cell? ⟨w.heap.size+1,k,none⟩=some (.int .u8 b.toNat):=by rw[cell_of_row _ _ _ _ _ _ hrow];exact HC.out k b hbk
   have hq:=ziw s.data.toList k hLs;have HST:=hid (zjB s.data.toList k b hbk);have hb8:=zh5 b;have hne:=zdE hown hrow;clear hbk;obtain ⟨L,hL⟩:∃ L,34::esc (s.data.toList.take k)=L:=⟨_,rfl⟩;rw[hL]at hq hown HST;have HL:=hid hL;clear hL;have HOWN:=hid hown;have HROW:=hid hrow;have HNE:=hid hne;have HBEL:=hid hbel;clear hown hrow hne hbel;by_cases h1:(b.toNat:Int)=34
   ·have h2:((b.toNat:Int) == 34)=true:=by simpa using h1
    have HB:Hid (esc [b]=[92,b]):=zoj b (.inl (zev (by rw[h1];rfl)));clear h1;go_wp2_with (first|(at_builtin;refine zdi rfl (.tmp 20) (.tmp 21) 122 5 rfl underlying122 hi hz0 hz1 hz2 w.heap.size u3 L 92 _ ?_ ?_ HOWN.out ?_ ?_ ?_ ?_;exact b92;rfl;rfl;omega;omega;intro v1 w1 hown1 hg1;obtain ⟨r1,bb1,zz1⟩:=zdf HOWN.out HROW.out HBEL.out (yG _) (by omega) hg1;have HOWN1:=hid hown1;clear hown1 hg1)|(at_builtin;refine zdi rfl (.tmp 23) (.tmp 25) 122 5 rfl underlying122 hi hz0 hz1 hz2 w.heap.size v1 (L++[92]) b _ ?_ ?_ HOWN1.out ?_ ?_ ?_ ?_;rfl;rfl;rfl;(simp;omega);omega;intro v2 w2 hown2 hg2))
    obtain ⟨r2,bb2,zz2⟩:=zdf HOWN1.out r1 bb1 (yG _) (by omega) hg2;go_roundw
    case rel=>exact ⟨k+1,by omega,by go_num,by rw[HST.out,HB.out];simpa using hown2,r2,bb2,by omega⟩
    case measure=>simp[intOf];omega
   by_cases h3:(b.toNat:Int)=92
   ·have h2:((b.toNat:Int) == 34)=false:=by simpa using h1
    have h4:((b.toNat:Int) == 92)=true:=by simpa using h3
    have HB:Hid (esc [b]=[92,b]):=zoj b (.inr (zev (by rw[h3];rfl)));clear h1 h3;go_wp2_with (first|(at_builtin;refine zdi rfl (.tmp 20) (.tmp 21) 122 5 rfl underlying122 hi hz0 hz1 hz2 w.heap.size u3 L 92 _ ?_ ?_ HOWN.out ?_ ?_ ?_ ?_;exact b92;rfl;rfl;omega;omega;intro v1 w1 hown1 hg1;obtain ⟨r1,bb1,zz1⟩:=zdf HOWN.out HROW.out HBEL.out (yG _) (by omega) hg1;have HOWN1:=hid hown1;clear hown1 hg1)|(at_builtin;refine zdi rfl (.tmp 23) (.tmp 25) 122 5 rfl underlying122 hi hz0 hz1 hz2 w.heap.size v1 (L++[92]) b _ ?_ ?_ HOWN1.out ?_ ?_ ?_ ?_;rfl;rfl;rfl;(simp;omega);omega;intro v2 w2 hown2 hg2))
    obtain ⟨r2,bb2,zz2⟩:=zdf HOWN1.out r1 bb1 (yG _) (by omega) hg2;go_roundw
    case rel=>exact ⟨k+1,by omega,by go_num,by rw[HST.out,HB.out];simpa using hown2,r2,bb2,by omega⟩
    case measure=>simp[intOf];omega
   ·have h2:((b.toNat:Int) == 34)=false:=by simpa using h1
    have h4:((b.toNat:Int) == 92)=false:=by simpa using h3
    have HB:Hid (esc [b]=[b]):=zts b (fun h=>by rcases h with rfl|rfl<;>simp at h1 h3);clear h1 h3;go_wp2_with (at_builtin;refine zdi rfl (.tmp 23) (.tmp 25) 122 5 rfl underlying122 hi hz0 hz1 hz2 w.heap.size u3 L b _ ?_ ?_ HOWN.out ?_ ?_ ?_ ?_;(first|exact b92|exact b34|rfl);rfl;rfl;omega;omega;intro v1 w1 hown1 hg1)
    obtain ⟨r1,bb1,zz1⟩:=zdf HOWN.out HROW.out HBEL.out (yG _) (by omega) hg1;go_roundw
    case rel=>exact ⟨k+1,by omega,by go_num,by rw[HST.out,HB.out];exact hown1,r1,bb1,by omega⟩
    case measure=>simp[intOf];omega
  ·have ek:k=s.size:=by omega
   have HK:Hid (34::esc (s.data.toList.take k)++[34]=quotedL s.data.toList):=by
    show 34::esc (s.data.toList.take k)++[34]=_
    rw[ek,zau,List.take_length];rfl
   have hq:=ziw s.data.toList k hLs;obtain ⟨L,hL⟩:∃ L,34::esc (s.data.toList.take k)=L:=⟨_,rfl⟩;rw[hL]at hq hown HK;have HOWN:=hid hown;have HROW:=hid hrow;have HBEL:=hid hbel;clear hL ek hown hrow hbel;go_wp2_with (at_builtin;refine zdi rfl (.tmp 28) (.tmp 29) 122 5 rfl underlying122 hi hz0 hz1 hz2 w.heap.size u3 L 34 _ ?_ ?_ HOWN.out ?_ ?_ ?_ ?_;exact b34;rfl;rfl;omega;omega;intro v1 w1 hown1 hg1;obtain ⟨r1,bb1,zz1⟩:=zdf HOWN.out HROW.out HBEL.out (yG _) (by omega) hg1;rw[HK.out]at hown1;have hst:=zcw 122 9 5 underlying122 underlying5 underlying9 hown1 rfl;clear hown1 hg1 r1)
   go_ret
   exact ⟨rfl,bb1⟩
def Env (w:World):Prop:=Lib.TabIs Tryz.prog w "internal/strconv.uint64pow10" .u64 Lib.pow10Tab
theorem Env.below {w w':World} (h:Env w) (hb:Below w.heap.size w w'):Env w':=by
 have hg:Tryz.prog.globalNamed "internal/strconv.uint64pow10"=some 2:=by kernel_rfl
 have h0:=Lib.TabIs.cell h hg 0 (by decide);exact var?_below hb hg (zb3 h0) h
def showL (k n:Int) (s:ByteArray):List UInt8 :=
 if rightB k n s=true then (if k=0 then [110,117,108,108] else if k=1 then Lib.itoa n else quotedL s.data.toList) else []
theorem zfG (k n:Int) (s:ByteArray) (b:Bool) (w:World) (hs:s.size≤9223372036854775807) (hb:rightB k n s=b) :
 Calls Tryz.prog 38 #[.agg #[.int .i64 k,.int .i64 n,.string s]] w fun e w'=>e=.returned (.bool b)∧Below w.heap.size w w':=by
 rw[← hb];exact zmQ k n s w hs
theorem zlo {k n:Int} {s:ByteArray} (h:rightB k n s=true):(k=0∨k=1∨k=2)∧s.size≤64:=by
 unfold rightB at h;split at h
 ·rename_i hk
  simp only[Bool.and_eq_true]at h;rw[(zdv s).1 h.2];exact ⟨.inl hk,by decide⟩
 ·split at h
  ·rename_i hk
   rw[(zdv s).1 h];exact ⟨.inr (.inl hk),by decide⟩
  ·split at h
   ·rename_i hk
    unfold plainB at h;simp only[Bool.and_eq_true,yL]at h;exact ⟨.inr (.inr hk),h.2.2⟩
   ·cases h
theorem show_any (k n:Int) (s:ByteArray) (w:World) (hs:s.size≤9223372036854775807) (n0:-9223372036854775808≤n) (n1:n≤9223372036854775807) (hE:Env w) :
 Calls Tryz.prog 39 #[.agg #[.int .i64 k,.int .i64 n,.string s]] w fun e w'=>e=.returned (.string ⟨(showL k n s).toArray⟩)∧Below w.heap.size w w':=by
 have HE:=hid hE;clear hE;by_cases hr:rightB k n s=true
 ·obtain ⟨hk,h64⟩:=zlo hr;have HR:=hid hr;clear hr;rcases hk with rfl|rfl|rfl
  ·have HS:Hid (showL 0 n s=[110,117,108,108]):=by show showL 0 n s=_;unfold showL;rw[if_pos HR.out,if_pos rfl]
   go_enter func39,ntmps39
   go_wp2_with fail
   refine (zfG 0 n s true _ hs HR.out).mono ?_;rintro e w1 ⟨rfl,hb⟩;have z1:=hb.size;simp only[World.size_alloc]at z1;have c0:w1.cell? ⟨w.heap.size,0,none⟩=some (.int .i64 0):=box hb (by simp) 0;have b1:=two (w:=w) (by go_grown) hb;clear hb;go_wp2_with fail
   go_ret
   exact ⟨by rw[HS.out];rfl,b1⟩
  ·have HS:Hid (showL 1 n s=Lib.itoa n):=by show showL 1 n s=_;unfold showL;rw[if_pos HR.out];simp
   go_enter func39,ntmps39
   go_wp2_with fail
   refine (zfG 1 n s true _ hs HR.out).mono ?_;rintro e w1 ⟨rfl,hb⟩;have z1:=hb.size;simp only[World.size_alloc]at z1;have z2:w.heap.size<w1.heap.size:=by omega
   have c0:w1.cell? ⟨w.heap.size,0,none⟩=some (.int .i64 1):=box hb (by simp) 0;have c1:w1.cell? ⟨w.heap.size,1,none⟩=some (.int .i64 n):=box hb (by simp) 1;have b1:=two (w:=w) (by go_grown) hb;clear hb;go_wp2_with fail
   refine (Tryz.strconv_Itoa n n0 n1 _ (HE.out.below b1)).mono ?_;rintro e w2 ⟨rfl,hw⟩;have b2:=two b1 (zhp hw);clear hw;go_wp2_with fail
   go_ret
   exact ⟨by rw[HS.out];rfl,b2⟩
  ·have HS:Hid (showL 2 n s=quotedL s.data.toList):=by show showL 2 n s=_;unfold showL;rw[if_pos HR.out];simp
   go_enter func39,ntmps39
   go_wp2_with fail
   refine (zfG 2 n s true _ hs HR.out).mono ?_;rintro e w1 ⟨rfl,hb⟩;have z1:=hb.size;simp only[World.size_alloc]at z1;have z2:w.heap.size<w1.heap.size:=by omega
   have c0:w1.cell? ⟨w.heap.size,0,none⟩=some (.int .i64 2):=box hb (by simp) 0;have c2:w1.cell? ⟨w.heap.size,2,none⟩=some (.string s):=box hb (by simp) 2;have b1:=two (w:=w) (by go_grown) hb;clear hb;go_wp2_with fail
   refine (zlr s _ (by omega)).mono ?_;rintro e w2 ⟨rfl,hb⟩;have b2:=two b1 hb;clear hb;go_wp2_with fail
   go_ret
   exact ⟨by rw[HS.out];rfl,b2⟩
 ·have hr':rightB k n s=false:=by simpa using hr
  have HS:Hid (showL k n s=[]):=by show showL k n s=_;unfold showL;rw[if_neg hr]
  have HR:=hid hr';clear hr hr';go_enter func39,ntmps39
  go_wp2_with fail
  refine (zfG k n s false _ hs HR.out).mono ?_;rintro e w1 ⟨rfl,hb⟩;have b1:=two (w:=w) (by go_grown) hb;clear hb;go_wp2_with fail
  go_ret
  exact ⟨by rw[HS.out];rfl,b1⟩
end Go.Proofs.YtonkjhmkppeagaaGreatDoor.Va
namespace Go.Proofs.YtonkjhmkppeagaaGreatDoor.Nu
open Go.Proofs.Tryz
open Go.Lib (hid)
open Go.Lib
theorem dig_nat (d:Nat) (h:d<10):(UInt8.ofNat (48+d)).toNat=48+d:=by
 rw[UInt8.toNat_ofNat'];omega
def isDig (c:UInt8):Bool:=decide (48≤c.toNat∧c.toNat≤57)
theorem zqY (d:Nat) (h:d<10):isDig (UInt8.ofNat (48+d))=true:=by
 unfold isDig;rw[dig_nat d h];simp;omega
theorem dec_all (u:Nat):(decDigits u).all isDig=true:=by
 induction u using Nat.strongRecOn with
 | _ u ih =>
  rw[decDigits];split
  ·rename_i h
   rw[List.all_cons,zqY u h];rfl
  ·rename_i h
   rw[List.all_append,ih (u / 10) (by omega)];rw[List.all_cons,zqY (u % 10) (by omega)];rfl
theorem ztI (u:Nat):decDigits u≠[]:=by
 rw[decDigits];split<;>simp
theorem dec_cons (u:Nat):∃ c r,decDigits u=c::r∧isDig c=true:=by
 have h1:=ztI u;have h2:=dec_all u;match h:decDigits u with
 | []=>exact absurd h h1
 | c::r =>
  rw[h]at h2;simp only[List.all_cons,Bool.and_eq_true]at h2;exact ⟨c,r,rfl,h2.1⟩
theorem zqM:∀ (l r:List UInt8) (acc:Nat),parseUint10 acc (l++r)=match parseUint10 acc l with|.ok v=>parseUint10 v r|e=>e
 | [],r,acc=>by simp[parseUint10]
 | c::l,r,acc=>by
  simp only[List.cons_append,parseUint10];split
  ·split
   ·rfl
   ·split
    ·rfl
    ·exact zqM l r _
  ·rfl
theorem zqL (v d:Nat) (hd:d<10) (h:v*10+d<18446744073709551616):parseUint10 v [UInt8.ofNat (48+d)]=.ok (v*10+d):=by
 simp only[parseUint10,dig_nat d hd];rw[if_pos (by omega),if_neg (by omega),if_neg (by omega)];congr 1
 omega
theorem pu_dec (u:Nat) (h:u<18446744073709551616):parseUint10 0 (decDigits u)=.ok u:=by
 induction u using Nat.strongRecOn with
 | _ u ih =>
  rw[decDigits];split
  ·rename_i h10
   rw[zqL 0 u h10 (by omega)];congr 1
   omega
  ·rename_i h10
   rw[zqM,ih (u / 10) (by omega) (by omega)];show parseUint10 (u / 10) _=_
   rw[zqL (u / 10) (u % 10) (by omega) (by omega)];congr 1
   omega
end Go.Proofs.YtonkjhmkppeagaaGreatDoor.Nu
namespace Go.Proofs.YtonkjhmkppeagaaGreatDoor.Va
open Go.Proofs.Tryz
open Go.Lib (hid)
open Go.RowKit Go Ba
def unqS (x:List UInt8×Bool) (c:UInt8):List UInt8×Bool:=if c=92∧x.2=false then (x.1,true) else (x.1++[c],false)
def unqL (l:List UInt8):List UInt8×Bool:=l.foldl unqS ([],false)
theorem zo1 (l:List UInt8) (k:Nat) (b:UInt8) (h:l[k]?=some b):unqL (l.take (k+1))=unqS (unqL (l.take k)) b:=by
 unfold unqL;rw[zfC l k b h,List.foldl_append];rfl
theorem zjm (l:List UInt8):(unqL l).1.length≤l.length:=by
 have h:∀ (l:List UInt8) (x:List UInt8×Bool),(l.foldl unqS x).1.length≤x.1.length+l.length:=by
  intro l;induction l with
  | nil=>intro x;simp
  | cons c l ih =>
   intro x;simp only[List.foldl_cons,yB];have:=ih (unqS x c);have h2:(unqS x c).1.length≤x.1.length+1:=by unfold unqS;split<;>simp
   omega
 have:=h l ([],false);simpa [unqL] using this
theorem zra (t:List UInt8):∀ o,(esc t).foldl unqS (o,false)=(o++t,false):=by
 induction t with
 | nil=>intro o;simp[esc]
 | cons b t ih =>
  intro o;by_cases hb:b=34∨b=92
  ·have e:esc (b::t)=92::b::esc t:=by simp[esc,hb]
   rw[e,List.foldl_cons,List.foldl_cons];have e1:unqS (o,false) 92=(o,true):=by simp[unqS]
   have e2:unqS (o,true) b=(o++[b],false):=by simp[unqS]
   rw[e1,e2,ih];simp
  ·have e:esc (b::t)=b::esc t:=by simp[esc,hb]
   rw[e,List.foldl_cons];have e2:unqS (o,false) b=(o++[b],false):=by
    have:b≠92:=fun h=>hb (.inr h)
    simp[unqS,this]
   rw[e2,ih];simp
theorem zlc (t:List UInt8):(unqL (esc t)).1=t:=by
 unfold unqL;rw[zra];simp
def isQ (l:List UInt8):Bool:=decide (1<l.length) && decide (l.head?=some 34) && decide (l.getLast?=some 34)
def inner (l:List UInt8):List UInt8:=(l.drop 1).dropLast
theorem zlT (t:List UInt8):isQ (quotedL t)=true:=by
 have e:(quotedL t).getLast?=some 34:=by
  unfold quotedL;rw[show 34::esc t++[34]=(34::esc t)++[34] from rfl,List.getLast?_concat]
 unfold isQ;rw[e];unfold quotedL;simp
theorem zi0 (t:List UInt8):inner (quotedL t)=esc t:=by
 unfold inner quotedL;simp
def nullL:List UInt8:=[110,117,108,108]
def candV (l:List UInt8):Option (Int×Int×List UInt8) :=
 if l=nullL then some (0,0,[]) else if isQ l=true then some (2,0,(unqL (inner l)).1) else match Lib.atoiAll l with
  | .ok n=>some (1,n,[])
  | _=>none
theorem zjf:candV nullL=some (0,0,[]):=rfl
theorem zkc (t:List UInt8):candV (quotedL t)=some (2,0,t):=by
 unfold candV;rw[if_neg (by unfold quotedL nullL;simp),if_pos (zlT t),zi0,zlc]
def ze1 (l:List UInt8) (k n:Int) (t:List UInt8) (er:Int):Prop :=
 (er=0∧candV l=some (k,n,t)∧showL k n ⟨t.toArray⟩=l)∨
 (er=20∧k=0∧n=0∧t=[]∧∀ k' n' t',candV l=some (k',n',t')→showL k' n' ⟨t'.toArray⟩≠l)
theorem zpU (s:ByteArray):(⟨s.data.toList.toArray⟩:ByteArray)=s:=by simp
theorem zlm {k n:Int} {t:ByteArray} {l:List UInt8} (h:showL k n t=l) (hl:l≠[]):rightB k n t=true:=by
 by_cases hr:rightB k n t=true
 ·exact hr
 ·unfold showL at h;rw[if_neg hr]at h;exact absurd h.symm hl
theorem zsI (l:List UInt8) (k:Nat) (hl:l.length≤100000):(unqL (l.take k)).1.length≤100000:=by
 have:=zjm (l.take k);have:(l.take k).length≤l.length:=List.length_take_le' _ _;omega
theorem zfn (s:ByteArray) (w:World) (hs:s.size≤100000) :
 Calls Tryz.prog 155 #[.string s] w fun e w'=>e=.returned (.string ⟨(unqL s.data.toList).1.toArray⟩)∧Below w.heap.size w w':=by
 obtain ⟨i0,hi,hz0,hz1,hz2⟩:=info_parts info5;have hcv:=fun w=>Lib.run_convert_string_bytes (P:=Tryz.prog) w 9 122 5 s underlying9 underlying122 underlying5
 obtain ⟨C,m,hrow,hC⟩:=zjh (w:=w) 5 s;have hb:=Lib.bytesWorld_below w 5 s;have hz:w.heap.size+1≤(Lib.bytesWorld w 5 s).heap.size:=by rw[Lib.bytesWorld_size];simp
 have hLs:s.data.toList.length≤100000:=by rw[← zau];exact hs
 have HC:=hid hC;clear hC;go_enter func155,ntmps155
 go_wp2_with fail
 clear hcv;generalize Lib.bytesWorld w 5 s=wB at *
 go_loopw [3,4,10] (fun v e i wr=>∃ k:Nat,k≤s.size∧i=.int .i64 k∧e=.bool (unqL (s.data.toList.take k)).2∧wr.ownsRow w.heap.size 5 1 v (unqL (s.data.toList.take k)).1.length (zb2 (unqL (s.data.toList.take k)).1)∧wr.heap[w.heap.size]?=some (.cells C 5 (m,m+1))∧Below w.heap.size w wr∧w.heap.size+1≤wr.heap.size)
  (fun _ _ i _=>s.size-(intOf i).toNat)
 case atStart=>exact ⟨0,by omega,rfl,rfl,World.ownsRow_nil _ _ _ _,hrow,hb,hz⟩
 case round =>
  clear hrow hb hz;obtain ⟨k,hk,rfl,rfl,hown,hrow,hbel,hz⟩:=hrel;by_cases hlt:k<s.size
  ·obtain ⟨b,hbk⟩:=bat s k hlt;have hc:wr.cell? ⟨w.heap.size,k,none⟩=some (.int .u8 b.toNat):=by rw[cell_of_row _ _ _ _ _ _ hrow];exact HC.out k b hbk
   have hq:=zsI s.data.toList k hLs;have HST:=hid (zo1 s.data.toList k b hbk);have hb8:=zh5 b;have hne:=zdE hown hrow;clear hbk;obtain ⟨L,E,hL⟩:∃ L E,unqL (s.data.toList.take k)=(L,E):=⟨_,_,rfl⟩;rw[hL]at hq hown HST ⊢;dsimp only at hq hown ⊢;have HL:=hid hL;clear hL;have HOWN:=hid hown;have HROW:=hid hrow;have HNE:=hid hne;have HBEL:=hid hbel;clear hown hrow hne hbel;by_cases h1:(b.toNat:Int)=92
   ·have h2:((b.toNat:Int) == 92)=true:=by simpa using h1
    have hb92:b=92:=zev (by rw[h1];rfl)
    cases E
    ·have HB:Hid (unqS (L,false) b=(L,true)):=by show unqS (L,false) b=(L,true);simp[unqS,hb92]
     clear h1 hb92;go_wp2_with fail
     go_roundw
     case rel=>exact ⟨k+1,by omega,by go_num,by rw[HST.out,HB.out],by rw[HST.out,HB.out];exact HOWN.out,HROW.out,HBEL.out,by omega⟩
     case measure=>simp[intOf];omega
    ·have HB:Hid (unqS (L,true) b=(L++[b],false)):=by show unqS (L,true) b=(L++[b],false);simp[unqS]
     clear h1 hb92;go_wp2_with (at_builtin;refine zdi rfl (.tmp 20) (.tmp 22) 122 5 rfl underlying122 hi hz0 hz1 hz2 w.heap.size u3 L b _ ?_ ?_ HOWN.out ?_ ?_ ?_ ?_;rfl;rfl;rfl;omega;omega;intro v1 w1 hown1 hg1)
     obtain ⟨r1,bb1,zz1⟩:=zdf HOWN.out HROW.out HBEL.out (yG _) (by omega) hg1;go_roundw
     case rel=>exact ⟨k+1,by omega,by go_num,by rw[HST.out,HB.out],by rw[HST.out,HB.out];exact hown1,r1,bb1,by omega⟩
     case measure=>simp[intOf];omega
   ·have h2:((b.toNat:Int) == 92)=false:=by simpa using h1
    have HB:Hid (unqS (L,E) b=(L++[b],false)):=by
     show unqS (L,E) b=(L++[b],false)
     have:b≠92:=fun h=>h1 (by rw[h];rfl)
     simp[unqS,this]
    clear h1;go_wp2_with (at_builtin;refine zdi rfl (.tmp 20) (.tmp 22) 122 5 rfl underlying122 hi hz0 hz1 hz2 w.heap.size u3 L b _ ?_ ?_ HOWN.out ?_ ?_ ?_ ?_;rfl;rfl;rfl;omega;omega;intro v1 w1 hown1 hg1)
    obtain ⟨r1,bb1,zz1⟩:=zdf HOWN.out HROW.out HBEL.out (yG _) (by omega) hg1;go_roundw
    case rel=>exact ⟨k+1,by omega,by go_num,by rw[HST.out,HB.out],by rw[HST.out,HB.out];exact hown1,r1,bb1,by omega⟩
    case measure=>simp[intOf];omega
  ·have ek:k=s.size:=by omega
   rw[ek,zau,List.take_length]at hown ⊢;have hst:=zcw 122 9 5 underlying122 underlying5 underlying9 hown rfl;have hge:s.data.toList.length≤s.data.toList.length:=yG _;have HBEL:=hid hbel;clear ek hown hrow hbel;go_wp2_with fail
   go_ret
   exact ⟨rfl,HBEL.out⟩
theorem zcQ (a:List UInt8):(⟨a.toArray⟩:ByteArray).size=a.length:=by simp[ByteArray.size]
theorem zeE (a:ByteArray):a.size=a.data.toList.length:=zau a
theorem zfY {a:ByteArray} {l:List UInt8} (h:a.data.toList=l):a=⟨l.toArray⟩:=by subst h;simp
theorem str_at {s:ByteArray} {j:Nat} {b:UInt8} (hj:j<s.size) (h:s.data.toList[j]?=some b):s[j]=b:=by
 have:s.data[j]?=some b:=by simpa using h
 obtain ⟨_,h2⟩:=Array.getElem?_eq_some_iff.1 this;exact h2
theorem zgi (s:ByteArray):s.toList=s.data.toList:=Lib.toList_data s
theorem eqs {s:ByteArray} {l:List UInt8} (b:Bool) (h:decide (s.data.toList=l)=b):(s.toList == l)=b:=by
 rw[zgi,← h,Bool.eq_iff_iff];simp
theorem zg3 (s:ByteArray) (h:1<s.size):(s.extract 1 (s.size-1)).data.toList=inner s.data.toList:=by
 rw[Lib.extract_data];unfold inner;rw[List.dropLast_eq_take,List.length_drop,← zau]
def NQ (s:ByteArray):Prop:=s.size≤1∨(1<s.size∧∃ b,s.data.toList[0]?=some b∧b≠34)∨(1<s.size∧s.data.toList[0]?=some 34∧∃ b,s.data.toList[s.size-1]?=some b∧b≠34)
theorem nq_of {s:ByteArray} (h:isQ s.data.toList=false):NQ s:=by
 unfold isQ at h;by_cases h1:s.size≤1
 ·exact .inl h1
 have h2:1<s.data.toList.length:=by rw[← zau];omega
 rw[yO h2,Bool.true_and,Bool.and_eq_false_iff,yK,yK,List.head?_eq_getElem?,List.getLast?_eq_getElem?,← zau]at h;obtain ⟨b0,hb0⟩:=bat s 0 (by omega);obtain ⟨b1,hb1⟩:=bat s (s.size-1) (by omega);rw[hb0,hb1]at h;by_cases e:b0=34
 ·subst e;refine .inr (.inr ⟨by omega,hb0,b1,hb1,?_⟩);rintro rfl;rcases h with h|h<;>exact h rfl
 ·exact .inr (.inl ⟨by omega,b0,hb0,e⟩)
theorem ne34 {b:UInt8} (h:b≠34):((b.toNat:Int) == 34)=false:=by
 have:¬ (b.toNat:Int)=34:=fun hx=>h (zev (by rw[hx];rfl))
 simpa using this
theorem zlz (w:World) (hE:Env w) :
 Calls Tryz.prog 137 #[.string ⟨#[110,117,108,108]⟩] w fun e w'=>e=.returned (.tuple #[.agg #[.int .i64 0,.int .i64 0,.string ⟨#[]⟩],.int .i64 0])∧Below w.heap.size w w':=by
 have HE:=hid hE;have ht64:(⟨#[]⟩:ByteArray).size≤9223372036854775807:=by decide
 have n0:(-9223372036854775808:Int)≤0:=by decide
 have n1:(0:Int)≤9223372036854775807:=by decide
 have hS:showL 0 0 ⟨#[]⟩=[110,117,108,108]:=by decide +kernel
 have hsa:=fun W h=>show_any 0 0 ⟨#[]⟩ W ht64 n0 n1 h
 rw[hS]at hsa;have HSA:=hid hsa;clear hE hS hsa;go_enter func137,ntmps137
 go_wp2_with fail
 refine (null_any _).mono ?_;rintro e w1 ⟨rfl,hb⟩;have R:=(Box.new w [.int .i64 0,.int .i64 0,.string ⟨#[]⟩] 24).next hb;have bw:=two (w:=w) (by go_grown) hb;clear hb;have hz:w.heap.size<w1.heap.size:=R.lt;have hz1:¬ w1.heap.size=w.heap.size:=by omega
 have hz2:¬ w.heap.size=w1.heap.size:=by omega
 have V:=Box.new w1 [.int .i64 0,.int .i64 0,.string ⟨#[]⟩] 24;have R:=R.alloc (.cells #[.int .i64 0,.int .i64 0,.string ⟨#[]⟩] 24);have bw:=bw.alloc (Nat.le_of_lt hz) (.cells #[.int .i64 0,.int .i64 0,.string ⟨#[]⟩] 24);obtain ⟨r0,r1,r2,q0,q1,q2⟩:=R.three;obtain ⟨x0,x1,x2,p0,p1,p2⟩:=V.three;go_wp2_with fail
 clear r0 r1 r2 q0 q1 q2 x0 x1 x2 p0 p1 p2;refine (HSA.out _ (HE.out.below bw)).mono ?_;rintro e w6 ⟨rfl,hb⟩;have R:=R.next hb;have V:=V.next hb;have bw:=two bw hb;clear hb;obtain ⟨r0,r1,r2,q0,q1,q2⟩:=R.three;obtain ⟨x0,x1,x2,p0,p1,p2⟩:=V.three;go_wp2_with fail
 try simp only[Exit.inBlock,Exit.then]
 refine bodyPost_ret (by simp[results,results137,go_sem,r0,r1,r2,hz1,hz2];try rfl) rfl ?_;exact ⟨rfl,by go_grown⟩
theorem zpB (s t:ByteArray) (w:World) (hq:isQ s.data.toList=true) (hn:s.data.toList≠nullL) (ht:(unqL (inner s.data.toList)).1=t.data.toList) (hb0:decide ((⟨(showL 2 0 t).toArray⟩:ByteArray).data.toList=s.data.toList)=true) (hs:s.size≤20000) (hE:Env w) :
 Calls Tryz.prog 137 #[.string s] w fun e w'=>e=.returned (.tuple #[.agg #[.int .i64 2,.int .i64 0,.string t],.int .i64 0])∧Below w.heap.size w w':=by
 have HE:=hid hE;have hnull:=eqs false (yN hn);unfold nullL at hnull;have hsh:(showL 2 0 t == s.toList)=true:=by rw[zgi,← hb0,Bool.eq_iff_iff];simp
 have n0:(-9223372036854775808:Int)≤0:=by decide
 have n1:(0:Int)≤9223372036854775807:=by decide
 unfold isQ at hq;simp only[Bool.and_eq_true,yL]at hq;obtain ⟨⟨hl,hh⟩,hg⟩:=hq;have hl1:1<s.size:=by rw[zau];exact hl
 have a0:s.data.toList[0]?=some 34:=by rw[← List.head?_eq_getElem?];exact hh
 have a1:s.data.toList[s.size-1]?=some 34:=by rw[List.getLast?_eq_getElem?,← zau]at hg;exact hg
 have e0:=str_at (by omega) a0;have e1:=str_at (by omega) a1;have HI:=hid (zg3 s hl1);have hsl:(s.extract 1 (s.size-1)).size≤20000:=by
  rw[zeE,HI.out];unfold inner;simp;omega
 have HT:Hid ((⟨(unqL (s.extract 1 (s.size-1)).data.toList).1.toArray⟩:ByteArray)=t):=by
  show (⟨(unqL (s.extract 1 (s.size-1)).data.toList).1.toArray⟩:ByteArray)=t
  rw[HI.out,ht]
 have ht64:t.size≤9223372036854775807:=by
  rw[← HT.out,zcQ];have:=zjm (s.extract 1 (s.size-1)).data.toList;rw[← zau]at this;omega
 have HU:=fun W=>zfn (s.extract 1 (s.size-1)) W (by omega)
 rw[HT.out]at HU;have HU:=hid HU;clear hE hl hh hg a0 a1 hb0 hn ht;go_enter func137,ntmps137
 go_wp2_with fail
 refine (null_any _).mono ?_;rintro e w1 ⟨rfl,hb⟩;have R:=(Box.new w [.int .i64 0,.int .i64 0,.string ⟨#[]⟩] 24).next hb;have bw:=two (w:=w) (by go_grown) hb;clear hb;have hz:w.heap.size<w1.heap.size:=R.lt;have hz1:¬ w1.heap.size=w.heap.size:=by omega
 have hz2:¬ w.heap.size=w1.heap.size:=by omega
 have V:=Box.new w1 [.int .i64 0,.int .i64 0,.string ⟨#[]⟩] 24;have R:=R.alloc (.cells #[.int .i64 0,.int .i64 0,.string ⟨#[]⟩] 24);have bw:=bw.alloc (Nat.le_of_lt hz) (.cells #[.int .i64 0,.int .i64 0,.string ⟨#[]⟩] 24);obtain ⟨r0,r1,r2,q0,q1,q2⟩:=R.three;obtain ⟨x0,x1,x2,p0,p1,p2⟩:=V.three;go_wp2_with fail
 refine (HU.out _).mono ?_;rintro e w2 ⟨rfl,hb⟩;clear r0 r1 r2 q0 q1 q2 x0 x1 x2 p0 p1 p2;have R:=R.next hb;have V:=V.next hb;have bw:=two bw hb;clear hb;obtain ⟨r0,r1,r2,q0,q1,q2⟩:=R.three;obtain ⟨x0,x1,x2,p0,p1,p2⟩:=V.three;go_wp2_with fail
 refine (text_any t _).mono ?_;rintro e w3 ⟨rfl,hb⟩;clear r0 r1 r2 q0 q1 q2 x0 x1 x2 p0 p1 p2;have R:=R.next hb;have V:=V.next hb;have bw:=two bw hb;clear hb;obtain ⟨r0,r1,r2,q0,q1,q2⟩:=R.three;obtain ⟨x0,x1,x2,p0,p1,p2⟩:=V.three;have R':=R.other3 hz1 (.int .i64 2) (.int .i64 0) (.string t);have V':=V.put3 (.int .i64 2) (.int .i64 0) (.string t);have bw':=zfu bw (Nat.le_of_lt hz) (.int .i64 2) (.int .i64 0) (.string t);go_wp2_with fail
 generalize (((w3.setCell ⟨w1.heap.size,0,none⟩ (.int .i64 2)).setCell ⟨w1.heap.size,1,none⟩ (.int .i64 0)).setCell ⟨w1.heap.size,2,none⟩ (.string t))=w4 at R' V' bw' ⊢;clear r0 r1 r2 q0 q1 q2 x0 x1 x2 p0 p1 p2;clear R V bw;have R:=R';have V:=V';have bw:=bw';clear R' V' bw';refine (show_any 2 0 t _ ht64 n0 n1 (HE.out.below bw)).mono ?_;rintro e w6 ⟨rfl,hb⟩;have R:=R.next hb;have V:=V.next hb;have bw:=two bw hb;clear hb;obtain ⟨r0,r1,r2,q0,q1,q2⟩:=R.three;obtain ⟨x0,x1,x2,p0,p1,p2⟩:=V.three;go_wp2_with fail
 try simp only[Exit.inBlock,Exit.then]
 refine bodyPost_ret (by simp[results,results137,go_sem,r0,r1,r2,hz1,hz2];try rfl) rfl ?_;exact ⟨rfl,by go_grown⟩
theorem zpC (s t:ByteArray) (w:World) (hq:isQ s.data.toList=true) (hn:s.data.toList≠nullL) (ht:(unqL (inner s.data.toList)).1=t.data.toList) (hb0:decide ((⟨(showL 2 0 t).toArray⟩:ByteArray).data.toList=s.data.toList)=false) (hs:s.size≤20000) (hE:Env w) :
 Calls Tryz.prog 137 #[.string s] w fun e w'=>e=.returned (.tuple #[.agg #[.int .i64 0,.int .i64 0,.string ⟨#[]⟩],.int .i64 20])∧Below w.heap.size w w':=by
 have HE:=hid hE;have hnull:=eqs false (yN hn);unfold nullL at hnull;have hsh:(showL 2 0 t == s.toList)=false:=by rw[zgi,← hb0,Bool.eq_iff_iff];simp
 have n0:(-9223372036854775808:Int)≤0:=by decide
 have n1:(0:Int)≤9223372036854775807:=by decide
 unfold isQ at hq;simp only[Bool.and_eq_true,yL]at hq;obtain ⟨⟨hl,hh⟩,hg⟩:=hq;have hl1:1<s.size:=by rw[zau];exact hl
 have a0:s.data.toList[0]?=some 34:=by rw[← List.head?_eq_getElem?];exact hh
 have a1:s.data.toList[s.size-1]?=some 34:=by rw[List.getLast?_eq_getElem?,← zau]at hg;exact hg
 have e0:=str_at (by omega) a0;have e1:=str_at (by omega) a1;have HI:=hid (zg3 s hl1);have hsl:(s.extract 1 (s.size-1)).size≤20000:=by
  rw[zeE,HI.out];unfold inner;simp;omega
 have HT:Hid ((⟨(unqL (s.extract 1 (s.size-1)).data.toList).1.toArray⟩:ByteArray)=t):=by
  show (⟨(unqL (s.extract 1 (s.size-1)).data.toList).1.toArray⟩:ByteArray)=t
  rw[HI.out,ht]
 have ht64:t.size≤9223372036854775807:=by
  rw[← HT.out,zcQ];have:=zjm (s.extract 1 (s.size-1)).data.toList;rw[← zau]at this;omega
 have HU:=fun W=>zfn (s.extract 1 (s.size-1)) W (by omega)
 rw[HT.out]at HU;have HU:=hid HU;clear hE hl hh hg a0 a1 hb0 hn ht;go_enter func137,ntmps137
 go_wp2_with fail
 refine (null_any _).mono ?_;rintro e w1 ⟨rfl,hb⟩;have R:=(Box.new w [.int .i64 0,.int .i64 0,.string ⟨#[]⟩] 24).next hb;have bw:=two (w:=w) (by go_grown) hb;clear hb;have hz:w.heap.size<w1.heap.size:=R.lt;have hz1:¬ w1.heap.size=w.heap.size:=by omega
 have hz2:¬ w.heap.size=w1.heap.size:=by omega
 have V:=Box.new w1 [.int .i64 0,.int .i64 0,.string ⟨#[]⟩] 24;have R:=R.alloc (.cells #[.int .i64 0,.int .i64 0,.string ⟨#[]⟩] 24);have bw:=bw.alloc (Nat.le_of_lt hz) (.cells #[.int .i64 0,.int .i64 0,.string ⟨#[]⟩] 24);obtain ⟨r0,r1,r2,q0,q1,q2⟩:=R.three;obtain ⟨x0,x1,x2,p0,p1,p2⟩:=V.three;go_wp2_with fail
 refine (HU.out _).mono ?_;rintro e w2 ⟨rfl,hb⟩;clear r0 r1 r2 q0 q1 q2 x0 x1 x2 p0 p1 p2;have R:=R.next hb;have V:=V.next hb;have bw:=two bw hb;clear hb;obtain ⟨r0,r1,r2,q0,q1,q2⟩:=R.three;obtain ⟨x0,x1,x2,p0,p1,p2⟩:=V.three;go_wp2_with fail
 refine (text_any t _).mono ?_;rintro e w3 ⟨rfl,hb⟩;clear r0 r1 r2 q0 q1 q2 x0 x1 x2 p0 p1 p2;have R:=R.next hb;have V:=V.next hb;have bw:=two bw hb;clear hb;obtain ⟨r0,r1,r2,q0,q1,q2⟩:=R.three;obtain ⟨x0,x1,x2,p0,p1,p2⟩:=V.three;have R':=R.other3 hz1 (.int .i64 2) (.int .i64 0) (.string t);have V':=V.put3 (.int .i64 2) (.int .i64 0) (.string t);have bw':=zfu bw (Nat.le_of_lt hz) (.int .i64 2) (.int .i64 0) (.string t);go_wp2_with fail
 generalize (((w3.setCell ⟨w1.heap.size,0,none⟩ (.int .i64 2)).setCell ⟨w1.heap.size,1,none⟩ (.int .i64 0)).setCell ⟨w1.heap.size,2,none⟩ (.string t))=w4 at R' V' bw' ⊢;clear r0 r1 r2 q0 q1 q2 x0 x1 x2 p0 p1 p2;clear R V bw;have R:=R';have V:=V';have bw:=bw';clear R' V' bw';refine (show_any 2 0 t _ ht64 n0 n1 (HE.out.below bw)).mono ?_;rintro e w6 ⟨rfl,hb⟩;have R:=R.next hb;have V:=V.next hb;have bw:=two bw hb;clear hb;obtain ⟨r0,r1,r2,q0,q1,q2⟩:=R.three;obtain ⟨x0,x1,x2,p0,p1,p2⟩:=V.three;go_wp2_with fail
 try simp only[Exit.inBlock,Exit.then]
 refine bodyPost_ret (by simp[results,results137,go_sem,r0,r1,r2,hz1,hz2];try rfl) rfl ?_;exact ⟨rfl,by go_grown⟩
theorem zpD (s:ByteArray) (n:Int) (w:World) (hq:isQ s.data.toList=false) (hn:s.data.toList≠nullL) (ht:Lib.atoiAll s.data.toList=.ok n) (hb0:decide ((⟨(showL 1 n ⟨#[]⟩).toArray⟩:ByteArray).data.toList=s.data.toList)=true) (hs:s.size≤20000) (hE:Env w) :
 Calls Tryz.prog 137 #[.string s] w fun e w'=>e=.returned (.tuple #[.agg #[.int .i64 1,.int .i64 n,.string ⟨#[]⟩],.int .i64 0])∧Below w.heap.size w w':=by
 have HE:=hid hE;have hnull:=eqs false (yN hn);unfold nullL at hnull;have hsh:(showL 1 n ⟨#[]⟩ == s.toList)=true:=by rw[zgi,← hb0,Bool.eq_iff_iff];simp
 obtain ⟨n0,n1⟩:=Lib.atoiAll_bounds ht;have ht64:(⟨#[]⟩:ByteArray).size≤9223372036854775807:=by decide
 have HU:=hid (fun W=>zh7 s (by omega) n ht W);clear hE hb0 hn ht;rcases nq_of hq with h1|⟨h1,b,h2,h3⟩|⟨h1,h2,b,h3,h4⟩
 ·go_enter func137,ntmps137
  go_wp2_with fail
  refine (null_any _).mono ?_;rintro e w1 ⟨rfl,hb⟩;have R:=(Box.new w [.int .i64 0,.int .i64 0,.string ⟨#[]⟩] 24).next hb;have bw:=two (w:=w) (by go_grown) hb;clear hb;have hz:w.heap.size<w1.heap.size:=R.lt;have hz1:¬ w1.heap.size=w.heap.size:=by omega
  have hz2:¬ w.heap.size=w1.heap.size:=by omega
  have V:=Box.new w1 [.int .i64 0,.int .i64 0,.string ⟨#[]⟩] 24;have R:=R.alloc (.cells #[.int .i64 0,.int .i64 0,.string ⟨#[]⟩] 24);have bw:=bw.alloc (Nat.le_of_lt hz) (.cells #[.int .i64 0,.int .i64 0,.string ⟨#[]⟩] 24);obtain ⟨r0,r1,r2,q0,q1,q2⟩:=R.three;obtain ⟨x0,x1,x2,p0,p1,p2⟩:=V.three;go_wp2_with fail
  refine (HU.out _).mono ?_;rintro e w2 ⟨rfl,hb⟩;clear r0 r1 r2 q0 q1 q2 x0 x1 x2 p0 p1 p2;have R:=R.next hb;have V:=V.next hb;have bw:=two bw hb;clear hb;obtain ⟨r0,r1,r2,q0,q1,q2⟩:=R.three;obtain ⟨x0,x1,x2,p0,p1,p2⟩:=V.three;go_wp2_with fail
  refine (of_any n _).mono ?_;rintro e w3 ⟨rfl,hb⟩;clear r0 r1 r2 q0 q1 q2 x0 x1 x2 p0 p1 p2;have R:=R.next hb;have V:=V.next hb;have bw:=two bw hb;clear hb;obtain ⟨r0,r1,r2,q0,q1,q2⟩:=R.three;obtain ⟨x0,x1,x2,p0,p1,p2⟩:=V.three;have R':=R.other3 hz1 (.int .i64 1) (.int .i64 n) (.string ⟨#[]⟩);have V':=V.put3 (.int .i64 1) (.int .i64 n) (.string ⟨#[]⟩);have bw':=zfu bw (Nat.le_of_lt hz) (.int .i64 1) (.int .i64 n) (.string ⟨#[]⟩);go_wp2_with fail
  generalize (((w3.setCell ⟨w1.heap.size,0,none⟩ (.int .i64 1)).setCell ⟨w1.heap.size,1,none⟩ (.int .i64 n)).setCell ⟨w1.heap.size,2,none⟩ (.string ⟨#[]⟩))=w4 at R' V' bw' ⊢;clear r0 r1 r2 q0 q1 q2 x0 x1 x2 p0 p1 p2;clear R V bw;have R:=R';have V:=V';have bw:=bw';clear R' V' bw';refine (show_any 1 n ⟨#[]⟩ _ ht64 n0 n1 (HE.out.below bw)).mono ?_;rintro e w6 ⟨rfl,hb⟩;have R:=R.next hb;have V:=V.next hb;have bw:=two bw hb;clear hb;obtain ⟨r0,r1,r2,q0,q1,q2⟩:=R.three;obtain ⟨x0,x1,x2,p0,p1,p2⟩:=V.three;go_wp2_with fail
  try simp only[Exit.inBlock,Exit.then]
  refine bodyPost_ret (by simp[results,results137,go_sem,r0,r1,r2,hz1,hz2];try rfl) rfl ?_;exact ⟨rfl,by go_grown⟩
 ·have e0:=str_at (by omega) h2;have d0:=ne34 h3;clear h2 h3;go_enter func137,ntmps137
  go_wp2_with fail
  refine (null_any _).mono ?_;rintro e w1 ⟨rfl,hb⟩;have R:=(Box.new w [.int .i64 0,.int .i64 0,.string ⟨#[]⟩] 24).next hb;have bw:=two (w:=w) (by go_grown) hb;clear hb;have hz:w.heap.size<w1.heap.size:=R.lt;have hz1:¬ w1.heap.size=w.heap.size:=by omega
  have hz2:¬ w.heap.size=w1.heap.size:=by omega
  have V:=Box.new w1 [.int .i64 0,.int .i64 0,.string ⟨#[]⟩] 24;have R:=R.alloc (.cells #[.int .i64 0,.int .i64 0,.string ⟨#[]⟩] 24);have bw:=bw.alloc (Nat.le_of_lt hz) (.cells #[.int .i64 0,.int .i64 0,.string ⟨#[]⟩] 24);obtain ⟨r0,r1,r2,q0,q1,q2⟩:=R.three;obtain ⟨x0,x1,x2,p0,p1,p2⟩:=V.three;go_wp2_with fail
  refine (HU.out _).mono ?_;rintro e w2 ⟨rfl,hb⟩;clear r0 r1 r2 q0 q1 q2 x0 x1 x2 p0 p1 p2;have R:=R.next hb;have V:=V.next hb;have bw:=two bw hb;clear hb;obtain ⟨r0,r1,r2,q0,q1,q2⟩:=R.three;obtain ⟨x0,x1,x2,p0,p1,p2⟩:=V.three;go_wp2_with fail
  refine (of_any n _).mono ?_;rintro e w3 ⟨rfl,hb⟩;clear r0 r1 r2 q0 q1 q2 x0 x1 x2 p0 p1 p2;have R:=R.next hb;have V:=V.next hb;have bw:=two bw hb;clear hb;obtain ⟨r0,r1,r2,q0,q1,q2⟩:=R.three;obtain ⟨x0,x1,x2,p0,p1,p2⟩:=V.three;have R':=R.other3 hz1 (.int .i64 1) (.int .i64 n) (.string ⟨#[]⟩);have V':=V.put3 (.int .i64 1) (.int .i64 n) (.string ⟨#[]⟩);have bw':=zfu bw (Nat.le_of_lt hz) (.int .i64 1) (.int .i64 n) (.string ⟨#[]⟩);go_wp2_with fail
  generalize (((w3.setCell ⟨w1.heap.size,0,none⟩ (.int .i64 1)).setCell ⟨w1.heap.size,1,none⟩ (.int .i64 n)).setCell ⟨w1.heap.size,2,none⟩ (.string ⟨#[]⟩))=w4 at R' V' bw' ⊢;clear r0 r1 r2 q0 q1 q2 x0 x1 x2 p0 p1 p2;clear R V bw;have R:=R';have V:=V';have bw:=bw';clear R' V' bw';refine (show_any 1 n ⟨#[]⟩ _ ht64 n0 n1 (HE.out.below bw)).mono ?_;rintro e w6 ⟨rfl,hb⟩;have R:=R.next hb;have V:=V.next hb;have bw:=two bw hb;clear hb;obtain ⟨r0,r1,r2,q0,q1,q2⟩:=R.three;obtain ⟨x0,x1,x2,p0,p1,p2⟩:=V.three;go_wp2_with fail
  try simp only[Exit.inBlock,Exit.then]
  refine bodyPost_ret (by simp[results,results137,go_sem,r0,r1,r2,hz1,hz2];try rfl) rfl ?_;exact ⟨rfl,by go_grown⟩
 ·have e0:=str_at (by omega) h2;have e1:=str_at (by omega) h3;have d1:=ne34 h4;clear h2 h3 h4;go_enter func137,ntmps137
  go_wp2_with fail
  refine (null_any _).mono ?_;rintro e w1 ⟨rfl,hb⟩;have R:=(Box.new w [.int .i64 0,.int .i64 0,.string ⟨#[]⟩] 24).next hb;have bw:=two (w:=w) (by go_grown) hb;clear hb;have hz:w.heap.size<w1.heap.size:=R.lt;have hz1:¬ w1.heap.size=w.heap.size:=by omega
  have hz2:¬ w.heap.size=w1.heap.size:=by omega
  have V:=Box.new w1 [.int .i64 0,.int .i64 0,.string ⟨#[]⟩] 24;have R:=R.alloc (.cells #[.int .i64 0,.int .i64 0,.string ⟨#[]⟩] 24);have bw:=bw.alloc (Nat.le_of_lt hz) (.cells #[.int .i64 0,.int .i64 0,.string ⟨#[]⟩] 24);obtain ⟨r0,r1,r2,q0,q1,q2⟩:=R.three;obtain ⟨x0,x1,x2,p0,p1,p2⟩:=V.three;go_wp2_with fail
  refine (HU.out _).mono ?_;rintro e w2 ⟨rfl,hb⟩;clear r0 r1 r2 q0 q1 q2 x0 x1 x2 p0 p1 p2;have R:=R.next hb;have V:=V.next hb;have bw:=two bw hb;clear hb;obtain ⟨r0,r1,r2,q0,q1,q2⟩:=R.three;obtain ⟨x0,x1,x2,p0,p1,p2⟩:=V.three;go_wp2_with fail
  refine (of_any n _).mono ?_;rintro e w3 ⟨rfl,hb⟩;clear r0 r1 r2 q0 q1 q2 x0 x1 x2 p0 p1 p2;have R:=R.next hb;have V:=V.next hb;have bw:=two bw hb;clear hb;obtain ⟨r0,r1,r2,q0,q1,q2⟩:=R.three;obtain ⟨x0,x1,x2,p0,p1,p2⟩:=V.three;have R':=R.other3 hz1 (.int .i64 1) (.int .i64 n) (.string ⟨#[]⟩);have V':=V.put3 (.int .i64 1) (.int .i64 n) (.string ⟨#[]⟩);have bw':=zfu bw (Nat.le_of_lt hz) (.int .i64 1) (.int .i64 n) (.string ⟨#[]⟩);go_wp2_with fail
  generalize (((w3.setCell ⟨w1.heap.size,0,none⟩ (.int .i64 1)).setCell ⟨w1.heap.size,1,none⟩ (.int .i64 n)).setCell ⟨w1.heap.size,2,none⟩ (.string ⟨#[]⟩))=w4 at R' V' bw' ⊢;clear r0 r1 r2 q0 q1 q2 x0 x1 x2 p0 p1 p2;clear R V bw;have R:=R';have V:=V';have bw:=bw';clear R' V' bw';refine (show_any 1 n ⟨#[]⟩ _ ht64 n0 n1 (HE.out.below bw)).mono ?_;rintro e w6 ⟨rfl,hb⟩;have R:=R.next hb;have V:=V.next hb;have bw:=two bw hb;clear hb;obtain ⟨r0,r1,r2,q0,q1,q2⟩:=R.three;obtain ⟨x0,x1,x2,p0,p1,p2⟩:=V.three;go_wp2_with fail
  try simp only[Exit.inBlock,Exit.then]
  refine bodyPost_ret (by simp[results,results137,go_sem,r0,r1,r2,hz1,hz2];try rfl) rfl ?_;exact ⟨rfl,by go_grown⟩
theorem zpF (s:ByteArray) (n:Int) (w:World) (hq:isQ s.data.toList=false) (hn:s.data.toList≠nullL) (ht:Lib.atoiAll s.data.toList=.ok n) (hb0:decide ((⟨(showL 1 n ⟨#[]⟩).toArray⟩:ByteArray).data.toList=s.data.toList)=false) (hs:s.size≤20000) (hE:Env w) :
 Calls Tryz.prog 137 #[.string s] w fun e w'=>e=.returned (.tuple #[.agg #[.int .i64 0,.int .i64 0,.string ⟨#[]⟩],.int .i64 20])∧Below w.heap.size w w':=by
 have HE:=hid hE;have hnull:=eqs false (yN hn);unfold nullL at hnull;have hsh:(showL 1 n ⟨#[]⟩ == s.toList)=false:=by rw[zgi,← hb0,Bool.eq_iff_iff];simp
 obtain ⟨n0,n1⟩:=Lib.atoiAll_bounds ht;have ht64:(⟨#[]⟩:ByteArray).size≤9223372036854775807:=by decide
 have HU:=hid (fun W=>zh7 s (by omega) n ht W);clear hE hb0 hn ht;rcases nq_of hq with h1|⟨h1,b,h2,h3⟩|⟨h1,h2,b,h3,h4⟩
 ·go_enter func137,ntmps137
  go_wp2_with fail
  refine (null_any _).mono ?_;rintro e w1 ⟨rfl,hb⟩;have R:=(Box.new w [.int .i64 0,.int .i64 0,.string ⟨#[]⟩] 24).next hb;have bw:=two (w:=w) (by go_grown) hb;clear hb;have hz:w.heap.size<w1.heap.size:=R.lt;have hz1:¬ w1.heap.size=w.heap.size:=by omega
  have hz2:¬ w.heap.size=w1.heap.size:=by omega
  have V:=Box.new w1 [.int .i64 0,.int .i64 0,.string ⟨#[]⟩] 24;have R:=R.alloc (.cells #[.int .i64 0,.int .i64 0,.string ⟨#[]⟩] 24);have bw:=bw.alloc (Nat.le_of_lt hz) (.cells #[.int .i64 0,.int .i64 0,.string ⟨#[]⟩] 24);obtain ⟨r0,r1,r2,q0,q1,q2⟩:=R.three;obtain ⟨x0,x1,x2,p0,p1,p2⟩:=V.three;go_wp2_with fail
  refine (HU.out _).mono ?_;rintro e w2 ⟨rfl,hb⟩;clear r0 r1 r2 q0 q1 q2 x0 x1 x2 p0 p1 p2;have R:=R.next hb;have V:=V.next hb;have bw:=two bw hb;clear hb;obtain ⟨r0,r1,r2,q0,q1,q2⟩:=R.three;obtain ⟨x0,x1,x2,p0,p1,p2⟩:=V.three;go_wp2_with fail
  refine (of_any n _).mono ?_;rintro e w3 ⟨rfl,hb⟩;clear r0 r1 r2 q0 q1 q2 x0 x1 x2 p0 p1 p2;have R:=R.next hb;have V:=V.next hb;have bw:=two bw hb;clear hb;obtain ⟨r0,r1,r2,q0,q1,q2⟩:=R.three;obtain ⟨x0,x1,x2,p0,p1,p2⟩:=V.three;have R':=R.other3 hz1 (.int .i64 1) (.int .i64 n) (.string ⟨#[]⟩);have V':=V.put3 (.int .i64 1) (.int .i64 n) (.string ⟨#[]⟩);have bw':=zfu bw (Nat.le_of_lt hz) (.int .i64 1) (.int .i64 n) (.string ⟨#[]⟩);go_wp2_with fail
  generalize (((w3.setCell ⟨w1.heap.size,0,none⟩ (.int .i64 1)).setCell ⟨w1.heap.size,1,none⟩ (.int .i64 n)).setCell ⟨w1.heap.size,2,none⟩ (.string ⟨#[]⟩))=w4 at R' V' bw' ⊢;clear r0 r1 r2 q0 q1 q2 x0 x1 x2 p0 p1 p2;clear R V bw;have R:=R';have V:=V';have bw:=bw';clear R' V' bw';refine (show_any 1 n ⟨#[]⟩ _ ht64 n0 n1 (HE.out.below bw)).mono ?_;rintro e w6 ⟨rfl,hb⟩;have R:=R.next hb;have V:=V.next hb;have bw:=two bw hb;clear hb;obtain ⟨r0,r1,r2,q0,q1,q2⟩:=R.three;obtain ⟨x0,x1,x2,p0,p1,p2⟩:=V.three;go_wp2_with fail
  try simp only[Exit.inBlock,Exit.then]
  refine bodyPost_ret (by simp[results,results137,go_sem,r0,r1,r2,hz1,hz2];try rfl) rfl ?_;exact ⟨rfl,by go_grown⟩
 ·have e0:=str_at (by omega) h2;have d0:=ne34 h3;clear h2 h3;go_enter func137,ntmps137
  go_wp2_with fail
  refine (null_any _).mono ?_;rintro e w1 ⟨rfl,hb⟩;have R:=(Box.new w [.int .i64 0,.int .i64 0,.string ⟨#[]⟩] 24).next hb;have bw:=two (w:=w) (by go_grown) hb;clear hb;have hz:w.heap.size<w1.heap.size:=R.lt;have hz1:¬ w1.heap.size=w.heap.size:=by omega
  have hz2:¬ w.heap.size=w1.heap.size:=by omega
  have V:=Box.new w1 [.int .i64 0,.int .i64 0,.string ⟨#[]⟩] 24;have R:=R.alloc (.cells #[.int .i64 0,.int .i64 0,.string ⟨#[]⟩] 24);have bw:=bw.alloc (Nat.le_of_lt hz) (.cells #[.int .i64 0,.int .i64 0,.string ⟨#[]⟩] 24);obtain ⟨r0,r1,r2,q0,q1,q2⟩:=R.three;obtain ⟨x0,x1,x2,p0,p1,p2⟩:=V.three;go_wp2_with fail
  refine (HU.out _).mono ?_;rintro e w2 ⟨rfl,hb⟩;clear r0 r1 r2 q0 q1 q2 x0 x1 x2 p0 p1 p2;have R:=R.next hb;have V:=V.next hb;have bw:=two bw hb;clear hb;obtain ⟨r0,r1,r2,q0,q1,q2⟩:=R.three;obtain ⟨x0,x1,x2,p0,p1,p2⟩:=V.three;go_wp2_with fail
  refine (of_any n _).mono ?_;rintro e w3 ⟨rfl,hb⟩;clear r0 r1 r2 q0 q1 q2 x0 x1 x2 p0 p1 p2;have R:=R.next hb;have V:=V.next hb;have bw:=two bw hb;clear hb;obtain ⟨r0,r1,r2,q0,q1,q2⟩:=R.three;obtain ⟨x0,x1,x2,p0,p1,p2⟩:=V.three;have R':=R.other3 hz1 (.int .i64 1) (.int .i64 n) (.string ⟨#[]⟩);have V':=V.put3 (.int .i64 1) (.int .i64 n) (.string ⟨#[]⟩);have bw':=zfu bw (Nat.le_of_lt hz) (.int .i64 1) (.int .i64 n) (.string ⟨#[]⟩);go_wp2_with fail
  generalize (((w3.setCell ⟨w1.heap.size,0,none⟩ (.int .i64 1)).setCell ⟨w1.heap.size,1,none⟩ (.int .i64 n)).setCell ⟨w1.heap.size,2,none⟩ (.string ⟨#[]⟩))=w4 at R' V' bw' ⊢;clear r0 r1 r2 q0 q1 q2 x0 x1 x2 p0 p1 p2;clear R V bw;have R:=R';have V:=V';have bw:=bw';clear R' V' bw';refine (show_any 1 n ⟨#[]⟩ _ ht64 n0 n1 (HE.out.below bw)).mono ?_;rintro e w6 ⟨rfl,hb⟩;have R:=R.next hb;have V:=V.next hb;have bw:=two bw hb;clear hb;obtain ⟨r0,r1,r2,q0,q1,q2⟩:=R.three;obtain ⟨x0,x1,x2,p0,p1,p2⟩:=V.three;go_wp2_with fail
  try simp only[Exit.inBlock,Exit.then]
  refine bodyPost_ret (by simp[results,results137,go_sem,r0,r1,r2,hz1,hz2];try rfl) rfl ?_;exact ⟨rfl,by go_grown⟩
 ·have e0:=str_at (by omega) h2;have e1:=str_at (by omega) h3;have d1:=ne34 h4;clear h2 h3 h4;go_enter func137,ntmps137
  go_wp2_with fail
  refine (null_any _).mono ?_;rintro e w1 ⟨rfl,hb⟩;have R:=(Box.new w [.int .i64 0,.int .i64 0,.string ⟨#[]⟩] 24).next hb;have bw:=two (w:=w) (by go_grown) hb;clear hb;have hz:w.heap.size<w1.heap.size:=R.lt;have hz1:¬ w1.heap.size=w.heap.size:=by omega
  have hz2:¬ w.heap.size=w1.heap.size:=by omega
  have V:=Box.new w1 [.int .i64 0,.int .i64 0,.string ⟨#[]⟩] 24;have R:=R.alloc (.cells #[.int .i64 0,.int .i64 0,.string ⟨#[]⟩] 24);have bw:=bw.alloc (Nat.le_of_lt hz) (.cells #[.int .i64 0,.int .i64 0,.string ⟨#[]⟩] 24);obtain ⟨r0,r1,r2,q0,q1,q2⟩:=R.three;obtain ⟨x0,x1,x2,p0,p1,p2⟩:=V.three;go_wp2_with fail
  refine (HU.out _).mono ?_;rintro e w2 ⟨rfl,hb⟩;clear r0 r1 r2 q0 q1 q2 x0 x1 x2 p0 p1 p2;have R:=R.next hb;have V:=V.next hb;have bw:=two bw hb;clear hb;obtain ⟨r0,r1,r2,q0,q1,q2⟩:=R.three;obtain ⟨x0,x1,x2,p0,p1,p2⟩:=V.three;go_wp2_with fail
  refine (of_any n _).mono ?_;rintro e w3 ⟨rfl,hb⟩;clear r0 r1 r2 q0 q1 q2 x0 x1 x2 p0 p1 p2;have R:=R.next hb;have V:=V.next hb;have bw:=two bw hb;clear hb;obtain ⟨r0,r1,r2,q0,q1,q2⟩:=R.three;obtain ⟨x0,x1,x2,p0,p1,p2⟩:=V.three;have R':=R.other3 hz1 (.int .i64 1) (.int .i64 n) (.string ⟨#[]⟩);have V':=V.put3 (.int .i64 1) (.int .i64 n) (.string ⟨#[]⟩);have bw':=zfu bw (Nat.le_of_lt hz) (.int .i64 1) (.int .i64 n) (.string ⟨#[]⟩);go_wp2_with fail
  generalize (((w3.setCell ⟨w1.heap.size,0,none⟩ (.int .i64 1)).setCell ⟨w1.heap.size,1,none⟩ (.int .i64 n)).setCell ⟨w1.heap.size,2,none⟩ (.string ⟨#[]⟩))=w4 at R' V' bw' ⊢;clear r0 r1 r2 q0 q1 q2 x0 x1 x2 p0 p1 p2;clear R V bw;have R:=R';have V:=V';have bw:=bw';clear R' V' bw';refine (show_any 1 n ⟨#[]⟩ _ ht64 n0 n1 (HE.out.below bw)).mono ?_;rintro e w6 ⟨rfl,hb⟩;have R:=R.next hb;have V:=V.next hb;have bw:=two bw hb;clear hb;obtain ⟨r0,r1,r2,q0,q1,q2⟩:=R.three;obtain ⟨x0,x1,x2,p0,p1,p2⟩:=V.three;go_wp2_with fail
  try simp only[Exit.inBlock,Exit.then]
  refine bodyPost_ret (by simp[results,results137,go_sem,r0,r1,r2,hz1,hz2];try rfl) rfl ?_;exact ⟨rfl,by go_grown⟩
theorem zpE (s:ByteArray) (w:World) (hq:isQ s.data.toList=false) (hn:s.data.toList≠nullL) (ht:∀ v,Lib.atoiAll s.data.toList≠.ok v) (hs:s.size≤20000) (hE:Env w) (hR:Errs w) :
 Calls Tryz.prog 137 #[.string s] w fun e w'=>e=.returned (.tuple #[.agg #[.int .i64 0,.int .i64 0,.string ⟨#[]⟩],.int .i64 20])∧Below w.heap.size w w':=by
 have HRR:=hid hR;have hnull:=eqs false (yN hn);unfold nullL at hnull;have HU:=hid (fun W=>zoG s (by omega) ht W);clear hE hn ht hR;rcases nq_of hq with h1|⟨h1,b,h2,h3⟩|⟨h1,h2,b,h3,h4⟩
 ·go_enter func137,ntmps137
  go_wp2_with fail
  refine (null_any _).mono ?_;rintro e w1 ⟨rfl,hb⟩;have R:=(Box.new w [.int .i64 0,.int .i64 0,.string ⟨#[]⟩] 24).next hb;have bw:=two (w:=w) (by go_grown) hb;clear hb;have hz:w.heap.size<w1.heap.size:=R.lt;have hz1:¬ w1.heap.size=w.heap.size:=by omega
  have hz2:¬ w.heap.size=w1.heap.size:=by omega
  have V:=Box.new w1 [.int .i64 0,.int .i64 0,.string ⟨#[]⟩] 24;have R:=R.alloc (.cells #[.int .i64 0,.int .i64 0,.string ⟨#[]⟩] 24);have bw:=bw.alloc (Nat.le_of_lt hz) (.cells #[.int .i64 0,.int .i64 0,.string ⟨#[]⟩] 24);obtain ⟨r0,r1,r2,q0,q1,q2⟩:=R.three;obtain ⟨x0,x1,x2,p0,p1,p2⟩:=V.three;go_wp2_with fail
  refine (HU.out _ (HRR.out.below bw)).mono ?_;rintro e w2 ⟨n,N,rfl,hb⟩;clear r0 r1 r2 q0 q1 q2 x0 x1 x2 p0 p1 p2;have R:=R.next hb;have V:=V.next hb;have bw:=two bw hb;clear hb;obtain ⟨r0,r1,r2,q0,q1,q2⟩:=R.three;obtain ⟨x0,x1,x2,p0,p1,p2⟩:=V.three;go_wp2_with fail
  try simp only[Exit.inBlock,Exit.then]
  refine bodyPost_ret (by simp[results,results137,go_sem,r0,r1,r2,hz1,hz2];try rfl) rfl ?_;exact ⟨rfl,by go_grown⟩
 ·have e0:=str_at (by omega) h2;have d0:=ne34 h3;clear h2 h3;go_enter func137,ntmps137
  go_wp2_with fail
  refine (null_any _).mono ?_;rintro e w1 ⟨rfl,hb⟩;have R:=(Box.new w [.int .i64 0,.int .i64 0,.string ⟨#[]⟩] 24).next hb;have bw:=two (w:=w) (by go_grown) hb;clear hb;have hz:w.heap.size<w1.heap.size:=R.lt;have hz1:¬ w1.heap.size=w.heap.size:=by omega
  have hz2:¬ w.heap.size=w1.heap.size:=by omega
  have V:=Box.new w1 [.int .i64 0,.int .i64 0,.string ⟨#[]⟩] 24;have R:=R.alloc (.cells #[.int .i64 0,.int .i64 0,.string ⟨#[]⟩] 24);have bw:=bw.alloc (Nat.le_of_lt hz) (.cells #[.int .i64 0,.int .i64 0,.string ⟨#[]⟩] 24);obtain ⟨r0,r1,r2,q0,q1,q2⟩:=R.three;obtain ⟨x0,x1,x2,p0,p1,p2⟩:=V.three;go_wp2_with fail
  refine (HU.out _ (HRR.out.below bw)).mono ?_;rintro e w2 ⟨n,N,rfl,hb⟩;clear r0 r1 r2 q0 q1 q2 x0 x1 x2 p0 p1 p2;have R:=R.next hb;have V:=V.next hb;have bw:=two bw hb;clear hb;obtain ⟨r0,r1,r2,q0,q1,q2⟩:=R.three;obtain ⟨x0,x1,x2,p0,p1,p2⟩:=V.three;go_wp2_with fail
  try simp only[Exit.inBlock,Exit.then]
  refine bodyPost_ret (by simp[results,results137,go_sem,r0,r1,r2,hz1,hz2];try rfl) rfl ?_;exact ⟨rfl,by go_grown⟩
 ·have e0:=str_at (by omega) h2;have e1:=str_at (by omega) h3;have d1:=ne34 h4;clear h2 h3 h4;go_enter func137,ntmps137
  go_wp2_with fail
  refine (null_any _).mono ?_;rintro e w1 ⟨rfl,hb⟩;have R:=(Box.new w [.int .i64 0,.int .i64 0,.string ⟨#[]⟩] 24).next hb;have bw:=two (w:=w) (by go_grown) hb;clear hb;have hz:w.heap.size<w1.heap.size:=R.lt;have hz1:¬ w1.heap.size=w.heap.size:=by omega
  have hz2:¬ w.heap.size=w1.heap.size:=by omega
  have V:=Box.new w1 [.int .i64 0,.int .i64 0,.string ⟨#[]⟩] 24;have R:=R.alloc (.cells #[.int .i64 0,.int .i64 0,.string ⟨#[]⟩] 24);have bw:=bw.alloc (Nat.le_of_lt hz) (.cells #[.int .i64 0,.int .i64 0,.string ⟨#[]⟩] 24);obtain ⟨r0,r1,r2,q0,q1,q2⟩:=R.three;obtain ⟨x0,x1,x2,p0,p1,p2⟩:=V.three;go_wp2_with fail
  refine (HU.out _ (HRR.out.below bw)).mono ?_;rintro e w2 ⟨n,N,rfl,hb⟩;clear r0 r1 r2 q0 q1 q2 x0 x1 x2 p0 p1 p2;have R:=R.next hb;have V:=V.next hb;have bw:=two bw hb;clear hb;obtain ⟨r0,r1,r2,q0,q1,q2⟩:=R.three;obtain ⟨x0,x1,x2,p0,p1,p2⟩:=V.three;go_wp2_with fail
  try simp only[Exit.inBlock,Exit.then]
  refine bodyPost_ret (by simp[results,results137,go_sem,r0,r1,r2,hz1,hz2];try rfl) rfl ?_;exact ⟨rfl,by go_grown⟩
theorem zkI (s:ByteArray) (k n:Int) (t:ByteArray) (er:Int) (w:World) (h:ze1 s.data.toList k n t.data.toList er) (hs:s.size≤20000) (hE:Env w) (hR:Errs w) :
 Calls Tryz.prog 137 #[.string s] w fun e w'=>e=.returned (.tuple #[.agg #[.int .i64 k,.int .i64 n,.string t],.int .i64 er])∧Below w.heap.size w w':=by
 by_cases hn:s.data.toList=nullL
 ·obtain rfl:s=⟨#[110,117,108,108]⟩:=zfY hn;have hv:k=0∧n=0∧t=⟨#[]⟩∧er=0:=by
   rcases h with ⟨rfl,hc,hs⟩|⟨rfl,rfl,rfl,ht,hx⟩
   ·have hc':candV nullL=some (k,n,t.data.toList):=hc;rw[zjf]at hc';simp only[Option.some.injEq,Prod.mk.injEq]at hc';obtain ⟨rfl,rfl,h3⟩:=hc';exact ⟨rfl,rfl,zfY h3.symm,rfl⟩
   ·exact absurd (by decide +kernel) (hx 0 0 [] zjf)
  obtain ⟨rfl,rfl,rfl,rfl⟩:=hv;exact zlz w hE
 by_cases hq:isQ s.data.toList=true
 ·have hc:candV s.data.toList=some (2,0,(unqL (inner s.data.toList)).1):=by unfold candV;rw[if_neg hn,if_pos hq]
  rcases h with ⟨rfl,hc2,hs2⟩|⟨rfl,rfl,rfl,ht,hx⟩
  ·rw[hc]at hc2;simp only[Option.some.injEq,Prod.mk.injEq]at hc2;obtain ⟨rfl,rfl,h3⟩:=hc2;rw[zpU]at hs2;exact zpB s t w hq hn h3 (yO hs2) hs hE
  ·obtain rfl:t=⟨#[]⟩:=zfY ht;exact zpC s ⟨(unqL (inner s.data.toList)).1.toArray⟩ w hq hn rfl (yN (hx _ _ _ hc)) hs hE
 have hq':isQ s.data.toList=false:=by simpa using hq
 cases ha:Lib.atoiAll s.data.toList with
 | ok v =>
  have hc:candV s.data.toList=some (1,v,[]):=by unfold candV;rw[if_neg hn,if_neg hq,ha]
  rcases h with ⟨rfl,hc2,hs2⟩|⟨rfl,rfl,rfl,ht,hx⟩
  ·rw[hc]at hc2;simp only[Option.some.injEq,Prod.mk.injEq]at hc2;obtain ⟨rfl,rfl,h3⟩:=hc2;obtain rfl:t=⟨#[]⟩:=zfY h3.symm;exact zpD s v w hq' hn ha (yO hs2) hs hE
  ·obtain rfl:t=⟨#[]⟩:=zfY ht;exact zpF s v w hq' hn ha (yN (hx _ _ _ hc)) hs hE
 | _ =>
  have hc:candV s.data.toList=none:=by unfold candV;rw[if_neg hn,if_neg hq,ha]
  rcases h with ⟨rfl,hc2,hs2⟩|⟨rfl,rfl,rfl,ht,hx⟩
  ·rw[hc]at hc2;cases hc2
  ·obtain rfl:t=⟨#[]⟩:=zfY ht;exact zpE s w hq' hn (fun v hv=>by rw[ha]at hv;cases hv) hs hE hR
