/- Walks: how tight an expression is; its text. Walks: the text of an expression in its place. Walks: the text of an expression. -/
import Derived.Test.YtonkjhmkppeagaaGreatDoorVEx
import Derived.Test.YtonkjhmkppeagaaGreatDoorVPsG
set_option maxRecDepth 100000
set_option maxHeartbeats 6400000
set_option linter.unusedVariables false
set_option linter.unusedSimpArgs false
namespace Go.Proofs.YtonkjhmkppeagaaGreatDoor.Pz
open Go.Proofs.Tryz
open Go.Lib (hid)
open Go.RowKit Go Go.Sort Ba Lx
def EnvR (w:World):Prop:=∃ bm o,bm<w.heap.size∧w.cell? ⟨0,0,none⟩=some (.map (some bm))∧w.heap[bm]?=some o∧
 ∀ (W:World) (key:ByteArray),W.heap[bm]?=some o→(Instr.lookup 173 (.map (some bm)) (.string key) false).run Tryz.prog W=.ok (.int .i64 (zaH key.data.toList:Int)) W
theorem EnvR.below {w w':World} (h:EnvR w) (hb:Below w.heap.size w w'):EnvR w':=by
 obtain ⟨bm,o,h1,h2,h3,h4⟩:=h;exact ⟨bm,o,Nat.lt_of_lt_of_le h1 hb.size,(hb.cell (by exact zb3 h2)).trans h2,(hb.block _ h1).trans h3,h4⟩
structure EnvX (w:World):Prop where
 l:EnvL w
 r:EnvR w
theorem EnvX.below {w w':World} (h:EnvX w) (hb:Below w.heap.size w w'):EnvX w':=⟨h.l.below hb,h.r.below hb⟩
theorem zmV {x:Ex} (h:x.k=4):rankE x=zaH x.op:=by unfold rankE;rw[if_pos h]
theorem zmS {x:Ex} (h:x.k=3) (h2:x.op=sNot):rankE x=3:=by unfold rankE;rw[if_neg (by rw[h];decide),if_pos h,if_pos h2]
theorem zmT {x:Ex} (h:x.k=3) (h2:x.op≠sNot):rankE x=7:=by unfold rankE;rw[if_neg (by rw[h];decide),if_pos h,if_neg h2]
theorem zrI {x:Ex} (h4:x.k≠4) (h3:x.k≠3) (h2:x.k=2∧x.v.n<0):rankE x=7:=by unfold rankE;rw[if_neg h4,if_neg h3,if_pos h2]
theorem zmU {x:Ex} (h4:x.k≠4) (h3:x.k≠3) (h2:¬ (x.k=2∧x.v.n<0)):rankE x=8:=by unfold rankE;rw[if_neg h4,if_neg h3,if_neg h2]
theorem zrX (l:Str):(⟨l.toArray⟩:ByteArray).data.toList=l:=rfl
theorem zkB (x:Ex) (sa:Option Addr) (ca:Nat) (w:World) (hE:EnvR w):Calls Tryz.prog 83 #[exV x (.slice sa x.xs.length ca)] w fun e w'=>e=.returned (.int .i64 (rankE x:Int))∧Below w.heap.size w w':=by
 have bw:Below w.heap.size w (w.alloc (.cells #[.int .i64 x.k,.string ⟨x.nm.toArray⟩,.int .i64 x.v.k,.int .i64 x.v.n,.string ⟨x.v.t.toArray⟩,.string ⟨x.op.toArray⟩,.slice sa x.xs.length ca] 27)):=(Below.refl _ w).alloc (yG _) _;have X:=Box.new w [.int .i64 x.k,.string ⟨x.nm.toArray⟩,.int .i64 x.v.k,.int .i64 x.v.n,.string ⟨x.v.t.toArray⟩,.string ⟨x.op.toArray⟩,.slice sa x.xs.length ca] 27;have hE':=hE.below bw;obtain ⟨kk,hkk⟩:∃ q,x.k=q:=⟨_,rfl⟩;obtain ⟨Y,hY⟩:∃ Y:ByteArray,(⟨x.op.toArray⟩:ByteArray)=Y:=⟨_,rfl⟩;obtain ⟨n0,hn0⟩:∃ q,x.v.n=q:=⟨_,rfl⟩;have HX:Hid (exV x (.slice sa x.xs.length ca)=.agg #[.int .i64 kk,.string ⟨x.nm.toArray⟩,.int .i64 x.v.k,.int .i64 n0,.string ⟨x.v.t.toArray⟩,.string Y,.slice sa x.xs.length ca]):=by show _=_;rw[← hkk,← hY,← hn0]
 rw[hkk,hY,hn0]at X bw hE';rw[HX.out];have HB:=hid bw;by_cases h4:x.k=4
 ·obtain rfl:kk=4:=by rw[← hkk];exact h4
  have HR:Hid (rankE x=zaH Y.data.toList):=by show _=_;rw[zmV h4,← hY]
  obtain ⟨bm,ob,m1,m2,m3,m4⟩:=hE';have hlk:=m4 _ Y m3;rw[← HR.out]at hlk;clear hE hkk hY hn0 HX h4 m3 m4 bw;go_enter func83,ntmps83
  obtain ⟨x0,x1,x2,x3,x4,x5,x6⟩:=X.seven;go_wp2_with fail
  go_ret
  exact ⟨rfl,HB.out⟩
 have e4:(kk == 4)=false:=by rw[← hkk];simpa using h4
 by_cases h3:x.k=3
 ·obtain rfl:kk=3:=by rw[← hkk];exact h3
  by_cases ho:x.op=sNot
  ·have HR:=hid (zmS h3 ho);obtain rfl:Y=⟨#[110,111,116]⟩:=by rw[← hY,ho];rfl
   clear hE hE' hkk hY hn0 HX h4 h3 ho bw;go_enter func83,ntmps83
   obtain ⟨x0,x1,x2,x3,x4,x5,x6⟩:=X.seven;go_wp2_with fail
   go_ret
   rw[HR.out];exact ⟨rfl,HB.out⟩
  ·have HR:=hid (zmT h3 ho);have q3:=zeD hY ho;have q3b:(Y.toList == [110,111,116])=false:=by have:=q3;rw[ByteArray.toList_eq ⟨(sNot:Str).toArray⟩]at this;exact this
   clear hE hE' hkk hY hn0 HX h4 h3 ho bw;go_enter func83,ntmps83
   obtain ⟨x0,x1,x2,x3,x4,x5,x6⟩:=X.seven;go_wp2_with fail
   go_ret
   rw[HR.out];exact ⟨rfl,HB.out⟩
 have e3:(kk == 3)=false:=by rw[← hkk];simpa using h3
 by_cases h2:x.k=2
 ·obtain rfl:kk=2:=by rw[← hkk];exact h2
  by_cases hn:n0<0
  ·have HR:=hid (zrI h4 h3 ⟨h2,by rw[hn0];exact hn⟩);clear hE hE' hkk hY hn0 HX h4 h3 h2 bw;go_enter func83,ntmps83
   obtain ⟨x0,x1,x2,x3,x4,x5,x6⟩:=X.seven;go_wp2_with fail
   go_ret
   rw[HR.out];exact ⟨rfl,HB.out⟩
  ·have HR:=hid (zmU h4 h3 (fun h=>hn (by rw[← hn0];exact h.2)));clear hE hE' hkk hY hn0 HX h4 h3 h2 bw;go_enter func83,ntmps83
   obtain ⟨x0,x1,x2,x3,x4,x5,x6⟩:=X.seven;go_wp2_with fail
   go_ret
   rw[HR.out];exact ⟨rfl,HB.out⟩
 have e2:(kk == 2)=false:=by rw[← hkk];simpa using h2
 have HR:=hid (zmU h4 h3 (fun h=>h2 h.1));clear hE hE' hkk hY hn0 HX h4 h3 h2 bw;go_enter func83,ntmps83
 obtain ⟨x0,x1,x2,x3,x4,x5,x6⟩:=X.seven;go_wp2_with fail
 go_ret
 rw[HR.out];exact ⟨rfl,HB.out⟩
mutual
def BdE:Ex→Prop
 | .mk _ nm v op xs=>-9223372036854775808≤v.n∧v.n≤9223372036854775807∧v.t.length≤140737488355328∧nm.length≤140737488355328∧op.length≤140737488355328∧BdEs xs
def BdEs:List Ex→Prop
 | []=>True
 | x::r=>BdE x∧BdEs r
end
theorem ze3:∀ {xs:List Ex},BdEs xs→∀ a∈xs,BdE a
 | x::r,h,a,ha=>by
  rw[BdEs]at h;rcases List.mem_cons.1 ha with rfl|ha
  ·exact h.1
  ·exact ze3 h.2 a ha
theorem zfv (x:Ex):BdE x=(-9223372036854775808≤x.v.n∧x.v.n≤9223372036854775807∧x.v.t.length≤140737488355328∧x.nm.length≤140737488355328∧x.op.length≤140737488355328∧BdEs x.xs):=by cases x;rw[BdE];rfl
mutual
def cfE:Ex→Bool
 | .mk k _ _ _ xs=>decide (k≠5) && cfEs xs
def cfEs:List Ex→Bool
 | []=>true
 | x::r=>cfE x && cfEs r
end
def LimE (x:Ex):Nat:=if cfE x=true then 1125899906842624 else 1000000
theorem zkh (x:Ex):1000000≤LimE x:=by unfold LimE;split<;>omega
theorem zia (x:Ex):LimE x≤1125899906842624:=by unfold LimE;split<;>omega
theorem zk3:∀ {xs:List Ex},cfEs xs=true→∀ a∈xs,cfE a=true
 | x::r,h,a,ha=>by
  rw[cfEs,Bool.and_eq_true]at h;rcases List.mem_cons.1 ha with rfl|ha
  ·exact h.1
  ·exact zk3 h.2 a ha
theorem zh9 {x a:Ex} (h:a∈x.xs):LimE x≤LimE a:=by
 by_cases hc:cfE x=true
 ·have:cfE a=true:=by
   cases x with
   | mk k nm v op xs =>
    rw[cfE,Bool.and_eq_true]at hc;exact zk3 hc.2 a h
  unfold LimE;rw[if_pos hc,if_pos this];exact yG _
 ·have:LimE x=1000000:=by unfold LimE;rw[if_neg hc]
  rw[this];exact zkh a
theorem zoV {x:Ex} (h:x.k=5):LimE x=1000000:=by
 cases x with
 | mk k nm v op xs =>
  unfold LimE;rw[if_neg];rw[cfE,Bool.and_eq_true];intro hc;have:=of_decide_eq_true hc.1;exact this h
def StrTo (l:Str) (w:World) (e:Ending) (w':World):Prop:=e=.returned (.string ⟨l.toArray⟩)∧Below w.heap.size w w'
def TxOk (x:Ex):Prop:=∀ (sa:Option Addr) (ca:Nat) (w:World) (ok:Nat→Prop),XArgs w ok (.slice sa x.xs.length ca) x.xs→EnvX w→BdE x→(textE x).length≤LimE x→
 Calls Tryz.prog 46 #[exV x (.slice sa x.xs.length ca)] w (StrTo (textE x) w)
theorem sz_mk (l:Str):(⟨l.toArray⟩:ByteArray).size=l.length:=by show l.toArray.size=_;simp
theorem zbD (a b:Str):(⟨a.toArray⟩:ByteArray)++⟨b.toArray⟩=⟨(a++b).toArray⟩:=Go.ByteArray.mk_append_mk a b
theorem zd4 (x:Ex) (h:TxOk x) (least:Nat) (hl:least≤100) (sa:Option Addr) (ca:Nat) (w:World) (ok:Nat→Prop) (hA:XArgs w ok (.slice sa x.xs.length ca) x.xs) (hE:EnvX w) (hb:BdE x) (hlen:(textE x).length≤LimE x) :
 Calls Tryz.prog 81 #[exV x (.slice sa x.xs.length ca),.int .i64 (least:Int)] w (StrTo (wiT least (x,textE x)) w):=by
 have bw:Below w.heap.size w (w.alloc (.cells #[.int .i64 x.k,.string ⟨x.nm.toArray⟩,.int .i64 x.v.k,.int .i64 x.v.n,.string ⟨x.v.t.toArray⟩,.string ⟨x.op.toArray⟩,.slice sa x.xs.length ca] 27)):=(Below.refl _ w).alloc (yG _) _;have X:=Box.new w [.int .i64 x.k,.string ⟨x.nm.toArray⟩,.int .i64 x.v.k,.int .i64 x.v.n,.string ⟨x.v.t.toArray⟩,.string ⟨x.op.toArray⟩,.slice sa x.xs.length ca] 27;have HB:=hid bw;have HR:=hid (zkB x sa ca _ (hE.below bw).r);have HT:=hid (fun W (hW:Below w.heap.size w W)=>h sa ca W ok (hA.below hW) (hE.below hW) hb hlen);obtain ⟨T,hT⟩:∃ T:ByteArray,(⟨(textE x).toArray⟩:ByteArray)=T:=⟨_,rfl⟩;have hTs:T.size≤1125899906842624:=by rw[← hT,sz_mk];exact yH hlen (zia x)
 obtain ⟨r,hr⟩:∃ r,rankE x=r:=⟨_,rfl⟩;have HS:Hid (∀ W,StrTo (textE x) W=fun e w'=>e=.returned (.string T)∧Below W.heap.size W w'):=fun W=>by unfold StrTo;rw[hT]
 rw[hr]at HR;by_cases hlt:r<least
 ·have HW:Hid ((⟨#[40]⟩:ByteArray)++T++⟨#[41]⟩=⟨(wiT least (x,textE x)).toArray⟩):=by
   show _=_
   rw[← hT];unfold wiT;simp only;rw[hr,if_pos hlt];show ((⟨([40]:Str).toArray⟩:ByteArray)++⟨(textE x).toArray⟩)++⟨([41]:Str).toArray⟩=_
   rw[zbD,zbD];rfl
  clear hA hE hb hT hr h bw;go_enter func81,ntmps81
  obtain ⟨x0,x1,x2,x3,x4,x5,x6⟩:=X.seven;go_wp2_with (first|(go_at_call 83;refine HR.out.mono ?_;rintro e w1 ⟨rfl,hb1⟩;have X1:=X.next hb1;obtain ⟨y0,y1,y2,y3,y4,y5,y6⟩:=X1.seven)|(go_at_call 46;have hc:=HT.out _ (two HB.out hb1);rw[HS.out]at hc;refine hc.mono ?_;clear hc;rintro e w2 ⟨rfl,hb2⟩))
  go_ret
  exact ⟨zcd HW.out,two (two HB.out hb1) hb2⟩
 ·have HW:Hid (T=⟨(wiT least (x,textE x)).toArray⟩):=by
   show _=_
   rw[← hT];unfold wiT;simp only;rw[hr,if_neg hlt]
  clear hA hE hb hT hr h bw;go_enter func81,ntmps81
  obtain ⟨x0,x1,x2,x3,x4,x5,x6⟩:=X.seven;go_wp2_with (first|(go_at_call 83;refine HR.out.mono ?_;rintro e w1 ⟨rfl,hb1⟩;have X1:=X.next hb1;obtain ⟨y0,y1,y2,y3,y4,y5,y6⟩:=X1.seven)|(go_at_call 46;have hc:=HT.out _ (two HB.out hb1);rw[HS.out]at hc;refine hc.mono ?_;clear hc;rintro e w2 ⟨rfl,hb2⟩))
  go_ret
  exact ⟨zcd HW.out,two (two HB.out hb1) hb2⟩
theorem zlI (x:Ex) (h:TxOk x) (sa:Option Addr) (ca:Nat) (w:World) (ok:Nat→Prop) (hA:XArgs w ok (.slice sa x.xs.length ca) x.xs) (hE:EnvX w) (hb:BdE x) (hlen:(textE x).length≤LimE x) :
 Calls Tryz.prog 82 #[exV x (.slice sa x.xs.length ca)] w (StrTo (miT (x,textE x)) w):=by
 have bw:Below w.heap.size w (w.alloc (.cells #[.int .i64 x.k,.string ⟨x.nm.toArray⟩,.int .i64 x.v.k,.int .i64 x.v.n,.string ⟨x.v.t.toArray⟩,.string ⟨x.op.toArray⟩,.slice sa x.xs.length ca] 27)):=(Below.refl _ w).alloc (yG _) _;have X:=Box.new w [.int .i64 x.k,.string ⟨x.nm.toArray⟩,.int .i64 x.v.k,.int .i64 x.v.n,.string ⟨x.v.t.toArray⟩,.string ⟨x.op.toArray⟩,.slice sa x.xs.length ca] 27;have HB:=hid bw;have HT:=hid (h sa ca _ ok (hA.below bw) (hE.below bw) hb hlen);have HI:=hid (zd4 x h 7 (by decide) sa ca _ ok (hA.below bw) (hE.below bw) hb hlen);obtain ⟨T,hT⟩:∃ T:ByteArray,(⟨(textE x).toArray⟩:ByteArray)=T:=⟨_,rfl⟩;have hTs:T.size≤1125899906842624:=by rw[← hT,sz_mk];exact yH hlen (zia x)
 obtain ⟨k0,hk0⟩:∃ q,x.k=q:=⟨_,rfl⟩;obtain ⟨k1,hk1⟩:∃ q,x.v.k=q:=⟨_,rfl⟩;obtain ⟨n0,hn0⟩:∃ q,x.v.n=q:=⟨_,rfl⟩;have HX:Hid (exV x (.slice sa x.xs.length ca)=.agg #[.int .i64 k0,.string ⟨x.nm.toArray⟩,.int .i64 k1,.int .i64 n0,.string ⟨x.v.t.toArray⟩,.string ⟨x.op.toArray⟩,.slice sa x.xs.length ca]):=by show _=_;rw[← hk0,← hk1,← hn0]
 unfold StrTo at HT HI;rw[hT]at HT;rw[hk0,hk1,hn0]at X HB HT HI;rw[HX.out]at HT HI ⊢;by_cases hp:posC x
 ·have HW:Hid ((⟨#[40]⟩:ByteArray)++T++⟨#[41]⟩=⟨(miT (x,textE x)).toArray⟩):=by
   show _=_
   rw[← hT];unfold miT;simp only;rw[if_pos hp];show ((⟨([40]:Str).toArray⟩:ByteArray)++⟨(textE x).toArray⟩)++⟨([41]:Str).toArray⟩=_
   rw[zbD,zbD];rfl
  obtain ⟨p1,p2,p3⟩:=hp;obtain rfl:k0=2:=by rw[← hk0];exact p1
  obtain rfl:k1=1:=by rw[← hk1];exact p2
  have p4:0<n0:=by rw[← hn0];exact p3
  clear hA hE hb hT h bw hk0 hk1 hn0 p1 p2 p3 HX;go_enter func82,ntmps82
  obtain ⟨x0,x1,x2,x3,x4,x5,x6⟩:=X.seven;go_wp2_with (go_at_call 46;refine HT.out.mono ?_;rintro e w2 ⟨rfl,hb2⟩)
  go_ret
  exact ⟨zcd HW.out,two HB.out hb2⟩
 ·have HW:Hid (wiT 7 (x,textE x)=miT (x,textE x)):=by
   show _=_
   unfold miT;rw[if_neg hp]
  have HC:(k0 == 2)=false∨(k0=2∧(k1 == 1)=false)∨(k0=2∧k1=1∧n0≤0):=by
   by_cases h1:x.k=2
   ·by_cases h2:x.v.k=1
    ·exact .inr (.inr ⟨by rw[← hk0];exact h1,by rw[← hk1];exact h2,by have:¬ 0<x.v.n:=fun h3=>hp ⟨h1,h2,h3⟩;omega⟩)
    ·exact .inr (.inl ⟨by rw[← hk0];exact h1,by rw[← hk1];simpa using h2⟩)
   ·exact .inl (by rw[← hk0];simpa using h1)
  clear hA hE hb hT h bw hk0 hk1 hn0 HX hp;rcases HC with e1|⟨rfl,e1⟩|⟨rfl,rfl,e1⟩
  all_goals
   go_enter func82,ntmps82
   obtain ⟨x0,x1,x2,x3,x4,x5,x6⟩:=X.seven;go_wp2_with (go_at_call 81;refine HI.out.mono ?_;rintro e w2 ⟨rfl,hb2⟩)
   go_ret
   rw[HW.out];exact ⟨rfl,two HB.out hb2⟩
theorem zcP (x:Ex):textE x=textF x.k x.nm x.v x.op (x.xs.map fun a=>(a,textE a)):=by
 cases x with
 | mk k nm v op xs=>show foldE textF (.mk k nm v op xs)=_;rw[za0];rfl
theorem zrj {x:Ex} (h:x.k=1):textE x=x.nm:=by rw[zcP];unfold textF;rw[if_pos h]
theorem zri {x:Ex} (h:x.k=2):textE x=showV x.v:=by rw[zcP];unfold textF;rw[if_neg (by rw[h];decide),if_pos h]
theorem zo8 {x a:Ex} (h:x.k=3) (hx:x.xs=[a]) (ho:x.op=sNot):textE x=sNot++32::wiT 3 (a,textE a):=by
 rw[zcP,hx];unfold textF;rw[if_neg (by rw[h];decide),if_neg (by rw[h];decide),if_pos h];simp only[List.map_cons,List.map_nil];rw[if_pos ho]
theorem zo9 {x a:Ex} (h:x.k=3) (hx:x.xs=[a]) (ho:x.op≠sNot):textE x=x.op++miT (a,textE a):=by
 rw[zcP,hx];unfold textF;rw[if_neg (by rw[h];decide),if_neg (by rw[h];decide),if_pos h];simp only[List.map_cons,List.map_nil];rw[if_neg ho]
theorem zo7 {x:Ex} (h:x.k=3) (hx:x.xs.length≠1):textE x=[]:=by
 rw[zcP];unfold textF;rw[if_neg (by rw[h];decide),if_neg (by rw[h];decide),if_pos h];match hxs:x.xs,hx with
 | [],_=>rfl
 | [a],hx=>simp at hx
 | a::b::r,_=>rfl
theorem zrh {x a b:Ex} (h:x.k=4) (hx:x.xs=[a,b]):textE x=wiT (leftR x.op) (a,textE a)++(32::(x.op++32::wiT (zaH x.op+1) (b,textE b))):=by
 rw[zcP,hx];unfold textF;rw[if_neg (by rw[h];decide),if_neg (by rw[h];decide),if_neg (by rw[h];decide),if_pos h];rfl
theorem zo6 {x:Ex} (h:x.k=4) (hx:x.xs.length≠2):textE x=[]:=by
 rw[zcP];unfold textF;rw[if_neg (by rw[h];decide),if_neg (by rw[h];decide),if_neg (by rw[h];decide),if_pos h];match hxs:x.xs,hx with
 | [],_=>rfl
 | [a],_=>rfl
 | [a,b],hx=>simp at hx
 | a::b::c::r,_=>rfl
theorem zrg {x:Ex} (h:x.k=5):textE x=x.nm++40::(joinS [44,32] (x.xs.map textE)++[41]):=by
 rw[zcP];unfold textF;rw[if_neg (by rw[h];decide),if_neg (by rw[h];decide),if_neg (by rw[h];decide),if_neg (by rw[h];decide),if_pos h,List.map_map];rfl
theorem zrf {x:Ex} (h1:x.k≠1) (h2:x.k≠2) (h3:x.k≠3) (h4:x.k≠4) (h5:x.k≠5):textE x=[]:=by
 rw[zcP];unfold textF;rw[if_neg h1,if_neg h2,if_neg h3,if_neg h4,if_neg h5]
theorem zht (l:Nat) (p:Ex×Str):p.2.length≤(wiT l p).length:=by unfold wiT;split;simp;omega;exact yG _
theorem zrT (p:Ex×Str):p.2.length≤(miT p).length:=by unfold miT;split;simp;omega;exact zht _ _
theorem zig (x:Ex) (h12:x.k=1∨x.k=2):TxOk x:=fun sa ca w ok hA hE hb hlen=>by
 have bw:Below w.heap.size w (w.alloc (.cells #[.int .i64 x.k,.string ⟨x.nm.toArray⟩,.int .i64 x.v.k,.int .i64 x.v.n,.string ⟨x.v.t.toArray⟩,.string ⟨x.op.toArray⟩,.slice sa x.xs.length ca] 27)):=(Below.refl _ w).alloc (yG _) _;have X:=Box.new w [.int .i64 x.k,.string ⟨x.nm.toArray⟩,.int .i64 x.v.k,.int .i64 x.v.n,.string ⟨x.v.t.toArray⟩,.string ⟨x.op.toArray⟩,.slice sa x.xs.length ca] 27;have HB:=hid bw;have hb':=(zfv x).mp hb;obtain ⟨b1,b2,b3,_⟩:=hb';rcases h12 with h1|h1
 ·have HT:=hid (zrj h1);rw[h1]at X HB;rw[show exV x (.slice sa x.xs.length ca)=.agg #[.int .i64 1,.string ⟨x.nm.toArray⟩,.int .i64 x.v.k,.int .i64 x.v.n,.string ⟨x.v.t.toArray⟩,.string ⟨x.op.toArray⟩,.slice sa x.xs.length ca] by rw[← h1]];clear h1 bw hA hE hb hlen b1 b2 b3;go_enter func46,ntmps46
  obtain ⟨x0,x1,x2,x3,x4,x5,x6⟩:=X.seven;go_wp2_with fail
  go_ret
  rw[HT.out];exact ⟨rfl,HB.out⟩
 ·have HT:=hid (zri h1);have HS:=hid (Va.show_any x.v.k x.v.n ⟨x.v.t.toArray⟩ _ (by rw[sz_mk];omega) b1 b2 (hE.below bw).l.pow);rw[h1]at X HB HS;rw[show exV x (.slice sa x.xs.length ca)=.agg #[.int .i64 2,.string ⟨x.nm.toArray⟩,.int .i64 x.v.k,.int .i64 x.v.n,.string ⟨x.v.t.toArray⟩,.string ⟨x.op.toArray⟩,.slice sa x.xs.length ca] by rw[← h1]];clear h1 bw hA hE hb hlen b1 b2 b3;go_enter func46,ntmps46
  obtain ⟨x0,x1,x2,x3,x4,x5,x6⟩:=X.seven;go_wp2_with (go_at_call 39;refine HS.out.mono ?_;rintro e w2 ⟨rfl,hb2⟩)
  go_ret
  rw[HT.out];exact ⟨rfl,two HB.out hb2⟩
theorem zdp (x:Ex) (h:(x.k=3∧x.xs.length≠1)∨(x.k=4∧x.xs.length≠2)∨(x.k≠1∧x.k≠2∧x.k≠3∧x.k≠4∧x.k≠5)):TxOk x:=fun sa ca w ok hA hE hb hlen=>by
 have bw:Below w.heap.size w (w.alloc (.cells #[.int .i64 x.k,.string ⟨x.nm.toArray⟩,.int .i64 x.v.k,.int .i64 x.v.n,.string ⟨x.v.t.toArray⟩,.string ⟨x.op.toArray⟩,.slice sa x.xs.length ca] 27)):=(Below.refl _ w).alloc (yG _) _;have X:=Box.new w [.int .i64 x.k,.string ⟨x.nm.toArray⟩,.int .i64 x.v.k,.int .i64 x.v.n,.string ⟨x.v.t.toArray⟩,.string ⟨x.op.toArray⟩,.slice sa x.xs.length ca] 27;have HB:=hid bw;have HT:Hid (textE x=[]):=by
  show textE x=[]
  rcases h with ⟨h1,h2⟩|⟨h1,h2⟩|⟨h1,h2,h3,h4,h5⟩
  ·exact zo7 h1 h2
  ·exact zo6 h1 h2
  ·exact zrf h1 h2 h3 h4 h5
 obtain ⟨n,hn⟩:∃ n,x.xs.length=n:=⟨_,rfl⟩;obtain ⟨kk,hkk⟩:∃ q,x.k=q:=⟨_,rfl⟩;have HX:Hid (exV x (.slice sa x.xs.length ca)=.agg #[.int .i64 kk,.string ⟨x.nm.toArray⟩,.int .i64 x.v.k,.int .i64 x.v.n,.string ⟨x.v.t.toArray⟩,.string ⟨x.op.toArray⟩,.slice sa n ca]):=by show _=_;rw[← hkk,← hn]
 rw[hkk,hn]at X HB h;rw[HX.out];clear bw hA hE hb hlen hkk hn HX;rcases h with ⟨rfl,h2⟩|⟨rfl,h2⟩|⟨h1,h2,h3,h4,h5⟩
 ·have e2:((n:Int) == 1)=false:=by simp;omega
  have e3:¬ n=1:=h2;clear h2;go_enter func46,ntmps46
  obtain ⟨x0,x1,x2,x3,x4,x5,x6⟩:=X.seven;go_wp2_with fail
  go_ret
  rw[HT.out];exact ⟨rfl,HB.out⟩
 ·have e2:((n:Int) == 2)=false:=by simp;omega
  have e3:¬ n=2:=h2;clear h2;go_enter func46,ntmps46
  obtain ⟨x0,x1,x2,x3,x4,x5,x6⟩:=X.seven;go_wp2_with fail
  go_ret
  rw[HT.out];exact ⟨rfl,HB.out⟩
 ·have e1:(kk == 1)=false:=by simpa using h1
  have e2:(kk == 2)=false:=by simpa using h2
  have e3:(kk == 3)=false:=by simpa using h3
  have e4:(kk == 4)=false:=by simpa using h4
  have e5:(kk == 5)=false:=by simpa using h5
  clear h1 h2 h3 h4 h5;go_enter func46,ntmps46
  obtain ⟨x0,x1,x2,x3,x4,x5,x6⟩:=X.seven;go_wp2_with fail
  go_ret
  rw[HT.out];exact ⟨rfl,HB.out⟩
theorem zo5 (x a:Ex) (h3:x.k=3) (hxs:x.xs=[a]) (ih:TxOk a):TxOk x:=fun sa ca w ok hA hE hb hlen=>by
 have bw:Below w.heap.size w (w.alloc (.cells #[.int .i64 x.k,.string ⟨x.nm.toArray⟩,.int .i64 x.v.k,.int .i64 x.v.n,.string ⟨x.v.t.toArray⟩,.string ⟨x.op.toArray⟩,.slice sa x.xs.length ca] 27)):=(Below.refl _ w).alloc (yG _) _;have X:=Box.new w [.int .i64 x.k,.string ⟨x.nm.toArray⟩,.int .i64 x.v.k,.int .i64 x.v.n,.string ⟨x.v.t.toArray⟩,.string ⟨x.op.toArray⟩,.slice sa x.xs.length ca] 27;have HB:=hid bw;have hba:BdE a:=ze3 ((zfv x).mp hb).2.2.2.2.2 a (by rw[hxs];simp);have hopl:=((zfv x).mp hb).2.2.2.2.1;have hA1:=hA.below bw;have hE1:=hE.below bw;obtain ⟨ub,uo,ua,uc,ue,ul,_,uX,uF⟩:=arg7 hA1 (show x.xs[0]?=some a by rw[hxs];rfl)
 have u0:(w.alloc (.cells #[.int .i64 x.k,.string ⟨x.nm.toArray⟩,.int .i64 x.v.k,.int .i64 x.v.n,.string ⟨x.v.t.toArray⟩,.string ⟨x.op.toArray⟩,.slice sa x.xs.length ca] 27)).cell? ⟨ub,uo,none⟩=some (.int .i64 a.k):=uF 0 _ rfl;have u1:(w.alloc (.cells #[.int .i64 x.k,.string ⟨x.nm.toArray⟩,.int .i64 x.v.k,.int .i64 x.v.n,.string ⟨x.v.t.toArray⟩,.string ⟨x.op.toArray⟩,.slice sa x.xs.length ca] 27)).cell? ⟨ub,uo+1,none⟩=some (.string ⟨a.nm.toArray⟩):=uF 1 _ rfl;have u2:(w.alloc (.cells #[.int .i64 x.k,.string ⟨x.nm.toArray⟩,.int .i64 x.v.k,.int .i64 x.v.n,.string ⟨x.v.t.toArray⟩,.string ⟨x.op.toArray⟩,.slice sa x.xs.length ca] 27)).cell? ⟨ub,uo+2,none⟩=some (.int .i64 a.v.k):=uF 2 _ rfl
 have u3:(w.alloc (.cells #[.int .i64 x.k,.string ⟨x.nm.toArray⟩,.int .i64 x.v.k,.int .i64 x.v.n,.string ⟨x.v.t.toArray⟩,.string ⟨x.op.toArray⟩,.slice sa x.xs.length ca] 27)).cell? ⟨ub,uo+3,none⟩=some (.int .i64 a.v.n):=uF 3 _ rfl;have u4:(w.alloc (.cells #[.int .i64 x.k,.string ⟨x.nm.toArray⟩,.int .i64 x.v.k,.int .i64 x.v.n,.string ⟨x.v.t.toArray⟩,.string ⟨x.op.toArray⟩,.slice sa x.xs.length ca] 27)).cell? ⟨ub,uo+4,none⟩=some (.string ⟨a.v.t.toArray⟩):=uF 4 _ rfl;have u5:(w.alloc (.cells #[.int .i64 x.k,.string ⟨x.nm.toArray⟩,.int .i64 x.v.k,.int .i64 x.v.n,.string ⟨x.v.t.toArray⟩,.string ⟨x.op.toArray⟩,.slice sa x.xs.length ca] 27)).cell? ⟨ub,uo+5,none⟩=some (.string ⟨a.op.toArray⟩):=uF 5 _ rfl
 have u6:(w.alloc (.cells #[.int .i64 x.k,.string ⟨x.nm.toArray⟩,.int .i64 x.v.k,.int .i64 x.v.n,.string ⟨x.v.t.toArray⟩,.string ⟨x.op.toArray⟩,.slice sa x.xs.length ca] 27)).cell? ⟨ub,uo+6,none⟩=some (.slice ua a.xs.length uc):=uF 6 _ rfl;subst ue;obtain ⟨Y,hY⟩:∃ Y:ByteArray,(⟨x.op.toArray⟩:ByteArray)=Y:=⟨_,rfl⟩;have hYs:Y.size≤140737488355328:=by rw[← hY,sz_mk];exact hopl
 have hL0:=zia x;have hL1:LimE x≤LimE a:=zh9 (by rw[hxs];simp);have hn:x.xs.length=1:=by rw[hxs];rfl
 have HX:Hid (exV x (.slice (some ⟨ub,uo,none⟩) x.xs.length ca)=.agg #[.int .i64 3,.string ⟨x.nm.toArray⟩,.int .i64 x.v.k,.int .i64 x.v.n,.string ⟨x.v.t.toArray⟩,.string Y,.slice (some ⟨ub,uo,none⟩) 1 ca]):=by show _=_;rw[← h3,← hY,hn]
 by_cases ho:x.op=sNot
 ·have HT:=zo8 h3 hxs ho;have hlw0:(wiT 3 (a,textE a)).length≤LimE x:=by rw[HT]at hlen;simp at hlen;omega
  have hlw:(wiT 3 (a,textE a)).length≤1125899906842624:=yH hlw0 hL0;have hla:(textE a).length≤LimE a:=yH (zht 3 (a,textE a)) (yH hlw0 hL1);clear hlw0 hL0 hL1;have HI:=hid (zd4 a ih 3 (by decide) ua uc _ ok uX hE1 hba hla);obtain rfl:Y=⟨#[110,111,116]⟩:=by rw[← hY,ho];rfl
  obtain ⟨T,hT⟩:∃ T:ByteArray,(⟨(wiT 3 (a,textE a)).toArray⟩:ByteArray)=T:=⟨_,rfl⟩;have hTs:T.size≤1125899906842624:=by rw[← hT,sz_mk];exact hlw
  have HW:Hid ((⟨#[110,111,116,32]⟩:ByteArray)++T=⟨(textE x).toArray⟩):=by
   show _=_
   rw[← hT,HT];show (⟨([110,111,116,32]:Str).toArray⟩:ByteArray)++⟨(wiT 3 (a,textE a)).toArray⟩=_
   rw[zbD];rfl
  unfold StrTo at HI;rw[hT]at HI;rw[HX.out];rw[h3,hY,hn]at X HB HI u0 u1 u2 u3 u4 u5 u6;clear bw hA hE hb hlen hA1 hE1 hY hn HX ho HT hlw hla hT uX uF hba hopl h3 hxs;go_enter func46,ntmps46
  obtain ⟨x0,x1,x2,x3,x4,x5,x6⟩:=X.seven;go_wp2_with (go_at_call 81;refine HI.out.mono ?_;rintro e w2 ⟨rfl,hb2⟩)
  go_ret
  exact ⟨zcd HW.out,two HB.out hb2⟩
 ·have HT:=zo9 h3 hxs ho;have hlw0:(miT (a,textE a)).length≤LimE x:=by rw[HT]at hlen;simp at hlen;omega
  have hlw:(miT (a,textE a)).length≤1125899906842624:=yH hlw0 hL0;have hla:(textE a).length≤LimE a:=yH (zrT (a,textE a)) (yH hlw0 hL1);clear hlw0 hL0 hL1;have q3:=zeD hY ho;have q3b:(Y.toList == [110,111,116])=false:=by have:=q3;rw[ByteArray.toList_eq ⟨(sNot:Str).toArray⟩]at this;exact this
  obtain ⟨T,hT⟩:∃ T:ByteArray,(⟨(miT (a,textE a)).toArray⟩:ByteArray)=T:=⟨_,rfl⟩;have hTs:T.size≤1125899906842624:=by rw[← hT,sz_mk];exact hlw
  have HI:Hid (∀ W,Below (w.alloc (.cells #[.int .i64 x.k,.string ⟨x.nm.toArray⟩,.int .i64 x.v.k,.int .i64 x.v.n,.string ⟨x.v.t.toArray⟩,.string ⟨x.op.toArray⟩,.slice (some ⟨ub,uo,none⟩) x.xs.length ca] 27)).heap.size (w.alloc (.cells #[.int .i64 x.k,.string ⟨x.nm.toArray⟩,.int .i64 x.v.k,.int .i64 x.v.n,.string ⟨x.v.t.toArray⟩,.string ⟨x.op.toArray⟩,.slice (some ⟨ub,uo,none⟩) x.xs.length ca] 27)) W→Calls Tryz.prog 82 #[exV a (.slice ua a.xs.length uc)] W fun e w'=>e=.returned (.string T)∧Below W.heap.size W w'):=fun W hW=>by
   have:=zlI a ih ua uc W ok (uX.below hW) (hE1.below hW) hba hla;unfold StrTo at this;rw[hT]at this;exact this
  have HW:Hid (Y++T=⟨(textE x).toArray⟩):=by
   show _=_
   rw[← hT,← hY,HT,zbD]
  rw[HX.out];rw[h3,hY,hn]at X HB HI u0 u1 u2 u3 u4 u5 u6;clear bw hA hE hb hlen hA1 hE1 hY hn HX ho HT hlw hla hT uX uF hba hopl h3 hxs;go_enter func46,ntmps46
  obtain ⟨x0,x1,x2,x3,x4,x5,x6⟩:=X.seven;go_wp2_with fail
  generalize w.alloc (.cells #[.int .i64 3,.string ⟨x.nm.toArray⟩,.int .i64 x.v.k,.int .i64 x.v.n,.string ⟨x.v.t.toArray⟩,.string Y,.slice (some ⟨ub,uo,none⟩) 1 ca] 27)=W1 at *
  have x5:=cell_regrown x5;have x6:=cell_regrown x6;have u0:=cell_regrown u0;have u1:=cell_regrown u1;have u2:=cell_regrown u2;have u3:=cell_regrown u3;have u4:=cell_regrown u4;have u5:=cell_regrown u5;have u6:=cell_regrown u6;have cA:=qcall HI.out;refine wp_region_quiet_below (by kernel_rfl) (by kernel_rfl) ?_;repeat (go_big_quiet_step (with_reducible (exact cA _ _)))
  refine wpQuiet_nil ?_;intro _ hw';obtain ⟨⟨dq1,os1⟩,hw''⟩:=hw';subst hw'';go_wp2_with fail
  go_ret
  exact ⟨zcd HW.out,two HB.out (below_regrown _ _ _)⟩
