/- Walks: slices.Equal: equal lists are found equal. More of XSt: rows of others loaded, a block lent to a callee, parts of a struct loaded. Walks: a plan is found equal to itself. -/
import Derived.Test.YtonkjhmkppeagaaGreatDoorWSt
import Derived.Test.YtonkjhmkppeagaaGreatDoorWQy
set_option maxRecDepth 100000
set_option maxHeartbeats 6400000
set_option linter.unusedVariables false
set_option linter.unusedSimpArgs false
namespace Go.Proofs.YtonkjhmkppeagaaGreatDoor.Pz
open Go.Proofs.Tryz
open Go.Lib (hid)
open Go.RowKit Go Go.Sort Ba Lx
theorem Rep.cells_at {w:World} {ok:Nat→Prop} {k n cap i:Nat} {rows:List (List Dat)} {ao:Option Addr} {r:List Dat} {vs:List Value} (h:Rep w ok (.sl k rows) (.slice ao n cap)) (hi:rows[i]?=some r) (hr:r=vs.map Dat.v) :
 ∃ b o,ao=some ⟨b,o,none⟩∧∀ W,Below w.heap.size w W→∀ j v,vs[j]?=some v→W.cell? ⟨b,o+(i*k+j),none⟩=some v:=by
 obtain ⟨b,o,cs,e1,e2,_,e4,e5,e6⟩:=h.at hi;refine ⟨b,o,e1,fun W hb j v hv=>?_⟩;subst hr;have hl:vs.length=cs.length:=by have:=e6.1;simpa using this
 have hj:j<cs.length:=by have:=(yE.1 hv).1;omega
 have hc:cs[j]?=some cs[j]:=yF hj;have hv2:cs[j]=v:=(e6.2 j (.v v) cs[j] (by rw[yQ,hv];rfl) hc).val;rw[hv2]at hc;exact ((kcell (Kept.of_below (S:=fun _=>False) hb) e2 (fun x=>x)).trans (e4 j (by omega))).trans hc
def zhs (w:World) (e:Ending) (w':World):Prop:=e=.returned (.bool true)∧Below w.heap.size w w'
theorem zok (l:List Str) (sa sb:Option Addr) (ca cb:Nat) (w:World) (o1 o2:Nat→Prop) (hA:Rep w o1 (.sl 1 (l.map strD)) (.slice sa l.length ca)) (hB:Rep w o2 (.sl 1 (l.map strD)) (.slice sb l.length cb)) :
 Calls Tryz.prog 57 #[.slice sa l.length ca,.slice sb l.length cb] w (zhs w):=by
 have HA:=hid hA;have HB:=hid hB;obtain ⟨n,hn⟩:∃ n,l.length=n:=⟨_,rfl⟩;have hm:n≤maxLen:=by
  obtain ⟨_,_,e,h1,h2⟩:=hA.len;injection e with _ e2 _
  rw[yC]at h1;omega
 have hm2:n≤9223372036854775807:=yH hm (by decide);rw[hn]at HA HB ⊢;have HN:=hid hn;have H0:Hid (Below w.heap.size w w):=Below.refl _ w;clear hA hB hn hm;go_enter func57,ntmps57
 go_wp2_with fail
 go_loopw [13] (fun i wr=>∃ m:Nat,m≤n∧i=.int .i64 m∧Hid (Below w.heap.size w wr)) (fun i _=>n-(intOf i).toNat)
 case atStart=>exact ⟨0,yS _,rfl,H0⟩
 case round =>
  clear H0;obtain ⟨m,hmn,rfl,HBW⟩:=hrel;by_cases hlt:m<n
  ·have hlt2:(m:Int)<(n:Int):=by omega
   obtain ⟨x,hx⟩:∃ x,l[m]?=some x:=⟨_,yF (by rw[HN.out];exact hlt)⟩;obtain ⟨b1,o1',rfl,hc1⟩:=HA.out.cells_at (i:=m) (r:=strD x) (vs:=[.string ⟨(x).toArray⟩]) (by rw[yQ,hx];rfl) rfl;obtain ⟨b2,o2',rfl,hc2⟩:=HB.out.cells_at (i:=m) (r:=strD x) (vs:=[.string ⟨(x).toArray⟩]) (by rw[yQ,hx];rfl) rfl;obtain ⟨N0,hN0⟩:∃ N:ByteArray,(⟨(x).toArray⟩:ByteArray)=N:=⟨_,rfl⟩;have b1f0:wr.cell? ⟨b1,o1'+m,none⟩=some (.string N0):=by have:=hc1 wr HBW.out 0 _ rfl;rw[hN0]at this;simpa [Nat.add_assoc] using this
   have b2f0:wr.cell? ⟨b2,o2'+m,none⟩=some (.string N0):=by have:=hc2 wr HBW.out 0 _ rfl;rw[hN0]at this;simpa [Nat.add_assoc] using this
   clear hc1 hc2 hx hN0;go_upto_region 6 with (fail)
   go_quiet (fail)
   have H3:Hid (Below w.heap.size w (wr.drewN nq)):=Ba.Below.drewN HBW.out nq;go_wp2_with fail
   go_round
   case measure=>simp[intOf];omega
   case rel=>exact ⟨m+1,by omega,by rw[Int.natCast_add];rfl,H3⟩
  ·have hlt2:¬ ((m:Int)<(n:Int)):=by omega
   go_wp2_with fail
   go_ret
   exact ⟨rfl,HBW.out⟩
theorem zqV (l:List (Str×Str)) (sa sb:Option Addr) (ca cb:Nat) (w:World) (o1 o2:Nat→Prop) (hA:Rep w o1 (.sl 2 (l.map pairD)) (.slice sa l.length ca)) (hB:Rep w o2 (.sl 2 (l.map pairD)) (.slice sb l.length cb)) :
 Calls Tryz.prog 58 #[.slice sa l.length ca,.slice sb l.length cb] w (zhs w):=by
 have HA:=hid hA;have HB:=hid hB;obtain ⟨n,hn⟩:∃ n,l.length=n:=⟨_,rfl⟩;have hm:n≤maxLen:=by
  obtain ⟨_,_,e,h1,h2⟩:=hA.len;injection e with _ e2 _
  rw[yC]at h1;omega
 have hm2:n≤9223372036854775807:=yH hm (by decide);rw[hn]at HA HB ⊢;have HN:=hid hn;have H0:Hid (Below w.heap.size w w):=Below.refl _ w;clear hA hB hn hm;go_enter func58,ntmps58
 go_wp2_with fail
 go_loopw [13] (fun i wr=>∃ m:Nat,m≤n∧i=.int .i64 m∧Hid (Below w.heap.size w wr)) (fun i _=>n-(intOf i).toNat)
 case atStart=>exact ⟨0,yS _,rfl,H0⟩
 case round =>
  clear H0;obtain ⟨m,hmn,rfl,HBW⟩:=hrel;by_cases hlt:m<n
  ·have hlt2:(m:Int)<(n:Int):=by omega
   obtain ⟨x,hx⟩:∃ x,l[m]?=some x:=⟨_,yF (by rw[HN.out];exact hlt)⟩;obtain ⟨b1,o1',rfl,hc1⟩:=HA.out.cells_at (i:=m) (r:=pairD x) (vs:=[.string ⟨(x.1).toArray⟩,.string ⟨(x.2).toArray⟩]) (by rw[yQ,hx];rfl) rfl;obtain ⟨b2,o2',rfl,hc2⟩:=HB.out.cells_at (i:=m) (r:=pairD x) (vs:=[.string ⟨(x.1).toArray⟩,.string ⟨(x.2).toArray⟩]) (by rw[yQ,hx];rfl) rfl;obtain ⟨N0,hN0⟩:∃ N:ByteArray,(⟨(x.1).toArray⟩:ByteArray)=N:=⟨_,rfl⟩;obtain ⟨N1,hN1⟩:∃ N:ByteArray,(⟨(x.2).toArray⟩:ByteArray)=N:=⟨_,rfl⟩;have b1f0:wr.cell? ⟨b1,o1'+m*2,none⟩=some (.string N0):=by have:=hc1 wr HBW.out 0 _ rfl;rw[hN0]at this;simpa [Nat.add_assoc] using this
   have b1f1:wr.cell? ⟨b1,o1'+m*2+1,none⟩=some (.string N1):=by have:=hc1 wr HBW.out 1 _ rfl;rw[hN1]at this;simpa [Nat.add_assoc] using this
   have b2f0:wr.cell? ⟨b2,o2'+m*2,none⟩=some (.string N0):=by have:=hc2 wr HBW.out 0 _ rfl;rw[hN0]at this;simpa [Nat.add_assoc] using this
   have b2f1:wr.cell? ⟨b2,o2'+m*2+1,none⟩=some (.string N1):=by have:=hc2 wr HBW.out 1 _ rfl;rw[hN1]at this;simpa [Nat.add_assoc] using this
   clear hc1 hc2 hx hN0 hN1;go_upto_region 6 with (fail)
   go_quiet (fail)
   have H3:Hid (Below w.heap.size w (wr.drewN nq)):=Ba.Below.drewN HBW.out nq;go_wp2_with fail
   go_round
   case measure=>simp[intOf];omega
   case rel=>exact ⟨m+1,by omega,by rw[Int.natCast_add];rfl,H3⟩
  ·have hlt2:¬ ((m:Int)<(n:Int)):=by omega
   go_wp2_with fail
   go_ret
   exact ⟨rfl,HBW.out⟩
theorem zqX (l:List (Str×Str×Str)) (sa sb:Option Addr) (ca cb:Nat) (w:World) (o1 o2:Nat→Prop) (hA:Rep w o1 (.sl 3 (l.map aggD)) (.slice sa l.length ca)) (hB:Rep w o2 (.sl 3 (l.map aggD)) (.slice sb l.length cb)) :
 Calls Tryz.prog 59 #[.slice sa l.length ca,.slice sb l.length cb] w (zhs w):=by
 have HA:=hid hA;have HB:=hid hB;obtain ⟨n,hn⟩:∃ n,l.length=n:=⟨_,rfl⟩;have hm:n≤maxLen:=by
  obtain ⟨_,_,e,h1,h2⟩:=hA.len;injection e with _ e2 _
  rw[yC]at h1;omega
 have hm2:n≤9223372036854775807:=yH hm (by decide);rw[hn]at HA HB ⊢;have HN:=hid hn;have H0:Hid (Below w.heap.size w w):=Below.refl _ w;clear hA hB hn hm;go_enter func59,ntmps59
 go_wp2_with fail
 go_loopw [13] (fun i wr=>∃ m:Nat,m≤n∧i=.int .i64 m∧Hid (Below w.heap.size w wr)) (fun i _=>n-(intOf i).toNat)
 case atStart=>exact ⟨0,yS _,rfl,H0⟩
 case round =>
  clear H0;obtain ⟨m,hmn,rfl,HBW⟩:=hrel;by_cases hlt:m<n
  ·have hlt2:(m:Int)<(n:Int):=by omega
   obtain ⟨x,hx⟩:∃ x,l[m]?=some x:=⟨_,yF (by rw[HN.out];exact hlt)⟩;obtain ⟨b1,o1',rfl,hc1⟩:=HA.out.cells_at (i:=m) (r:=aggD x) (vs:=[.string ⟨(x.1).toArray⟩,.string ⟨(x.2.1).toArray⟩,.string ⟨(x.2.2).toArray⟩]) (by rw[yQ,hx];rfl) rfl;obtain ⟨b2,o2',rfl,hc2⟩:=HB.out.cells_at (i:=m) (r:=aggD x) (vs:=[.string ⟨(x.1).toArray⟩,.string ⟨(x.2.1).toArray⟩,.string ⟨(x.2.2).toArray⟩]) (by rw[yQ,hx];rfl) rfl;obtain ⟨N0,hN0⟩:∃ N:ByteArray,(⟨(x.1).toArray⟩:ByteArray)=N:=⟨_,rfl⟩;obtain ⟨N1,hN1⟩:∃ N:ByteArray,(⟨(x.2.1).toArray⟩:ByteArray)=N:=⟨_,rfl⟩;obtain ⟨N2,hN2⟩:∃ N:ByteArray,(⟨(x.2.2).toArray⟩:ByteArray)=N:=⟨_,rfl⟩;have b1f0:wr.cell? ⟨b1,o1'+m*3,none⟩=some (.string N0):=by have:=hc1 wr HBW.out 0 _ rfl;rw[hN0]at this;simpa [Nat.add_assoc] using this
   have b1f1:wr.cell? ⟨b1,o1'+m*3+1,none⟩=some (.string N1):=by have:=hc1 wr HBW.out 1 _ rfl;rw[hN1]at this;simpa [Nat.add_assoc] using this
   have b1f2:wr.cell? ⟨b1,o1'+m*3+2,none⟩=some (.string N2):=by have:=hc1 wr HBW.out 2 _ rfl;rw[hN2]at this;simpa [Nat.add_assoc] using this
   have b2f0:wr.cell? ⟨b2,o2'+m*3,none⟩=some (.string N0):=by have:=hc2 wr HBW.out 0 _ rfl;rw[hN0]at this;simpa [Nat.add_assoc] using this
   have b2f1:wr.cell? ⟨b2,o2'+m*3+1,none⟩=some (.string N1):=by have:=hc2 wr HBW.out 1 _ rfl;rw[hN1]at this;simpa [Nat.add_assoc] using this
   have b2f2:wr.cell? ⟨b2,o2'+m*3+2,none⟩=some (.string N2):=by have:=hc2 wr HBW.out 2 _ rfl;rw[hN2]at this;simpa [Nat.add_assoc] using this
   clear hc1 hc2 hx hN0 hN1 hN2;go_upto_region 6 with (fail)
   go_quiet (fail)
   have H3:Hid (Below w.heap.size w (wr.drewN nq)):=Ba.Below.drewN HBW.out nq;go_wp2_with fail
   go_round
   case measure=>simp[intOf];omega
   case rel=>exact ⟨m+1,by omega,by rw[Int.natCast_add];rfl,H3⟩
  ·have hlt2:¬ ((m:Int)<(n:Int)):=by omega
   go_wp2_with fail
   go_ret
   exact ⟨rfl,HBW.out⟩
theorem zqW (l:List (Str×Bool)) (sa sb:Option Addr) (ca cb:Nat) (w:World) (o1 o2:Nat→Prop) (hA:Rep w o1 (.sl 2 (l.map ordD)) (.slice sa l.length ca)) (hB:Rep w o2 (.sl 2 (l.map ordD)) (.slice sb l.length cb)) :
 Calls Tryz.prog 60 #[.slice sa l.length ca,.slice sb l.length cb] w (zhs w):=by
 have HA:=hid hA;have HB:=hid hB;obtain ⟨n,hn⟩:∃ n,l.length=n:=⟨_,rfl⟩;have hm:n≤maxLen:=by
  obtain ⟨_,_,e,h1,h2⟩:=hA.len;injection e with _ e2 _
  rw[yC]at h1;omega
 have hm2:n≤9223372036854775807:=yH hm (by decide);rw[hn]at HA HB ⊢;have HN:=hid hn;have H0:Hid (Below w.heap.size w w):=Below.refl _ w;clear hA hB hn hm;go_enter func60,ntmps60
 go_wp2_with fail
 go_loopw [13] (fun i wr=>∃ m:Nat,m≤n∧i=.int .i64 m∧Hid (Below w.heap.size w wr)) (fun i _=>n-(intOf i).toNat)
 case atStart=>exact ⟨0,yS _,rfl,H0⟩
 case round =>
  clear H0;obtain ⟨m,hmn,rfl,HBW⟩:=hrel;by_cases hlt:m<n
  ·have hlt2:(m:Int)<(n:Int):=by omega
   obtain ⟨x,hx⟩:∃ x,l[m]?=some x:=⟨_,yF (by rw[HN.out];exact hlt)⟩;obtain ⟨b1,o1',rfl,hc1⟩:=HA.out.cells_at (i:=m) (r:=ordD x) (vs:=[.string ⟨(x.1).toArray⟩,.bool (x.2)]) (by rw[yQ,hx];rfl) rfl;obtain ⟨b2,o2',rfl,hc2⟩:=HB.out.cells_at (i:=m) (r:=ordD x) (vs:=[.string ⟨(x.1).toArray⟩,.bool (x.2)]) (by rw[yQ,hx];rfl) rfl;obtain ⟨N0,hN0⟩:∃ N:ByteArray,(⟨(x.1).toArray⟩:ByteArray)=N:=⟨_,rfl⟩;obtain ⟨N1,hN1⟩:∃ N:Bool,(x.2)=N:=⟨_,rfl⟩;have b1f0:wr.cell? ⟨b1,o1'+m*2,none⟩=some (.string N0):=by have:=hc1 wr HBW.out 0 _ rfl;rw[hN0]at this;simpa [Nat.add_assoc] using this
   have b1f1:wr.cell? ⟨b1,o1'+m*2+1,none⟩=some (.bool N1):=by have:=hc1 wr HBW.out 1 _ rfl;rw[hN1]at this;simpa [Nat.add_assoc] using this
   have b2f0:wr.cell? ⟨b2,o2'+m*2,none⟩=some (.string N0):=by have:=hc2 wr HBW.out 0 _ rfl;rw[hN0]at this;simpa [Nat.add_assoc] using this
   have b2f1:wr.cell? ⟨b2,o2'+m*2+1,none⟩=some (.bool N1):=by have:=hc2 wr HBW.out 1 _ rfl;rw[hN1]at this;simpa [Nat.add_assoc] using this
   clear hc1 hc2 hx hN0 hN1;go_upto_region 6 with (fail)
   go_quiet (fail)
   have H3:Hid (Below w.heap.size w (wr.drewN nq)):=Ba.Below.drewN HBW.out nq;go_wp2_with fail
   go_round
   case measure=>simp[intOf];omega
   case rel=>exact ⟨m+1,by omega,by rw[Int.natCast_add];rfl,H3⟩
  ·have hlt2:¬ ((m:Int)<(n:Int)):=by omega
   go_wp2_with fail
   go_ret
   exact ⟨rfl,HBW.out⟩
theorem ztt (l:List Inp) (sa sb:Option Addr) (ca cb:Nat) (w:World) (o1 o2:Nat→Prop) (hA:Rep w o1 (.sl 4 (l.map inpD)) (.slice sa l.length ca)) (hB:Rep w o2 (.sl 4 (l.map inpD)) (.slice sb l.length cb)) :
 Calls Tryz.prog 68 #[.slice sa l.length ca,.slice sb l.length cb] w (zhs w):=by
 have HA:=hid hA;have HB:=hid hB;obtain ⟨n,hn⟩:∃ n,l.length=n:=⟨_,rfl⟩;have hm:n≤maxLen:=by
  obtain ⟨_,_,e,h1,h2⟩:=hA.len;injection e with _ e2 _
  rw[yC]at h1;omega
 have hm2:n≤9223372036854775807:=yH hm (by decide);rw[hn]at HA HB ⊢;have HN:=hid hn;have H0:Hid (Below w.heap.size w w):=Below.refl _ w;clear hA hB hn hm;go_enter func68,ntmps68
 go_wp2_with fail
 go_loopw [13] (fun i wr=>∃ m:Nat,m≤n∧i=.int .i64 m∧Hid (Below w.heap.size w wr)) (fun i _=>n-(intOf i).toNat)
 case atStart=>exact ⟨0,yS _,rfl,H0⟩
 case round =>
  clear H0;obtain ⟨m,hmn,rfl,HBW⟩:=hrel;by_cases hlt:m<n
  ·have hlt2:(m:Int)<(n:Int):=by omega
   obtain ⟨x,hx⟩:∃ x,l[m]?=some x:=⟨_,yF (by rw[HN.out];exact hlt)⟩;obtain ⟨b1,o1',rfl,hc1⟩:=HA.out.cells_at (i:=m) (r:=inpD x) (vs:=[.string ⟨(x.a).toArray⟩,.int .i64 (x.k),.int .i64 (x.n),.string ⟨(x.s).toArray⟩]) (by rw[yQ,hx];rfl) rfl;obtain ⟨b2,o2',rfl,hc2⟩:=HB.out.cells_at (i:=m) (r:=inpD x) (vs:=[.string ⟨(x.a).toArray⟩,.int .i64 (x.k),.int .i64 (x.n),.string ⟨(x.s).toArray⟩]) (by rw[yQ,hx];rfl) rfl;obtain ⟨N0,hN0⟩:∃ N:ByteArray,(⟨(x.a).toArray⟩:ByteArray)=N:=⟨_,rfl⟩;obtain ⟨N3,hN3⟩:∃ N:ByteArray,(⟨(x.s).toArray⟩:ByteArray)=N:=⟨_,rfl⟩;obtain ⟨N1,hN1⟩:∃ N:Int,(x.k)=N:=⟨_,rfl⟩;obtain ⟨N2,hN2⟩:∃ N:Int,(x.n)=N:=⟨_,rfl⟩;have b1f0:wr.cell? ⟨b1,o1'+m*4,none⟩=some (.string N0):=by have:=hc1 wr HBW.out 0 _ rfl;rw[hN0]at this;simpa [Nat.add_assoc] using this
   have b1f1:wr.cell? ⟨b1,o1'+m*4+1,none⟩=some (.int .i64 N1):=by have:=hc1 wr HBW.out 1 _ rfl;rw[hN1]at this;simpa [Nat.add_assoc] using this
   have b1f2:wr.cell? ⟨b1,o1'+m*4+2,none⟩=some (.int .i64 N2):=by have:=hc1 wr HBW.out 2 _ rfl;rw[hN2]at this;simpa [Nat.add_assoc] using this
   have b1f3:wr.cell? ⟨b1,o1'+m*4+3,none⟩=some (.string N3):=by have:=hc1 wr HBW.out 3 _ rfl;rw[hN3]at this;simpa [Nat.add_assoc] using this
   have b2f0:wr.cell? ⟨b2,o2'+m*4,none⟩=some (.string N0):=by have:=hc2 wr HBW.out 0 _ rfl;rw[hN0]at this;simpa [Nat.add_assoc] using this
   have b2f1:wr.cell? ⟨b2,o2'+m*4+1,none⟩=some (.int .i64 N1):=by have:=hc2 wr HBW.out 1 _ rfl;rw[hN1]at this;simpa [Nat.add_assoc] using this
   have b2f2:wr.cell? ⟨b2,o2'+m*4+2,none⟩=some (.int .i64 N2):=by have:=hc2 wr HBW.out 2 _ rfl;rw[hN2]at this;simpa [Nat.add_assoc] using this
   have b2f3:wr.cell? ⟨b2,o2'+m*4+3,none⟩=some (.string N3):=by have:=hc2 wr HBW.out 3 _ rfl;rw[hN3]at this;simpa [Nat.add_assoc] using this
   clear hc1 hc2 hx hN0 hN1 hN2 hN3;go_upto_region 6 with (fail)
   go_quiet (fail)
   have H3:Hid (Below w.heap.size w (wr.drewN nq)):=Ba.Below.drewN HBW.out nq;go_wp2_with fail
   go_round
   case measure=>simp[intOf];omega
   case rel=>exact ⟨m+1,by omega,by rw[Int.natCast_add];rfl,H3⟩
  ·have hlt2:¬ ((m:Int)<(n:Int)):=by omega
   go_wp2_with fail
   go_ret
   exact ⟨rfl,HBW.out⟩
theorem ztu (l:List (Str×Int)) (sa sb:Option Addr) (ca cb:Nat) (w:World) (o1 o2:Nat→Prop) (hA:Rep w o1 (.sl 2 (l.map colD)) (.slice sa l.length ca)) (hB:Rep w o2 (.sl 2 (l.map colD)) (.slice sb l.length cb)) :
 Calls Tryz.prog 95 #[.slice sa l.length ca,.slice sb l.length cb] w (zhs w):=by
 have HA:=hid hA;have HB:=hid hB;obtain ⟨n,hn⟩:∃ n,l.length=n:=⟨_,rfl⟩;have hm:n≤maxLen:=by
  obtain ⟨_,_,e,h1,h2⟩:=hA.len;injection e with _ e2 _
  rw[yC]at h1;omega
 have hm2:n≤9223372036854775807:=yH hm (by decide);rw[hn]at HA HB ⊢;have HN:=hid hn;have H0:Hid (Below w.heap.size w w):=Below.refl _ w;clear hA hB hn hm;go_enter func95,ntmps95
 go_wp2_with fail
 go_loopw [13] (fun i wr=>∃ m:Nat,m≤n∧i=.int .i64 m∧Hid (Below w.heap.size w wr)) (fun i _=>n-(intOf i).toNat)
 case atStart=>exact ⟨0,yS _,rfl,H0⟩
 case round =>
  clear H0;obtain ⟨m,hmn,rfl,HBW⟩:=hrel;by_cases hlt:m<n
  ·have hlt2:(m:Int)<(n:Int):=by omega
   obtain ⟨x,hx⟩:∃ x,l[m]?=some x:=⟨_,yF (by rw[HN.out];exact hlt)⟩;obtain ⟨b1,o1',rfl,hc1⟩:=HA.out.cells_at (i:=m) (r:=colD x) (vs:=[.string ⟨(x.1).toArray⟩,.int .i64 (x.2)]) (by rw[yQ,hx];rfl) rfl;obtain ⟨b2,o2',rfl,hc2⟩:=HB.out.cells_at (i:=m) (r:=colD x) (vs:=[.string ⟨(x.1).toArray⟩,.int .i64 (x.2)]) (by rw[yQ,hx];rfl) rfl;obtain ⟨N0,hN0⟩:∃ N:ByteArray,(⟨(x.1).toArray⟩:ByteArray)=N:=⟨_,rfl⟩;obtain ⟨N1,hN1⟩:∃ N:Int,(x.2)=N:=⟨_,rfl⟩;have b1f0:wr.cell? ⟨b1,o1'+m*2,none⟩=some (.string N0):=by have:=hc1 wr HBW.out 0 _ rfl;rw[hN0]at this;simpa [Nat.add_assoc] using this
   have b1f1:wr.cell? ⟨b1,o1'+m*2+1,none⟩=some (.int .i64 N1):=by have:=hc1 wr HBW.out 1 _ rfl;rw[hN1]at this;simpa [Nat.add_assoc] using this
   have b2f0:wr.cell? ⟨b2,o2'+m*2,none⟩=some (.string N0):=by have:=hc2 wr HBW.out 0 _ rfl;rw[hN0]at this;simpa [Nat.add_assoc] using this
   have b2f1:wr.cell? ⟨b2,o2'+m*2+1,none⟩=some (.int .i64 N1):=by have:=hc2 wr HBW.out 1 _ rfl;rw[hN1]at this;simpa [Nat.add_assoc] using this
   clear hc1 hc2 hx hN0 hN1;go_upto_region 6 with (fail)
   go_quiet (fail)
   have H3:Hid (Below w.heap.size w (wr.drewN nq)):=Ba.Below.drewN HBW.out nq;go_wp2_with fail
   go_round
   case measure=>simp[intOf];omega
   case rel=>exact ⟨m+1,by omega,by rw[Int.natCast_add];rfl,H3⟩
  ·have hlt2:¬ ((m:Int)<(n:Int)):=by omega
   go_wp2_with fail
   go_ret
   exact ⟨rfl,HBW.out⟩
section
variable {P:Program} {ops:Array Oper} {rest:List Oper} {o:Oper} {a:Act} {Q:Exit→Act→World→Prop} {K:Act→World→Prop}
variable {S:Nat→Prop} {w0 w w':World} {L:List Bx} {D:List (List Dat×List Value)} {O:List Ow}
theorem zlE {ty:TypeId} {x:Operand} (ho:o.op=.load ty x) {b off:Nat} (hx:a.eval x=.pointer (some ⟨b,off,none⟩)) {cs:List Value} (hc:∀ (j:Nat) (v:Value),cs[j]?=some v→w.cell? ⟨b,off+j,none⟩=some v)
 (hu:(P.underlying ty).map (·.isRow)=some true) (hs:(P.info? ty).map (·.size)=some cs.length) (h:K (a.put o.dst (.agg cs.toArray)) w):o.wp P a w K Q:=by
 cases hq:P.underlying ty with
 | none=>rw[hq]at hu;cases hu
 | some d =>
  rw[hq]at hu;exact wp_load_mid ty x ho b off hx cs d hc hq (Option.some.inj hu) hs h
theorem zaF (hgd:Region.wanted o (yielded ops a.tmps)=true) {ty:TypeId} {x:Operand} (ho:o.op=.load ty x) {b off:Nat} (hx:a.eval x=.pointer (some ⟨b,off,none⟩)) {cs:List Value} (hc:∀ (j:Nat) (v:Value),cs[j]?=some v→w.cell? ⟨b,off+j,none⟩=some v)
 (hu:(P.underlying ty).map (·.isRow)=some true) (hs:(P.info? ty).map (·.size)=some cs.length) (h:wpList P ops Q rest (a.put o.dst (.agg cs.toArray)) w):wpList P ops Q (o::rest) a w :=
 zaK hgd fun _ hK=>zlE ho hx hc hu hs (hK _ _ h)
theorem zil {us cs:List Value} {off:Nat} (hsub:(us.drop off).take cs.length=cs) {j:Nat} {v:Value} (hj:cs[j]?=some v):us[off+j]?=some v:=by
 rw[← hsub,List.getElem?_take]at hj;split at hj
 ·rw[List.getElem?_drop]at hj;exact hj
 ·cases hj
theorem St.w_loadm (H:St S w0 w L D O) (hgd:Region.wanted o (yielded ops a.tmps)=true) {ty:TypeId} {x:Operand} (ho:o.op=.load ty x) {C off:Nat} (hx:a.eval x=.pointer (some ⟨C,off,none⟩)) (i:Nat) {us cs:List Value} (hi:L[i]?=some (C,us)) (hsub:(us.drop off).take cs.length=cs)
 (hu:(P.underlying ty).map (·.isRow)=some true) (hs:(P.info? ty).map (·.size)=some cs.length) (h:wpList P ops Q rest (a.put o.dst (.agg cs.toArray)) w):wpList P ops Q (o::rest) a w :=
 zaF hgd ho hx (fun _ _ hv=>(H.at hi).cl _ _ (zil hsub hv)) hu hs h
end
theorem zac {w0 w:World} {L:List Bx} {D:List (List Dat×List Value)} {O:List Ow} (h:St (fun _=>False) w0 w L D O):Below w0.heap.size w0 w:=h.kept.below (yG _) fun _ x=>x.elim
theorem repOf {W:World} {ok:Nat→Prop} {d:Dat} {v:Value} (h:Row W ok [d] [v]):Rep W ok d v:=h.2 0 _ _ rfl rfl
theorem Rep.cellsR {w:World} {ok:Nat→Prop} {k n cap i:Nat} {rows:List (List Dat)} {ao:Option Addr} {r:List Dat} (h:Rep w ok (.sl k rows) (.slice ao n cap)) (hi:rows[i]?=some r) :
 ∃ b o cs,ao=some ⟨b,o,none⟩∧Row w ok r cs∧cs.length=k∧∀ W,Below w.heap.size w W→∀ (j:Nat) (v:Value),cs[j]?=some v→W.cell? ⟨b,o+i*k+j,none⟩=some v:=by
 obtain ⟨b,o,cs,e1,e2,_,e4,e5,e6⟩:=h.at hi;refine ⟨b,o,cs,e1,e6,e5,fun W hb j v hv=>?_⟩;have hj:j<cs.length:=(yE.1 hv).1;rw[Nat.add_assoc];exact ((kcell (Kept.of_below (S:=fun _=>False) hb) e2 (fun x=>x)).trans (e4 j (by omega))).trans hv
theorem zbF {α β:Type} (f:α→β) {l:List α} {k:Nat} {x:α} (h:l[k]?=some x):(l.take (k+1)).map f=(l.take k).map f++[f x]:=by
 rw[List.take_add_one,h,List.map_append];rfl
def PlAt (W:World) (ok:Nat→Prop) (x:Pl) (a0:Option Addr) (ac0:Nat) (a1:Option Addr) (ac1:Nat) (a2:Option Addr) (ac2:Nat) (a3:Option Addr) (ac3:Nat) (a4:Option Addr) (ac4:Nat) (a5:Option Addr) (ac5:Nat) (a6:Option Addr) (ac6:Nat):Prop:=PlRep W ok x (.slice a0 x.xs.length ac0) (.slice a1 x.cond.xs.length ac1) (.slice a2 x.names.length ac2) (.slice a3 x.exprs.length ac3) (.slice a4 x.on.length ac4) (.slice a5 x.aggs.length ac5) (.slice a6 x.ord.length ac6)
abbrev plV (x:Pl) (a0:Option Addr) (ac0:Nat) (a1:Option Addr) (ac1:Nat) (a2:Option Addr) (ac2:Nat) (a3:Option Addr) (ac3:Nat) (a4:Option Addr) (ac4:Nat) (a5:Option Addr) (ac5:Nat) (a6:Option Addr) (ac6:Nat):Value:=.agg (plC x (.slice a0 x.xs.length ac0) (.slice a1 x.cond.xs.length ac1) (.slice a2 x.names.length ac2) (.slice a3 x.exprs.length ac3) (.slice a4 x.on.length ac4) (.slice a5 x.aggs.length ac5) (.slice a6 x.ord.length ac6)).toArray
theorem PlRep.shape {W:World} {ok:Nat→Prop} {x:Pl} {s0 s1 s2 s3 s4 s5 s6:Value} (h:PlRep W ok x s0 s1 s2 s3 s4 s5 s6):∃ a0 ac0 a1 ac1 a2 ac2 a3 ac3 a4 ac4 a5 ac5 a6 ac6,s0=.slice a0 x.xs.length ac0∧s1=.slice a1 x.cond.xs.length ac1∧s2=.slice a2 x.names.length ac2∧s3=.slice a3 x.exprs.length ac3∧s4=.slice a4 x.on.length ac4∧s5=.slice a5 x.aggs.length ac5∧s6=.slice a6 x.ord.length ac6:=by
 obtain ⟨a0,k0,rfl,_⟩:=h.args.len;obtain ⟨a1,k1,rfl,_⟩:=h.cond.len;obtain ⟨a2,k2,rfl,_⟩:=h.names.len;obtain ⟨a3,k3,rfl,_⟩:=h.exprs.len;obtain ⟨a4,k4,rfl,_⟩:=h.on.len;obtain ⟨a5,k5,rfl,_⟩:=h.aggs.len;obtain ⟨a6,k6,rfl,_⟩:=h.ord.len;refine ⟨a0,k0,a1,k1,a2,k2,a3,k3,a4,k4,a5,k5,a6,k6,?_⟩;simp only[zaZ,zdh,yC,and_self]
theorem zcb {W:World} {ok:Nat→Prop} {x:Pl} {cs:List Value} (h:Row W ok (plD x) cs):∃ a0 ac0 a1 ac1 a2 ac2 a3 ac3 a4 ac4 a5 ac5 a6 ac6,cs=plC x (.slice a0 x.xs.length ac0) (.slice a1 x.cond.xs.length ac1) (.slice a2 x.names.length ac2) (.slice a3 x.exprs.length ac3) (.slice a4 x.on.length ac4) (.slice a5 x.aggs.length ac5) (.slice a6 x.ord.length ac6)∧PlAt W ok x a0 ac0 a1 ac1 a2 ac2 a3 ac3 a4 ac4 a5 ac5 a6 ac6:=by
 obtain ⟨s0,s1,s2,s3,s4,s5,s6,rfl,h2⟩:=zm3 h;obtain ⟨a0,k0,a1,k1,a2,k2,a3,k3,a4,k4,a5,k5,a6,k6,rfl,rfl,rfl,rfl,rfl,rfl,rfl⟩:=h2.shape;exact ⟨a0,k0,a1,k1,a2,k2,a3,k3,a4,k4,a5,k5,a6,k6,rfl,h2⟩
theorem PlRep.kept {S ok:Nat→Prop} {W W':World} {x:Pl} {s0 s1 s2 s3 s4 s5 s6:Value} (h:PlRep W ok x s0 s1 s2 s3 s4 s5 s6) (g:Kept S W W') (hS:∀ b,b<W.heap.size→ok b→¬ S b):PlRep W' ok x s0 s1 s2 s3 s4 s5 s6:=⟨h.args.kept g hS,h.cond.kept g hS,h.names.kept g hS,h.exprs.kept g hS,h.on.kept g hS,h.aggs.kept g hS,h.ord.kept g hS⟩
theorem PlRep.below {ok:Nat→Prop} {W W':World} {x:Pl} {s0 s1 s2 s3 s4 s5 s6:Value} (h:PlRep W ok x s0 s1 s2 s3 s4 s5 s6) (g:Below W.heap.size W W'):PlRep W' ok x s0 s1 s2 s3 s4 s5 s6:=h.kept (S:=fun _=>False) (Kept.of_below g) (fun _ _ _ x=>x)
theorem arg16 {W:World} {ok:Nat→Prop} {ao:Option Addr} {n cap i:Nat} {xs:List Pl} {x:Pl} (h:Rep W ok (.sl 16 (plDs xs)) (.slice ao n cap)) (ha:xs[i]?=some x) :
 ∃ b o a0 ac0 a1 ac1 a2 ac2 a3 ac3 a4 ac4 a5 ac5 a6 ac6,ao=some ⟨b,o,none⟩∧b<W.heap.size∧ok b∧PlAt W ok x a0 ac0 a1 ac1 a2 ac2 a3 ac3 a4 ac4 a5 ac5 a6 ac6∧∀ j c,(plC x (.slice a0 x.xs.length ac0) (.slice a1 x.cond.xs.length ac1) (.slice a2 x.names.length ac2) (.slice a3 x.exprs.length ac3) (.slice a4 x.on.length ac4) (.slice a5 x.aggs.length ac5) (.slice a6 x.ord.length ac6))[j]?=some c→W.cell? ⟨b,o+i*16+j,none⟩=some c:=by
 have hi:(plDs xs)[i]?=some (plD x):=by rw[zaZ,yQ,ha];rfl
 obtain ⟨b,o,cs,e1,e2,e3,e4,e5,e6⟩:=Rep.at h hi;obtain ⟨a0,k0,a1,k1,a2,k2,a3,k3,a4,k4,a5,k5,a6,k6,rfl,h7⟩:=zcb e6;refine ⟨b,o,a0,k0,a1,k1,a2,k2,a3,k3,a4,k4,a5,k5,a6,k6,e1,e2,e3,h7,fun j c hc=>?_⟩;have hj:j<16:=(yE.1 hc).1;rw[Nat.add_assoc,e4 j hj];exact hc
def PqT (x:Pl):Prop:=∀ a0 ac0 a1 ac1 a2 ac2 a3 ac3 a4 ac4 a5 ac5 a6 ac6 b0 bc0 b1 bc1 b2 bc2 b3 bc3 b4 bc4 b5 bc5 b6 bc6 (w:World) (ok:Nat→Prop),PlAt w ok x a0 ac0 a1 ac1 a2 ac2 a3 ac3 a4 ac4 a5 ac5 a6 ac6→PlAt w ok x b0 bc0 b1 bc1 b2 bc2 b3 bc3 b4 bc4 b5 bc5 b6 bc6→Calls Tryz.prog 31 #[plV x a0 ac0 a1 ac1 a2 ac2 a3 ac3 a4 ac4 a5 ac5 a6 ac6,plV x b0 bc0 b1 bc1 b2 bc2 b3 bc3 b4 bc4 b5 bc5 b6 bc6] w (EqTo w true)
theorem zmY (xs:List Pl) (ih:∀ x∈xs,PqT x) (sa sb:Option Addr) (ca cb:Nat) (w:World) (ok:Nat→Prop) (hA:Rep w ok (.sl 16 (plDs xs)) (.slice sa xs.length ca)) (hB:Rep w ok (.sl 16 (plDs xs)) (.slice sb xs.length cb)) :
 Calls Tryz.prog 56 #[.slice sa xs.length ca,.slice sb xs.length cb,.func (.func 31) #[] #[]] w (EqTo w true):=by
 have hl:xs.length≤maxLen:=by
  obtain ⟨_,_,_,h1,h2⟩:=hA.len;rw[zaZ,yC]at h1;exact yH h1 h2
 unfold maxLen at hl;have HA:=hid hA;have HB:=hid hB;have HI:=hid ih;obtain ⟨n,hn⟩:∃ n,xs.length=n:=⟨_,rfl⟩;rw[hn]at HA HB hl ⊢;have HN:=hid hn;clear hA hB ih hn;go_enter func56,ntmps56
 go_wp2_with fail
 go_loopw [17] (fun i wr=>∃ k:Nat,k≤n∧i=.int .i64 k∧Hid (Below w.heap.size w wr)) (fun i _=>n-(intOf i).toNat)
 case atStart=>exact ⟨0,yS _,rfl,Below.refl _ _⟩
 case round =>
  obtain ⟨k,hk,rfl,HW⟩:=hrel;by_cases hlt:k<n
  ·obtain ⟨x,hx⟩:∃ x,xs[k]?=some x:=⟨_,yF (by rw[HN.out];exact hlt)⟩;obtain ⟨g1,u1,a0,ac0,a1,ac1,a2,ac2,a3,ac3,a4,ac4,a5,ac5,a6,ac6,rfl,l1,_,X1,F1⟩:=arg16 (HA.out.kept (S:=fun _=>False) (Kept.of_below HW.out) (fun _ _ _ x=>x)) hx;obtain ⟨g2,u2,b0,bc0,b1,bc1,b2,bc2,b3,bc3,b4,bc4,b5,bc5,b6,bc6,rfl,l2,_,X2,F2⟩:=arg16 (HB.out.kept (S:=fun _=>False) (Kept.of_below HW.out) (fun _ _ _ x=>x)) hx;have H:=hid (St.start (S:=fun _=>False) wr);have HC1:Hid (∀ W,Below wr.heap.size wr W→∀ (j:Nat) (v:Value),(plC x (.slice a0 x.xs.length ac0) (.slice a1 x.cond.xs.length ac1) (.slice a2 x.names.length ac2) (.slice a3 x.exprs.length ac3) (.slice a4 x.on.length ac4) (.slice a5 x.aggs.length ac5) (.slice a6 x.ord.length ac6))[j]?=some v→W.cell? ⟨g1,u1+k*16+j,none⟩=some v):=fun W hb j v hv=>(hb.cell (zb3 (F1 j v hv))).trans (F1 j v hv)
   have HC2:Hid (∀ W,Below wr.heap.size wr W→∀ (j:Nat) (v:Value),(plC x (.slice b0 x.xs.length bc0) (.slice b1 x.cond.xs.length bc1) (.slice b2 x.names.length bc2) (.slice b3 x.exprs.length bc3) (.slice b4 x.on.length bc4) (.slice b5 x.aggs.length bc5) (.slice b6 x.ord.length bc6))[j]?=some v→W.cell? ⟨g2,u2+k*16+j,none⟩=some v):=fun W hb j v hv=>(hb.cell (zb3 (F2 j v hv))).trans (F2 j v hv)
   have hb1:=HW.out.size;have HC:=hid (fun W (hb:Below wr.heap.size wr W)=>HI.out x (yP hx) a0 ac0 a1 ac1 a2 ac2 a3 ac3 a4 ac4 a5 ac5 a6 ac6 b0 bc0 b1 bc1 b2 bc2 b3 bc3 b4 bc4 b5 bc5 b6 bc6 W ok (PlRep.below X1 hb) (PlRep.below X2 hb));clear X1 X2 F1 F2 hx;have hkn:(k:Int)<(n:Int):=by omega
   go_wp2_with (first|(refine zaF (by rfl) (ty:=57) (cs:=(plC x (.slice a0 x.xs.length ac0) (.slice a1 x.cond.xs.length ac1) (.slice a2 x.names.length ac2) (.slice a3 x.exprs.length ac3) (.slice a4 x.on.length ac4) (.slice a5 x.aggs.length ac5) (.slice a6 x.ord.length ac6))) rfl rfl (HC1.out _ (zac H.out)) uPl_ sPl_ ?_)|(refine zaF (by rfl) (ty:=57) (cs:=(plC x (.slice b0 x.xs.length bc0) (.slice b1 x.cond.xs.length bc1) (.slice b2 x.names.length bc2) (.slice b3 x.exprs.length bc3) (.slice b4 x.on.length bc4) (.slice b5 x.aggs.length bc5) (.slice b6 x.ord.length bc6))) rfl rfl (HC2.out _ (zac H.out)) uPl_ sPl_ ?_)|(refine St.w_alloc (ty:=57) H.out (by rfl) rfl zPl_ rfl ?_;intro wn Cn _ _ H2;replace H:=hid H2;clear H2)|(refine St.w_store (ty:=57) H.out (by rfl) rfl rfl rfl 0 rfl rfl rfl sPl_ (zad rfl) ?_;intro wn _ _ H2;replace H:=hid H2;clear H2)|(first|(refine St.w_load (ty:=57) H.out (by rfl) rfl rfl 0 rfl uPl_ sPl_ ?_)|(refine St.w_load (ty:=57) H.out (by rfl) rfl rfl 1 rfl uPl_ sPl_ ?_))|(go_at_call 31;(with_reducible (refine (HC.out _ (zac H.out)).mono ?_));rintro e w2 ⟨rfl,hb⟩;replace H:=hid (H.out.below hb);clear hb))
   have HB2:=hid (zac H.out);go_roundw
   case rel=>exact ⟨k+1,by omega,by go_num,HW.out.trans (HB2.out.mono hb1)⟩
   case measure=>simp[intOf];omega
  ·go_wp2_with fail
   go_ret
   exact ⟨rfl,HW.out⟩
theorem zlw (K C X0 X2 X3:Int) (N X1 X4 X5:ByteArray) (a0 b0 a1 b1 a2 b2 a3 b3 a4 b4 a5 b5 a6 b6:Option Addr) (L0 ac0 bc0 L1 ac1 bc1 L2 ac2 bc2 L3 ac3 bc3 L4 ac4 bc4 L5 ac5 bc5 L6 ac6 bc6:Nat) (w:World)
 (H0:Hid (∀ W,Below w.heap.size w W→Calls Tryz.prog 56 #[.slice a0 L0 ac0,.slice b0 L0 bc0,.func (.func 31) #[] #[]] W (EqTo W true)))
 (H1:Hid (∀ W,Below w.heap.size w W→Calls Tryz.prog 19 #[.agg #[.int .i64 X0,.string X1,.int .i64 X2,.int .i64 X3,.string X4,.string X5,.slice a1 L1 ac1],.agg #[.int .i64 X0,.string X1,.int .i64 X2,.int .i64 X3,.string X4,.string X5,.slice b1 L1 bc1]] W (EqTo W true)))
 (H2:Hid (∀ W,Below w.heap.size w W→Calls Tryz.prog 57 #[.slice a2 L2 ac2,.slice b2 L2 bc2] W (EqTo W true)))
 (H3:Hid (∀ W,Below w.heap.size w W→Calls Tryz.prog 50 #[.slice a3 L3 ac3,.slice b3 L3 bc3,.func (.func 19) #[] #[]] W (EqTo W true)))
 (H4:Hid (∀ W,Below w.heap.size w W→Calls Tryz.prog 58 #[.slice a4 L4 ac4,.slice b4 L4 bc4] W (EqTo W true)))
 (H5:Hid (∀ W,Below w.heap.size w W→Calls Tryz.prog 59 #[.slice a5 L5 ac5,.slice b5 L5 bc5] W (EqTo W true)))
 (H6:Hid (∀ W,Below w.heap.size w W→Calls Tryz.prog 60 #[.slice a6 L6 ac6,.slice b6 L6 bc6] W (EqTo W true)))
 : Calls Tryz.prog 31 #[.agg #[.int .i64 K,.string N,.slice a0 L0 ac0,.int .i64 X0,.string X1,.int .i64 X2,.int .i64 X3,.string X4,.string X5,.slice a1 L1 ac1,.slice a2 L2 ac2,.slice a3 L3 ac3,.slice a4 L4 ac4,.slice a5 L5 ac5,.slice a6 L6 ac6,.int .i64 C],.agg #[.int .i64 K,.string N,.slice b0 L0 bc0,.int .i64 X0,.string X1,.int .i64 X2,.int .i64 X3,.string X4,.string X5,.slice b1 L1 bc1,.slice b2 L2 bc2,.slice b3 L3 bc3,.slice b4 L4 bc4,.slice b5 L5 bc5,.slice b6 L6 bc6,.int .i64 C]] w (EqTo w true):=by
 have W2:=((Below.refl w.heap.size w).alloc (yG _) (.cells #[.int .i64 K,.string N,.slice a0 L0 ac0,.int .i64 X0,.string X1,.int .i64 X2,.int .i64 X3,.string X4,.string X5,.slice a1 L1 ac1,.slice a2 L2 ac2,.slice a3 L3 ac3,.slice a4 L4 ac4,.slice a5 L5 ac5,.slice a6 L6 ac6,.int .i64 C] 57)).alloc (by simp) (.cells #[.int .i64 K,.string N,.slice b0 L0 bc0,.int .i64 X0,.string X1,.int .i64 X2,.int .i64 X3,.string X4,.string X5,.slice b1 L1 bc1,.slice b2 L2 bc2,.slice b3 L3 bc3,.slice b4 L4 bc4,.slice b5 L5 bc5,.slice b6 L6 bc6,.int .i64 C] 57)
 have X:=(Box.new w [.int .i64 K,.string N,.slice a0 L0 ac0,.int .i64 X0,.string X1,.int .i64 X2,.int .i64 X3,.string X4,.string X5,.slice a1 L1 ac1,.slice a2 L2 ac2,.slice a3 L3 ac3,.slice a4 L4 ac4,.slice a5 L5 ac5,.slice a6 L6 ac6,.int .i64 C] 57).alloc (.cells #[.int .i64 K,.string N,.slice b0 L0 bc0,.int .i64 X0,.string X1,.int .i64 X2,.int .i64 X3,.string X4,.string X5,.slice b1 L1 bc1,.slice b2 L2 bc2,.slice b3 L3 bc3,.slice b4 L4 bc4,.slice b5 L5 bc5,.slice b6 L6 bc6,.int .i64 C] 57)
 have Y:=Box.new (w.alloc (.cells #[.int .i64 K,.string N,.slice a0 L0 ac0,.int .i64 X0,.string X1,.int .i64 X2,.int .i64 X3,.string X4,.string X5,.slice a1 L1 ac1,.slice a2 L2 ac2,.slice a3 L3 ac3,.slice a4 L4 ac4,.slice a5 L5 ac5,.slice a6 L6 ac6,.int .i64 C] 57)) [.int .i64 K,.string N,.slice b0 L0 bc0,.int .i64 X0,.string X1,.int .i64 X2,.int .i64 X3,.string X4,.string X5,.slice b1 L1 bc1,.slice b2 L2 bc2,.slice b3 L3 bc3,.slice b4 L4 bc4,.slice b5 L5 bc5,.slice b6 L6 bc6,.int .i64 C] 57;rw[World.size_alloc]at Y;have HB:=hid W2;have X:=hid X;have Y:=hid Y;clear W2;go_enter func31,ntmps31
 have x0:=X.out.cl 0 _ rfl;have y0:=Y.out.cl 0 _ rfl;have x1:=X.out.cl 1 _ rfl;have y1:=Y.out.cl 1 _ rfl;have x2:=X.out.cl 2 _ rfl;have y2:=Y.out.cl 2 _ rfl
 go_wp2_with (first|(go_at_call 56;(with_reducible (refine (H0.out _ HB.out).mono ?_));rintro e wc ⟨rfl,hb⟩;have HB2:=hid (two HB.out hb);clear HB;have HB:=HB2;clear HB2;have X1:=hid (X.out.next hb);have Y1:=hid (Y.out.next hb);clear X Y hb;have X:=X1;have Y:=Y1;clear X1 Y1;have x3:=X.out.cl 3 _ rfl;have y3:=Y.out.cl 3 _ rfl;have x4:=X.out.cl 4 _ rfl;have y4:=Y.out.cl 4 _ rfl;have x5:=X.out.cl 5 _ rfl;have y5:=Y.out.cl 5 _ rfl;have x6:=X.out.cl 6 _ rfl;have y6:=Y.out.cl 6 _ rfl;have x7:=X.out.cl 7 _ rfl;have y7:=Y.out.cl 7 _ rfl;have x8:=X.out.cl 8 _ rfl;have y8:=Y.out.cl 8 _ rfl;have x9:=X.out.cl 9 _ rfl;have y9:=Y.out.cl 9 _ rfl)|(go_at_call 19;(with_reducible (refine (H1.out _ HB.out).mono ?_));rintro e wc ⟨rfl,hb⟩;have HB2:=hid (two HB.out hb);clear HB;have HB:=HB2;clear HB2;have X1:=hid (X.out.next hb);have Y1:=hid (Y.out.next hb);clear X Y hb;have X:=X1;have Y:=Y1;clear X1 Y1;have x10:=X.out.cl 10 _ rfl;have y10:=Y.out.cl 10 _ rfl)|(go_at_call 57;(with_reducible (refine (H2.out _ HB.out).mono ?_));rintro e wc ⟨rfl,hb⟩;have HB2:=hid (two HB.out hb);clear HB;have HB:=HB2;clear HB2;have X1:=hid (X.out.next hb);have Y1:=hid (Y.out.next hb);clear X Y hb;have X:=X1;have Y:=Y1;clear X1 Y1;have x11:=X.out.cl 11 _ rfl;have y11:=Y.out.cl 11 _ rfl)|(go_at_call 50;(with_reducible (refine (H3.out _ HB.out).mono ?_));rintro e wc ⟨rfl,hb⟩;have HB2:=hid (two HB.out hb);clear HB;have HB:=HB2;clear HB2;have X1:=hid (X.out.next hb);have Y1:=hid (Y.out.next hb);clear X Y hb;have X:=X1;have Y:=Y1;clear X1 Y1;have x12:=X.out.cl 12 _ rfl;have y12:=Y.out.cl 12 _ rfl)|(go_at_call 58;(with_reducible (refine (H4.out _ HB.out).mono ?_));rintro e wc ⟨rfl,hb⟩;have HB2:=hid (two HB.out hb);clear HB;have HB:=HB2;clear HB2;have X1:=hid (X.out.next hb);have Y1:=hid (Y.out.next hb);clear X Y hb;have X:=X1;have Y:=Y1;clear X1 Y1;have x13:=X.out.cl 13 _ rfl;have y13:=Y.out.cl 13 _ rfl)|(go_at_call 59;(with_reducible (refine (H5.out _ HB.out).mono ?_));rintro e wc ⟨rfl,hb⟩;have HB2:=hid (two HB.out hb);clear HB;have HB:=HB2;clear HB2;have X1:=hid (X.out.next hb);have Y1:=hid (Y.out.next hb);clear X Y hb;have X:=X1;have Y:=Y1;clear X1 Y1;have x14:=X.out.cl 14 _ rfl;have y14:=Y.out.cl 14 _ rfl)|(go_at_call 60;(with_reducible (refine (H6.out _ HB.out).mono ?_));rintro e wc ⟨rfl,hb⟩;have HB2:=hid (two HB.out hb);clear HB;have HB:=HB2;clear HB2;have X1:=hid (X.out.next hb);have Y1:=hid (Y.out.next hb);clear X Y hb;have X:=X1;have Y:=Y1;clear X1 Y1;have x15:=X.out.cl 15 _ rfl;have y15:=Y.out.cl 15 _ rfl))
 go_ret
 exact ⟨rfl,HB.out⟩
theorem zlx (x:Pl) (ih:∀ a∈x.xs,PqT a):PqT x:=fun a0 ac0 a1 ac1 a2 ac2 a3 ac3 a4 ac4 a5 ac5 a6 ac6 b0 bc0 b1 bc1 b2 bc2 b3 bc3 b4 bc4 b5 bc5 b6 bc6 w ok hA hB=>by
 have hbl:∀ W,Below w.heap.size w W→PlAt W ok x a0 ac0 a1 ac1 a2 ac2 a3 ac3 a4 ac4 a5 ac5 a6 ac6∧PlAt W ok x b0 bc0 b1 bc1 b2 bc2 b3 bc3 b4 bc4 b5 bc5 b6 bc6:=fun W hb=>⟨PlRep.below hA hb,PlRep.below hB hb⟩
 refine zlw x.k x.cnt x.cond.k x.cond.v.k x.cond.v.n ⟨x.nm.toArray⟩ ⟨x.cond.nm.toArray⟩ ⟨x.cond.v.t.toArray⟩ ⟨x.cond.op.toArray⟩ a0 b0 a1 b1 a2 b2 a3 b3 a4 b4 a5 b5 a6 b6 x.xs.length ac0 bc0 x.cond.xs.length ac1 bc1 x.names.length ac2 bc2 x.exprs.length ac3 bc3 x.on.length ac4 bc4 x.aggs.length ac5 bc5 x.ord.length ac6 bc6 w (fun W hb=>?_) (fun W hb=>?_) (fun W hb=>?_) (fun W hb=>?_) (fun W hb=>?_) (fun W hb=>?_) (fun W hb=>?_)
 ·exact zmY x.xs ih _ _ _ _ W ok (hbl W hb).1.args (hbl W hb).2.args
 ·have:=zdY x.cond x.cond a1 b1 ac1 bc1 W ok (hbl W hb).1.cond (hbl W hb).2.cond;rw[(zet _ _).2 rfl]at this;exact this
 ·exact zok x.names _ _ _ _ W ok ok (hbl W hb).1.names (hbl W hb).2.names
 ·have:=zj2 x.exprs x.exprs (fun a _=>zdY a) a3 b3 ac3 bc3 W ok (hbl W hb).1.exprs (hbl W hb).2.exprs;rw[(zdI _ _).2 rfl]at this;exact this
 ·exact zqV x.on _ _ _ _ W ok ok (hbl W hb).1.on (hbl W hb).2.on
 ·exact zqX x.aggs _ _ _ _ W ok ok (hbl W hb).1.aggs (hbl W hb).2.aggs
 ·exact zqW x.ord _ _ _ _ W ok ok (hbl W hb).1.ord (hbl W hb).2.ord
theorem ziD:∀ x,PqT x:=Pl.ind zlx
