/- Walks: slices.Equal: any two lists. -/
import Derived.Test.YtonkjhmkppeagaaGreatDoorVEq
set_option maxRecDepth 100000
set_option maxHeartbeats 3200000
set_option linter.unusedVariables false
set_option linter.unusedSimpArgs false
namespace Go.Proofs.YtonkjhmkppeagaaGreatDoor.Pz
open Go.Proofs.Tryz
open Go.Lib (hid)
open Go.RowKit Go Go.Sort Ba Lx
theorem zr9 {x y:Inp} (h0:x.a=y.a) (h1:x.k=y.k) (h2:x.n=y.n) (h3:x.s=y.s):x=y:=by
 cases x;cases y;simp only at h0 h1 h2 h3;subst h0 h1 h2 h3;rfl
theorem zhP {α:Type} {xs ys:List α} (hl:xs.length=ys.length) (h:∀ (k:Nat) (x y:α),xs[k]?=some x→ys[k]?=some y→x=y):xs=ys:=by
 apply List.ext_getElem?;intro k;by_cases hk:k<xs.length
 ·have h1:=yF hk;have h2:=yF (l:=ys) (i:=k) (by omega);rw[h1,h2,h k _ _ h1 h2]
 ·rw[List.getElem?_eq_none (by omega),List.getElem?_eq_none (by omega)]
theorem zek {q:Bool} {p:Prop} (h:q=true↔p) (hp:¬ p):q=false:=by
 cases q with
 | false=>rfl
 | true=>exact absurd (h.1 rfl) hp
theorem zol (l1 l2:List Str) (q:Bool) (hq:q=true↔l1=l2) (sa sb:Option Addr) (ca cb:Nat) (w:World) (o1 o2:Nat→Prop) (hA:Rep w o1 (.sl 1 (l1.map strD)) (.slice sa l1.length ca)) (hB:Rep w o2 (.sl 1 (l2.map strD)) (.slice sb l2.length cb)) :
 Calls Tryz.prog 57 #[.slice sa l1.length ca,.slice sb l2.length cb] w (EqTo w q):=by
 have HA:=hid hA;have HB:=hid hB;have HQ:=hid hq;have H0:Hid (Below w.heap.size w w):=Below.refl _ w;have hm:l1.length≤9223372036854775807:=by
  obtain ⟨_,_,e,h1,h2⟩:=hA.len;rw[yC]at h1;exact yH (yH h1 h2) (by decide)
 have hm':l2.length≤9223372036854775807:=by
  obtain ⟨_,_,e,h1,h2⟩:=hB.len;rw[yC]at h1;exact yH (yH h1 h2) (by decide)
 by_cases hlen:l1.length=l2.length
 ·obtain ⟨n,hn⟩:∃ n,l1.length=n:=⟨_,rfl⟩;have hn':l2.length=n:=by omega
  rw[hn]at HA hm ⊢;rw[hn']at HB ⊢;have HN:=hid hn;have HN':=hid hn';clear hA hB hn hn' hm' hlen hq;go_enter func57,ntmps57
  go_wp2_with fail
  go_loopw [13] (fun i wr=>∃ m:Nat,m≤n∧i=.int .i64 m∧Hid (Below w.heap.size w wr)∧Hid (∀ (j:Nat) (x y:Str),j<m→l1[j]?=some x→l2[j]?=some y→x=y)) (fun i _=>n-(intOf i).toNat)
  case atStart=>exact ⟨0,yS _,rfl,H0,(fun j x y hj=>by omega:∀ (j:Nat) (x y:Str),j<0→l1[j]?=some x→l2[j]?=some y→x=y)⟩
  case round =>
   clear H0;obtain ⟨m,hmn,rfl,HBW,HE⟩:=hrel;by_cases hlt:m<n
   ·have hlt2:(m:Int)<(n:Int):=by omega
    obtain ⟨x,hx⟩:∃ x,l1[m]?=some x:=⟨_,yF (by rw[HN.out];exact hlt)⟩;obtain ⟨y,hy⟩:∃ y,l2[m]?=some y:=⟨_,yF (by rw[HN'.out];exact hlt)⟩;obtain ⟨b1,o1',rfl,hc1⟩:=HA.out.cells_at (i:=m) (r:=strD x) (vs:=[.string ⟨(x).toArray⟩]) (by rw[yQ,hx];rfl) rfl;obtain ⟨b2,o2',rfl,hc2⟩:=HB.out.cells_at (i:=m) (r:=strD y) (vs:=[.string ⟨(y).toArray⟩]) (by rw[yQ,hy];rfl) rfl;by_cases hxy:x=y
    ·subst hxy;obtain ⟨N0,hN0⟩:∃ N:ByteArray,(⟨(x).toArray⟩:ByteArray)=N:=⟨_,rfl⟩;have b1f0:wr.cell? ⟨b1,o1'+m,none⟩=some (.string N0):=by have:=hc1 wr HBW.out 0 _ rfl;rw[hN0]at this;simpa [Nat.add_assoc] using this
     have b2f0:wr.cell? ⟨b2,o2'+m,none⟩=some (.string N0):=by have:=hc2 wr HBW.out 0 _ rfl;rw[hN0]at this;simpa [Nat.add_assoc] using this
     have HHX:=hid hx;have HHY:=hid hy;clear hc1 hc2 hx hy hN0;go_upto_region 6 with (fail)
     go_quiet (fail)
     have H3:Hid (Below w.heap.size w (wr.drewN nq)):=Ba.Below.drewN HBW.out nq;go_wp2_with fail
     go_round
     case measure=>simp[intOf];omega
     case rel=>exact ⟨m+1,by omega,by rw[Int.natCast_add];rfl,H3,(fun j x' y' hj hx' hy'=>by
      by_cases hjk:j<m
      ·exact HE.out j x' y' hjk hx' hy'
      ·obtain rfl:j=m:=by omega
       rw[HHX.out]at hx';rw[HHY.out]at hy';exact (Option.some.inj hx').symm.trans (Option.some.inj hy'):∀ (j:Nat) (x y:Str),j<m+1→l1[j]?=some x→l2[j]?=some y→x=y)⟩
    ·have HXY:=hid hxy;clear hxy;have g0:¬ x=y:=HXY.out;obtain ⟨N0,hN0⟩:∃ N:ByteArray,(⟨(x).toArray⟩:ByteArray)=N:=⟨_,rfl⟩;obtain ⟨M0,hM0⟩:∃ N:ByteArray,(⟨(y).toArray⟩:ByteArray)=N:=⟨_,rfl⟩;have b1f0:wr.cell? ⟨b1,o1'+m,none⟩=some (.string N0):=by have:=hc1 wr HBW.out 0 _ rfl;rw[hN0]at this;simpa [Nat.add_assoc] using this
     have b2f0:wr.cell? ⟨b2,o2'+m,none⟩=some (.string M0):=by have:=hc2 wr HBW.out 0 _ rfl;rw[hM0]at this;simpa [Nat.add_assoc] using this
     have e0:(N0.toList == M0.toList)=false:=by rw[← hN0,← hM0];exact zfP g0
     have HHX:=hid hx;have HHY:=hid hy;clear hc1 hc2 hx hy hN0 hM0 g0;have HF:Hid (q=false):=zek HQ.out fun h=>by
      have e1:=HHX.out;have e2:=HHY.out;rw[h]at e1;exact HXY.out (Option.some.inj (e1.symm.trans e2))
     go_upto_region 6 with (fail)
     go_quiet (fail)
     have H3:Hid (Below w.heap.size w (wr.drewN nq)):=Ba.Below.drewN HBW.out nq;go_wp2_with fail
     go_ret
     rw[HF.out];exact ⟨rfl,H3.out⟩
   ·have hlt2:¬ ((m:Int)<(n:Int)):=by omega
    have HF:Hid (q=true):=HQ.out.2 (zhP (by rw[HN.out,HN'.out]) fun j x y hx hy=>HE.out j x y (by have:=(yE.1 hx).1;rw[HN.out]at this;omega) hx hy);go_wp2_with fail
    go_ret
    rw[HF.out];exact ⟨rfl,HBW.out⟩
 ·have HF:Hid (q=false):=zek hq fun h=>hlen (by rw[h])
  obtain ⟨n,hn⟩:∃ n,l1.length=n:=⟨_,rfl⟩;obtain ⟨n',hn'⟩:∃ n,l2.length=n:=⟨_,rfl⟩;rw[hn]at hlen hm ⊢;rw[hn']at hlen hm' ⊢;have hne:((n:Int) == (n':Int))=false:=by simp;omega
  have hne2:((n:Int) != (n':Int))=true:=by simp;omega
  have hne3:¬ (n:Int)=(n':Int):=by omega
  clear hA hB hn hn' hq HA HB HQ hlen;go_enter func57,ntmps57
  go_wp2_with fail
  go_ret
  rw[HF.out];exact ⟨rfl,H0.out⟩
theorem ztz (l1 l2:List Inp) (q:Bool) (hq:q=true↔l1=l2) (sa sb:Option Addr) (ca cb:Nat) (w:World) (o1 o2:Nat→Prop) (hA:Rep w o1 (.sl 4 (l1.map inpD)) (.slice sa l1.length ca)) (hB:Rep w o2 (.sl 4 (l2.map inpD)) (.slice sb l2.length cb)) :
 Calls Tryz.prog 68 #[.slice sa l1.length ca,.slice sb l2.length cb] w (EqTo w q):=by
 have HA:=hid hA;have HB:=hid hB;have HQ:=hid hq;have H0:Hid (Below w.heap.size w w):=Below.refl _ w;have hm:l1.length≤9223372036854775807:=by
  obtain ⟨_,_,e,h1,h2⟩:=hA.len;rw[yC]at h1;exact yH (yH h1 h2) (by decide)
 have hm':l2.length≤9223372036854775807:=by
  obtain ⟨_,_,e,h1,h2⟩:=hB.len;rw[yC]at h1;exact yH (yH h1 h2) (by decide)
 by_cases hlen:l1.length=l2.length
 ·obtain ⟨n,hn⟩:∃ n,l1.length=n:=⟨_,rfl⟩;have hn':l2.length=n:=by omega
  rw[hn]at HA hm ⊢;rw[hn']at HB ⊢;have HN:=hid hn;have HN':=hid hn';clear hA hB hn hn' hm' hlen hq;go_enter func68,ntmps68
  go_wp2_with fail
  go_loopw [13] (fun i wr=>∃ m:Nat,m≤n∧i=.int .i64 m∧Hid (Below w.heap.size w wr)∧Hid (∀ (j:Nat) (x y:Inp),j<m→l1[j]?=some x→l2[j]?=some y→x=y)) (fun i _=>n-(intOf i).toNat)
  case atStart=>exact ⟨0,yS _,rfl,H0,(fun j x y hj=>by omega:∀ (j:Nat) (x y:Inp),j<0→l1[j]?=some x→l2[j]?=some y→x=y)⟩
  case round =>
   clear H0;obtain ⟨m,hmn,rfl,HBW,HE⟩:=hrel;by_cases hlt:m<n
   ·have hlt2:(m:Int)<(n:Int):=by omega
    obtain ⟨x,hx⟩:∃ x,l1[m]?=some x:=⟨_,yF (by rw[HN.out];exact hlt)⟩;obtain ⟨y,hy⟩:∃ y,l2[m]?=some y:=⟨_,yF (by rw[HN'.out];exact hlt)⟩;obtain ⟨b1,o1',rfl,hc1⟩:=HA.out.cells_at (i:=m) (r:=inpD x) (vs:=[.string ⟨(x.a).toArray⟩,.int .i64 (x.k),.int .i64 (x.n),.string ⟨(x.s).toArray⟩]) (by rw[yQ,hx];rfl) rfl;obtain ⟨b2,o2',rfl,hc2⟩:=HB.out.cells_at (i:=m) (r:=inpD y) (vs:=[.string ⟨(y.a).toArray⟩,.int .i64 (y.k),.int .i64 (y.n),.string ⟨(y.s).toArray⟩]) (by rw[yQ,hy];rfl) rfl;by_cases hxy:x=y
    ·subst hxy;obtain ⟨N0,hN0⟩:∃ N:ByteArray,(⟨(x.a).toArray⟩:ByteArray)=N:=⟨_,rfl⟩;obtain ⟨N1,hN1⟩:∃ N:Int,(x.k)=N:=⟨_,rfl⟩;obtain ⟨N2,hN2⟩:∃ N:Int,(x.n)=N:=⟨_,rfl⟩;obtain ⟨N3,hN3⟩:∃ N:ByteArray,(⟨(x.s).toArray⟩:ByteArray)=N:=⟨_,rfl⟩;have b1f0:wr.cell? ⟨b1,o1'+m*4,none⟩=some (.string N0):=by have:=hc1 wr HBW.out 0 _ rfl;rw[hN0]at this;simpa [Nat.add_assoc] using this
     have b1f1:wr.cell? ⟨b1,o1'+m*4+1,none⟩=some (.int .i64 N1):=by have:=hc1 wr HBW.out 1 _ rfl;rw[hN1]at this;simpa [Nat.add_assoc] using this
     have b1f2:wr.cell? ⟨b1,o1'+m*4+2,none⟩=some (.int .i64 N2):=by have:=hc1 wr HBW.out 2 _ rfl;rw[hN2]at this;simpa [Nat.add_assoc] using this
     have b1f3:wr.cell? ⟨b1,o1'+m*4+3,none⟩=some (.string N3):=by have:=hc1 wr HBW.out 3 _ rfl;rw[hN3]at this;simpa [Nat.add_assoc] using this
     have b2f0:wr.cell? ⟨b2,o2'+m*4,none⟩=some (.string N0):=by have:=hc2 wr HBW.out 0 _ rfl;rw[hN0]at this;simpa [Nat.add_assoc] using this
     have b2f1:wr.cell? ⟨b2,o2'+m*4+1,none⟩=some (.int .i64 N1):=by have:=hc2 wr HBW.out 1 _ rfl;rw[hN1]at this;simpa [Nat.add_assoc] using this
     have b2f2:wr.cell? ⟨b2,o2'+m*4+2,none⟩=some (.int .i64 N2):=by have:=hc2 wr HBW.out 2 _ rfl;rw[hN2]at this;simpa [Nat.add_assoc] using this
     have b2f3:wr.cell? ⟨b2,o2'+m*4+3,none⟩=some (.string N3):=by have:=hc2 wr HBW.out 3 _ rfl;rw[hN3]at this;simpa [Nat.add_assoc] using this
     have HHX:=hid hx;have HHY:=hid hy;clear hc1 hc2 hx hy hN0 hN1 hN2 hN3;go_upto_region 6 with (fail)
     go_quiet (fail)
     have H3:Hid (Below w.heap.size w (wr.drewN nq)):=Ba.Below.drewN HBW.out nq;go_wp2_with fail
     go_round
     case measure=>simp[intOf];omega
     case rel=>exact ⟨m+1,by omega,by rw[Int.natCast_add];rfl,H3,(fun j x' y' hj hx' hy'=>by
      by_cases hjk:j<m
      ·exact HE.out j x' y' hjk hx' hy'
      ·obtain rfl:j=m:=by omega
       rw[HHX.out]at hx';rw[HHY.out]at hy';exact (Option.some.inj hx').symm.trans (Option.some.inj hy'):∀ (j:Nat) (x y:Inp),j<m+1→l1[j]?=some x→l2[j]?=some y→x=y)⟩
    ·have HXY:=hid hxy;clear hxy;by_cases g0:x.a=y.a
     ·by_cases g1:x.k=y.k
      ·by_cases g2:x.n=y.n
       ·have g3:¬ x.s=y.s:=fun h9=>HXY.out (zr9 g0 g1 g2 h9)
        obtain ⟨N0,hN0⟩:∃ N:ByteArray,(⟨(x.a).toArray⟩:ByteArray)=N:=⟨_,rfl⟩;obtain ⟨N1,hN1⟩:∃ N:Int,(x.k)=N:=⟨_,rfl⟩;obtain ⟨N2,hN2⟩:∃ N:Int,(x.n)=N:=⟨_,rfl⟩;obtain ⟨N3,hN3⟩:∃ N:ByteArray,(⟨(x.s).toArray⟩:ByteArray)=N:=⟨_,rfl⟩;obtain ⟨M3,hM3⟩:∃ N:ByteArray,(⟨(y.s).toArray⟩:ByteArray)=N:=⟨_,rfl⟩;have b1f0:wr.cell? ⟨b1,o1'+m*4,none⟩=some (.string N0):=by have:=hc1 wr HBW.out 0 _ rfl;rw[hN0]at this;simpa [Nat.add_assoc] using this
        have b1f1:wr.cell? ⟨b1,o1'+m*4+1,none⟩=some (.int .i64 N1):=by have:=hc1 wr HBW.out 1 _ rfl;rw[hN1]at this;simpa [Nat.add_assoc] using this
        have b1f2:wr.cell? ⟨b1,o1'+m*4+2,none⟩=some (.int .i64 N2):=by have:=hc1 wr HBW.out 2 _ rfl;rw[hN2]at this;simpa [Nat.add_assoc] using this
        have b1f3:wr.cell? ⟨b1,o1'+m*4+3,none⟩=some (.string N3):=by have:=hc1 wr HBW.out 3 _ rfl;rw[hN3]at this;simpa [Nat.add_assoc] using this
        have b2f0:wr.cell? ⟨b2,o2'+m*4,none⟩=some (.string N0):=by have:=hc2 wr HBW.out 0 _ rfl;rw[← g0,hN0]at this;simpa [Nat.add_assoc] using this
        have b2f1:wr.cell? ⟨b2,o2'+m*4+1,none⟩=some (.int .i64 N1):=by have:=hc2 wr HBW.out 1 _ rfl;rw[← g1,hN1]at this;simpa [Nat.add_assoc] using this
        have b2f2:wr.cell? ⟨b2,o2'+m*4+2,none⟩=some (.int .i64 N2):=by have:=hc2 wr HBW.out 2 _ rfl;rw[← g2,hN2]at this;simpa [Nat.add_assoc] using this
        have b2f3:wr.cell? ⟨b2,o2'+m*4+3,none⟩=some (.string M3):=by have:=hc2 wr HBW.out 3 _ rfl;rw[hM3]at this;simpa [Nat.add_assoc] using this
        have e3:(N3.toList == M3.toList)=false:=by rw[← hN3,← hM3];exact zfP g3
        have HHX:=hid hx;have HHY:=hid hy;clear hc1 hc2 hx hy hN0 hN1 hN2 hN3 hM3 g0 g1 g2 g3;have HF:Hid (q=false):=zek HQ.out fun h=>by
         have e1:=HHX.out;have e2:=HHY.out;rw[h]at e1;exact HXY.out (Option.some.inj (e1.symm.trans e2))
        go_upto_region 6 with (fail)
        go_quiet (fail)
        have H3:Hid (Below w.heap.size w (wr.drewN nq)):=Ba.Below.drewN HBW.out nq;go_wp2_with fail
        go_ret
        rw[HF.out];exact ⟨rfl,H3.out⟩
       ·obtain ⟨N0,hN0⟩:∃ N:ByteArray,(⟨(x.a).toArray⟩:ByteArray)=N:=⟨_,rfl⟩;obtain ⟨N1,hN1⟩:∃ N:Int,(x.k)=N:=⟨_,rfl⟩;obtain ⟨N2,hN2⟩:∃ N:Int,(x.n)=N:=⟨_,rfl⟩;obtain ⟨N3,hN3⟩:∃ N:ByteArray,(⟨(x.s).toArray⟩:ByteArray)=N:=⟨_,rfl⟩;obtain ⟨M2,hM2⟩:∃ N:Int,(y.n)=N:=⟨_,rfl⟩;obtain ⟨M3,hM3⟩:∃ N:ByteArray,(⟨(y.s).toArray⟩:ByteArray)=N:=⟨_,rfl⟩;have b1f0:wr.cell? ⟨b1,o1'+m*4,none⟩=some (.string N0):=by have:=hc1 wr HBW.out 0 _ rfl;rw[hN0]at this;simpa [Nat.add_assoc] using this
        have b1f1:wr.cell? ⟨b1,o1'+m*4+1,none⟩=some (.int .i64 N1):=by have:=hc1 wr HBW.out 1 _ rfl;rw[hN1]at this;simpa [Nat.add_assoc] using this
        have b1f2:wr.cell? ⟨b1,o1'+m*4+2,none⟩=some (.int .i64 N2):=by have:=hc1 wr HBW.out 2 _ rfl;rw[hN2]at this;simpa [Nat.add_assoc] using this
        have b1f3:wr.cell? ⟨b1,o1'+m*4+3,none⟩=some (.string N3):=by have:=hc1 wr HBW.out 3 _ rfl;rw[hN3]at this;simpa [Nat.add_assoc] using this
        have b2f0:wr.cell? ⟨b2,o2'+m*4,none⟩=some (.string N0):=by have:=hc2 wr HBW.out 0 _ rfl;rw[← g0,hN0]at this;simpa [Nat.add_assoc] using this
        have b2f1:wr.cell? ⟨b2,o2'+m*4+1,none⟩=some (.int .i64 N1):=by have:=hc2 wr HBW.out 1 _ rfl;rw[← g1,hN1]at this;simpa [Nat.add_assoc] using this
        have b2f2:wr.cell? ⟨b2,o2'+m*4+2,none⟩=some (.int .i64 M2):=by have:=hc2 wr HBW.out 2 _ rfl;rw[hM2]at this;simpa [Nat.add_assoc] using this
        have b2f3:wr.cell? ⟨b2,o2'+m*4+3,none⟩=some (.string M3):=by have:=hc2 wr HBW.out 3 _ rfl;rw[hM3]at this;simpa [Nat.add_assoc] using this
        have e2:(N2 == M2)=false:=by rw[← hN2,← hM2];simpa using g2
        have HHX:=hid hx;have HHY:=hid hy;clear hc1 hc2 hx hy hN0 hN1 hN2 hN3 hM2 hM3 g0 g1 g2;have HF:Hid (q=false):=zek HQ.out fun h=>by
         have e1:=HHX.out;have e2:=HHY.out;rw[h]at e1;exact HXY.out (Option.some.inj (e1.symm.trans e2))
        go_upto_region 6 with (fail)
        go_quiet (fail)
        have H3:Hid (Below w.heap.size w (wr.drewN nq)):=Ba.Below.drewN HBW.out nq;go_wp2_with fail
        go_ret
        rw[HF.out];exact ⟨rfl,H3.out⟩
      ·obtain ⟨N0,hN0⟩:∃ N:ByteArray,(⟨(x.a).toArray⟩:ByteArray)=N:=⟨_,rfl⟩;obtain ⟨N1,hN1⟩:∃ N:Int,(x.k)=N:=⟨_,rfl⟩;obtain ⟨N2,hN2⟩:∃ N:Int,(x.n)=N:=⟨_,rfl⟩;obtain ⟨N3,hN3⟩:∃ N:ByteArray,(⟨(x.s).toArray⟩:ByteArray)=N:=⟨_,rfl⟩;obtain ⟨M1,hM1⟩:∃ N:Int,(y.k)=N:=⟨_,rfl⟩;obtain ⟨M2,hM2⟩:∃ N:Int,(y.n)=N:=⟨_,rfl⟩;obtain ⟨M3,hM3⟩:∃ N:ByteArray,(⟨(y.s).toArray⟩:ByteArray)=N:=⟨_,rfl⟩;have b1f0:wr.cell? ⟨b1,o1'+m*4,none⟩=some (.string N0):=by have:=hc1 wr HBW.out 0 _ rfl;rw[hN0]at this;simpa [Nat.add_assoc] using this
       have b1f1:wr.cell? ⟨b1,o1'+m*4+1,none⟩=some (.int .i64 N1):=by have:=hc1 wr HBW.out 1 _ rfl;rw[hN1]at this;simpa [Nat.add_assoc] using this
       have b1f2:wr.cell? ⟨b1,o1'+m*4+2,none⟩=some (.int .i64 N2):=by have:=hc1 wr HBW.out 2 _ rfl;rw[hN2]at this;simpa [Nat.add_assoc] using this
       have b1f3:wr.cell? ⟨b1,o1'+m*4+3,none⟩=some (.string N3):=by have:=hc1 wr HBW.out 3 _ rfl;rw[hN3]at this;simpa [Nat.add_assoc] using this
       have b2f0:wr.cell? ⟨b2,o2'+m*4,none⟩=some (.string N0):=by have:=hc2 wr HBW.out 0 _ rfl;rw[← g0,hN0]at this;simpa [Nat.add_assoc] using this
       have b2f1:wr.cell? ⟨b2,o2'+m*4+1,none⟩=some (.int .i64 M1):=by have:=hc2 wr HBW.out 1 _ rfl;rw[hM1]at this;simpa [Nat.add_assoc] using this
       have b2f2:wr.cell? ⟨b2,o2'+m*4+2,none⟩=some (.int .i64 M2):=by have:=hc2 wr HBW.out 2 _ rfl;rw[hM2]at this;simpa [Nat.add_assoc] using this
       have b2f3:wr.cell? ⟨b2,o2'+m*4+3,none⟩=some (.string M3):=by have:=hc2 wr HBW.out 3 _ rfl;rw[hM3]at this;simpa [Nat.add_assoc] using this
       have e1:(N1 == M1)=false:=by rw[← hN1,← hM1];simpa using g1
       have HHX:=hid hx;have HHY:=hid hy;clear hc1 hc2 hx hy hN0 hN1 hN2 hN3 hM1 hM2 hM3 g0 g1;have HF:Hid (q=false):=zek HQ.out fun h=>by
        have e1:=HHX.out;have e2:=HHY.out;rw[h]at e1;exact HXY.out (Option.some.inj (e1.symm.trans e2))
       go_upto_region 6 with (fail)
       go_quiet (fail)
       have H3:Hid (Below w.heap.size w (wr.drewN nq)):=Ba.Below.drewN HBW.out nq;go_wp2_with fail
       go_ret
       rw[HF.out];exact ⟨rfl,H3.out⟩
     ·obtain ⟨N0,hN0⟩:∃ N:ByteArray,(⟨(x.a).toArray⟩:ByteArray)=N:=⟨_,rfl⟩;obtain ⟨N1,hN1⟩:∃ N:Int,(x.k)=N:=⟨_,rfl⟩;obtain ⟨N2,hN2⟩:∃ N:Int,(x.n)=N:=⟨_,rfl⟩;obtain ⟨N3,hN3⟩:∃ N:ByteArray,(⟨(x.s).toArray⟩:ByteArray)=N:=⟨_,rfl⟩;obtain ⟨M0,hM0⟩:∃ N:ByteArray,(⟨(y.a).toArray⟩:ByteArray)=N:=⟨_,rfl⟩;obtain ⟨M1,hM1⟩:∃ N:Int,(y.k)=N:=⟨_,rfl⟩;obtain ⟨M2,hM2⟩:∃ N:Int,(y.n)=N:=⟨_,rfl⟩;obtain ⟨M3,hM3⟩:∃ N:ByteArray,(⟨(y.s).toArray⟩:ByteArray)=N:=⟨_,rfl⟩;have b1f0:wr.cell? ⟨b1,o1'+m*4,none⟩=some (.string N0):=by have:=hc1 wr HBW.out 0 _ rfl;rw[hN0]at this;simpa [Nat.add_assoc] using this
      have b1f1:wr.cell? ⟨b1,o1'+m*4+1,none⟩=some (.int .i64 N1):=by have:=hc1 wr HBW.out 1 _ rfl;rw[hN1]at this;simpa [Nat.add_assoc] using this
      have b1f2:wr.cell? ⟨b1,o1'+m*4+2,none⟩=some (.int .i64 N2):=by have:=hc1 wr HBW.out 2 _ rfl;rw[hN2]at this;simpa [Nat.add_assoc] using this
      have b1f3:wr.cell? ⟨b1,o1'+m*4+3,none⟩=some (.string N3):=by have:=hc1 wr HBW.out 3 _ rfl;rw[hN3]at this;simpa [Nat.add_assoc] using this
      have b2f0:wr.cell? ⟨b2,o2'+m*4,none⟩=some (.string M0):=by have:=hc2 wr HBW.out 0 _ rfl;rw[hM0]at this;simpa [Nat.add_assoc] using this
      have b2f1:wr.cell? ⟨b2,o2'+m*4+1,none⟩=some (.int .i64 M1):=by have:=hc2 wr HBW.out 1 _ rfl;rw[hM1]at this;simpa [Nat.add_assoc] using this
      have b2f2:wr.cell? ⟨b2,o2'+m*4+2,none⟩=some (.int .i64 M2):=by have:=hc2 wr HBW.out 2 _ rfl;rw[hM2]at this;simpa [Nat.add_assoc] using this
      have b2f3:wr.cell? ⟨b2,o2'+m*4+3,none⟩=some (.string M3):=by have:=hc2 wr HBW.out 3 _ rfl;rw[hM3]at this;simpa [Nat.add_assoc] using this
      have e0:(N0.toList == M0.toList)=false:=by rw[← hN0,← hM0];exact zfP g0
      have HHX:=hid hx;have HHY:=hid hy;clear hc1 hc2 hx hy hN0 hN1 hN2 hN3 hM0 hM1 hM2 hM3 g0;have HF:Hid (q=false):=zek HQ.out fun h=>by
       have e1:=HHX.out;have e2:=HHY.out;rw[h]at e1;exact HXY.out (Option.some.inj (e1.symm.trans e2))
      go_upto_region 6 with (fail)
      go_quiet (fail)
      have H3:Hid (Below w.heap.size w (wr.drewN nq)):=Ba.Below.drewN HBW.out nq;go_wp2_with fail
      go_ret
      rw[HF.out];exact ⟨rfl,H3.out⟩
   ·have hlt2:¬ ((m:Int)<(n:Int)):=by omega
    have HF:Hid (q=true):=HQ.out.2 (zhP (by rw[HN.out,HN'.out]) fun j x y hx hy=>HE.out j x y (by have:=(yE.1 hx).1;rw[HN.out]at this;omega) hx hy);go_wp2_with fail
    go_ret
    rw[HF.out];exact ⟨rfl,HBW.out⟩
 ·have HF:Hid (q=false):=zek hq fun h=>hlen (by rw[h])
  obtain ⟨n,hn⟩:∃ n,l1.length=n:=⟨_,rfl⟩;obtain ⟨n',hn'⟩:∃ n,l2.length=n:=⟨_,rfl⟩;rw[hn]at hlen hm ⊢;rw[hn']at hlen hm' ⊢;have hne:((n:Int) == (n':Int))=false:=by simp;omega
  have hne2:((n:Int) != (n':Int))=true:=by simp;omega
  have hne3:¬ (n:Int)=(n':Int):=by omega
  clear hA hB hn hn' hq HA HB HQ hlen;go_enter func68,ntmps68
  go_wp2_with fail
  go_ret
  rw[HF.out];exact ⟨rfl,H0.out⟩
theorem ztA (l1 l2:List (Str×Int)) (q:Bool) (hq:q=true↔l1=l2) (sa sb:Option Addr) (ca cb:Nat) (w:World) (o1 o2:Nat→Prop) (hA:Rep w o1 (.sl 2 (l1.map colD)) (.slice sa l1.length ca)) (hB:Rep w o2 (.sl 2 (l2.map colD)) (.slice sb l2.length cb)) :
 Calls Tryz.prog 95 #[.slice sa l1.length ca,.slice sb l2.length cb] w (EqTo w q):=by
 have HA:=hid hA;have HB:=hid hB;have HQ:=hid hq;have H0:Hid (Below w.heap.size w w):=Below.refl _ w;have hm:l1.length≤9223372036854775807:=by
  obtain ⟨_,_,e,h1,h2⟩:=hA.len;rw[yC]at h1;exact yH (yH h1 h2) (by decide)
 have hm':l2.length≤9223372036854775807:=by
  obtain ⟨_,_,e,h1,h2⟩:=hB.len;rw[yC]at h1;exact yH (yH h1 h2) (by decide)
 by_cases hlen:l1.length=l2.length
 ·obtain ⟨n,hn⟩:∃ n,l1.length=n:=⟨_,rfl⟩;have hn':l2.length=n:=by omega
  rw[hn]at HA hm ⊢;rw[hn']at HB ⊢;have HN:=hid hn;have HN':=hid hn';clear hA hB hn hn' hm' hlen hq;go_enter func95,ntmps95
  go_wp2_with fail
  go_loopw [13] (fun i wr=>∃ m:Nat,m≤n∧i=.int .i64 m∧Hid (Below w.heap.size w wr)∧Hid (∀ (j:Nat) (x y:(Str×Int)),j<m→l1[j]?=some x→l2[j]?=some y→x=y)) (fun i _=>n-(intOf i).toNat)
  case atStart=>exact ⟨0,yS _,rfl,H0,(fun j x y hj=>by omega:∀ (j:Nat) (x y:(Str×Int)),j<0→l1[j]?=some x→l2[j]?=some y→x=y)⟩
  case round =>
   clear H0;obtain ⟨m,hmn,rfl,HBW,HE⟩:=hrel;by_cases hlt:m<n
   ·have hlt2:(m:Int)<(n:Int):=by omega
    obtain ⟨x,hx⟩:∃ x,l1[m]?=some x:=⟨_,yF (by rw[HN.out];exact hlt)⟩;obtain ⟨y,hy⟩:∃ y,l2[m]?=some y:=⟨_,yF (by rw[HN'.out];exact hlt)⟩;obtain ⟨b1,o1',rfl,hc1⟩:=HA.out.cells_at (i:=m) (r:=colD x) (vs:=[.string ⟨(x.1).toArray⟩,.int .i64 (x.2)]) (by rw[yQ,hx];rfl) rfl;obtain ⟨b2,o2',rfl,hc2⟩:=HB.out.cells_at (i:=m) (r:=colD y) (vs:=[.string ⟨(y.1).toArray⟩,.int .i64 (y.2)]) (by rw[yQ,hy];rfl) rfl;by_cases hxy:x=y
    ·subst hxy;obtain ⟨N0,hN0⟩:∃ N:ByteArray,(⟨(x.1).toArray⟩:ByteArray)=N:=⟨_,rfl⟩;obtain ⟨N1,hN1⟩:∃ N:Int,(x.2)=N:=⟨_,rfl⟩;have b1f0:wr.cell? ⟨b1,o1'+m*2,none⟩=some (.string N0):=by have:=hc1 wr HBW.out 0 _ rfl;rw[hN0]at this;simpa [Nat.add_assoc] using this
     have b1f1:wr.cell? ⟨b1,o1'+m*2+1,none⟩=some (.int .i64 N1):=by have:=hc1 wr HBW.out 1 _ rfl;rw[hN1]at this;simpa [Nat.add_assoc] using this
     have b2f0:wr.cell? ⟨b2,o2'+m*2,none⟩=some (.string N0):=by have:=hc2 wr HBW.out 0 _ rfl;rw[hN0]at this;simpa [Nat.add_assoc] using this
     have b2f1:wr.cell? ⟨b2,o2'+m*2+1,none⟩=some (.int .i64 N1):=by have:=hc2 wr HBW.out 1 _ rfl;rw[hN1]at this;simpa [Nat.add_assoc] using this
     have HHX:=hid hx;have HHY:=hid hy;clear hc1 hc2 hx hy hN0 hN1;go_upto_region 6 with (fail)
     go_quiet (fail)
     have H3:Hid (Below w.heap.size w (wr.drewN nq)):=Ba.Below.drewN HBW.out nq;go_wp2_with fail
     go_round
     case measure=>simp[intOf];omega
     case rel=>exact ⟨m+1,by omega,by rw[Int.natCast_add];rfl,H3,(fun j x' y' hj hx' hy'=>by
      by_cases hjk:j<m
      ·exact HE.out j x' y' hjk hx' hy'
      ·obtain rfl:j=m:=by omega
       rw[HHX.out]at hx';rw[HHY.out]at hy';exact (Option.some.inj hx').symm.trans (Option.some.inj hy'):∀ (j:Nat) (x y:(Str×Int)),j<m+1→l1[j]?=some x→l2[j]?=some y→x=y)⟩
    ·have HXY:=hid hxy;clear hxy;by_cases g0:x.1=y.1
     ·have g1:¬ x.2=y.2:=fun h9=>HXY.out (Prod.ext_iff.2 ⟨g0,h9⟩)
      obtain ⟨N0,hN0⟩:∃ N:ByteArray,(⟨(x.1).toArray⟩:ByteArray)=N:=⟨_,rfl⟩;obtain ⟨N1,hN1⟩:∃ N:Int,(x.2)=N:=⟨_,rfl⟩;obtain ⟨M1,hM1⟩:∃ N:Int,(y.2)=N:=⟨_,rfl⟩;have b1f0:wr.cell? ⟨b1,o1'+m*2,none⟩=some (.string N0):=by have:=hc1 wr HBW.out 0 _ rfl;rw[hN0]at this;simpa [Nat.add_assoc] using this
      have b1f1:wr.cell? ⟨b1,o1'+m*2+1,none⟩=some (.int .i64 N1):=by have:=hc1 wr HBW.out 1 _ rfl;rw[hN1]at this;simpa [Nat.add_assoc] using this
      have b2f0:wr.cell? ⟨b2,o2'+m*2,none⟩=some (.string N0):=by have:=hc2 wr HBW.out 0 _ rfl;rw[← g0,hN0]at this;simpa [Nat.add_assoc] using this
      have b2f1:wr.cell? ⟨b2,o2'+m*2+1,none⟩=some (.int .i64 M1):=by have:=hc2 wr HBW.out 1 _ rfl;rw[hM1]at this;simpa [Nat.add_assoc] using this
      have e1:(N1 == M1)=false:=by rw[← hN1,← hM1];simpa using g1
      have HHX:=hid hx;have HHY:=hid hy;clear hc1 hc2 hx hy hN0 hN1 hM1 g0 g1;have HF:Hid (q=false):=zek HQ.out fun h=>by
       have e1:=HHX.out;have e2:=HHY.out;rw[h]at e1;exact HXY.out (Option.some.inj (e1.symm.trans e2))
      go_upto_region 6 with (fail)
      go_quiet (fail)
      have H3:Hid (Below w.heap.size w (wr.drewN nq)):=Ba.Below.drewN HBW.out nq;go_wp2_with fail
      go_ret
      rw[HF.out];exact ⟨rfl,H3.out⟩
     ·obtain ⟨N0,hN0⟩:∃ N:ByteArray,(⟨(x.1).toArray⟩:ByteArray)=N:=⟨_,rfl⟩;obtain ⟨N1,hN1⟩:∃ N:Int,(x.2)=N:=⟨_,rfl⟩;obtain ⟨M0,hM0⟩:∃ N:ByteArray,(⟨(y.1).toArray⟩:ByteArray)=N:=⟨_,rfl⟩;obtain ⟨M1,hM1⟩:∃ N:Int,(y.2)=N:=⟨_,rfl⟩;have b1f0:wr.cell? ⟨b1,o1'+m*2,none⟩=some (.string N0):=by have:=hc1 wr HBW.out 0 _ rfl;rw[hN0]at this;simpa [Nat.add_assoc] using this
      have b1f1:wr.cell? ⟨b1,o1'+m*2+1,none⟩=some (.int .i64 N1):=by have:=hc1 wr HBW.out 1 _ rfl;rw[hN1]at this;simpa [Nat.add_assoc] using this
      have b2f0:wr.cell? ⟨b2,o2'+m*2,none⟩=some (.string M0):=by have:=hc2 wr HBW.out 0 _ rfl;rw[hM0]at this;simpa [Nat.add_assoc] using this
      have b2f1:wr.cell? ⟨b2,o2'+m*2+1,none⟩=some (.int .i64 M1):=by have:=hc2 wr HBW.out 1 _ rfl;rw[hM1]at this;simpa [Nat.add_assoc] using this
      have e0:(N0.toList == M0.toList)=false:=by rw[← hN0,← hM0];exact zfP g0
      have HHX:=hid hx;have HHY:=hid hy;clear hc1 hc2 hx hy hN0 hN1 hM0 hM1 g0;have HF:Hid (q=false):=zek HQ.out fun h=>by
       have e1:=HHX.out;have e2:=HHY.out;rw[h]at e1;exact HXY.out (Option.some.inj (e1.symm.trans e2))
      go_upto_region 6 with (fail)
      go_quiet (fail)
      have H3:Hid (Below w.heap.size w (wr.drewN nq)):=Ba.Below.drewN HBW.out nq;go_wp2_with fail
      go_ret
      rw[HF.out];exact ⟨rfl,H3.out⟩
   ·have hlt2:¬ ((m:Int)<(n:Int)):=by omega
    have HF:Hid (q=true):=HQ.out.2 (zhP (by rw[HN.out,HN'.out]) fun j x y hx hy=>HE.out j x y (by have:=(yE.1 hx).1;rw[HN.out]at this;omega) hx hy);go_wp2_with fail
    go_ret
    rw[HF.out];exact ⟨rfl,HBW.out⟩
 ·have HF:Hid (q=false):=zek hq fun h=>hlen (by rw[h])
  obtain ⟨n,hn⟩:∃ n,l1.length=n:=⟨_,rfl⟩;obtain ⟨n',hn'⟩:∃ n,l2.length=n:=⟨_,rfl⟩;rw[hn]at hlen hm ⊢;rw[hn']at hlen hm' ⊢;have hne:((n:Int) == (n':Int))=false:=by simp;omega
  have hne2:((n:Int) != (n':Int))=true:=by simp;omega
  have hne3:¬ (n:Int)=(n':Int):=by omega
  clear hA hB hn hn' hq HA HB HQ hlen;go_enter func95,ntmps95
  go_wp2_with fail
  go_ret
  rw[HF.out];exact ⟨rfl,H0.out⟩
