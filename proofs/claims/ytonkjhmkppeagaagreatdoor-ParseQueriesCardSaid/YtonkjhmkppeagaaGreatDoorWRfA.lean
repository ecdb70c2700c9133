/- Walks: a number in digits; the text of a value, in the document's word. Walks: an expression as the document has it. -/
import Derived.Test.YtonkjhmkppeagaaGreatDoorWEx
set_option linter.unusedVariables false
set_option linter.unusedSimpArgs false
namespace Go.Proofs.YtonkjhmkppeagaaGreatDoor.Va
open Go.Proofs.Tryz
open Go.Lib (hid)
open Go.RowKit Go Ba
theorem zfR {P:Program} (w:World) (src dst e:TypeId) (hs:P.underlying src=some (.slice e)) (he:P.underlying e=some (.int .u8)) (hd:P.underlying dst=some .string) (c:Int) (h0:0≤c) (h1:c≤255) :
 (convert src dst (.slice (some ⟨w.heap.size,0,none⟩) 1 1)).run P (w.alloc (.cells #[.int .u8 c] e))=.ok (.string ⟨#[UInt8.ofNat c.toNat]⟩) (w.alloc (.cells #[.int .u8 c] e)):=by
 have hc:c=((UInt8.ofNat c.toNat).toNat:Int):=by rw[UInt8.toNat_ofNat'];omega
 have hcur:(#[Value.int .u8 c]:Array Value).toList=zb2 [UInt8.ofNat c.toNat]:=by
  rw[zma];exact congrArg (fun x=>[Value.int .u8 x]) hc
 have hown:=zna (w:=w) (base:=w.heap.size) (e:=e) [UInt8.ofNat c.toNat] #[.int .u8 c] hcur (yG _) (by unfold maxLen;simp only[yB,List.length_nil];omega);exact zcw src dst e hs he hd hown rfl
theorem zov (n:Int) (h0:0≤n) (h1:n≤9223372036854775807):(Lib.decDigits n.toNat).length≤20:=by
 rw[Lib.decDigits_length];exact Lib.nDigits_le20 _ (by omega)
theorem zgS (d:Nat):∀ (n:Int) (w:World),0≤n→n<10 ^ d→n≤9223372036854775807→
 Calls Tryz.prog 28 #[.int .i64 n] w fun e w'=>e=.returned (.string ⟨(Lib.decDigits n.toNat).toArray⟩)∧Below w.heap.size w w':=by
 induction d with
 | zero =>
  intro n w h0 h1 h2;obtain rfl:n=0:=by omega
  have HD:Hid (Lib.decDigits (0:Int).toNat=[48]):=by show Lib.decDigits 0=[48];decide +kernel
  have hst:=fun w=>zfR (P:=Tryz.prog) w 122 9 5 underlying122 underlying5 underlying9 48 (by omega) (by omega)
  go_enter func28,ntmps28
  go_wp2_with fail
  go_ret
  exact ⟨by rw[HD.out];rfl,by go_grown⟩
 | succ d ih =>
  intro n w h0 h1 h2;have hst:=fun w=>zfR (P:=Tryz.prog) w 122 9 5 underlying122 underlying5 underlying9 (48+n % 10) (by omega) (by omega)
  by_cases h10:n<10
  ·have HD:Hid (Lib.decDigits n.toNat=[UInt8.ofNat (48+n % 10).toNat]):=by
    show Lib.decDigits n.toNat=_
    rw[Lib.decDigits_one (by omega)];congr 2
    omega
   clear h1;go_enter func28,ntmps28
   go_wp2_with fail
   go_ret
   exact ⟨by rw[HD.out];rfl,by go_grown⟩
  ·have hq:n / 10<10 ^ d:=by rw[Int.pow_succ]at h1;omega
   have hl:=zov (n / 10) (by omega) (by omega);have HD:Hid (Lib.decDigits n.toNat=Lib.decDigits (n / 10).toNat++[UInt8.ofNat (48+n % 10).toNat]):=by
    show Lib.decDigits n.toNat=_
    rw[Lib.decDigits,dif_neg (by omega)];congr 2
    ·omega
    ·congr 2;omega
   have HI:=hid (fun w=>ih (n / 10) w (by omega) hq (by omega));obtain ⟨X,hX⟩:∃ X:ByteArray,X=⟨(Lib.decDigits (n / 10).toNat).toArray⟩:=⟨_,rfl⟩;have hXs:X.size≤20:=by rw[hX,zcQ];exact hl
   rw[← hX]at HI;have HX:=hid hX;clear hX hl h1 hq ih;go_enter func28,ntmps28
   go_wp2_with fail
   refine (HI.out _).mono ?_;rintro e w1 ⟨rfl,hb⟩;have b1:=two (w:=w) (by go_grown) hb;clear hb;go_wp2_with fail
   go_ret
   refine ⟨zcd ?_,b1⟩;rw[HD.out,HX.out];exact zhy _ _
theorem zsK {n m:Int} (h:n=-m) (h0:0≤m):n.tmod 10=-(m % 10):=by
 subst h;rw[Int.neg_tmod,Int.tmod_eq_emod_of_nonneg h0]
theorem zsN {n m:Int} (h:n=-m) (h0:0≤m):n.tdiv 10=-(m / 10):=by
 subst h;rw[Int.neg_tdiv,Int.tdiv_eq_ediv_of_nonneg h0]
theorem number_any (n:Int) (w:World) (n0:-9223372036854775808≤n) (n1:n≤9223372036854775807) :
 Calls Tryz.prog 28 #[.int .i64 n] w fun e w'=>e=.returned (.string ⟨(Lib.itoa n).toArray⟩)∧Below w.heap.size w w':=by
 by_cases h0:0≤n
 ·have e:Lib.itoa n=Lib.decDigits n.toNat:=by unfold Lib.itoa;rw[if_neg (by omega)]
  rw[e];exact zgS 19 n w h0 (by omega) n1
 ·obtain ⟨m,hm⟩:∃ m:Int,n=-m:=⟨-n,by omega⟩;have hm1:1≤m:=by omega
  have hm2:m≤9223372036854775808:=by omega
  have e:Lib.itoa n=45::Lib.decDigits m.toNat:=by
   unfold Lib.itoa;rw[if_pos (by omega)];congr 2;omega
  have ht:=zsK hm (by omega);have hd:=zsN hm (by omega);have hst:=fun w=>zfR (P:=Tryz.prog) w 122 9 5 underlying122 underlying5 underlying9 (48+m % 10) (by omega) (by omega)
  have hs:=fun w=>zfR (P:=Tryz.prog) w 122 9 5 underlying122 underlying5 underlying9 (48-n.tmod 10) (by rw[ht];omega) (by rw[ht];omega)
  have he:48-n.tmod 10=48+m % 10:=by rw[ht];omega
  have hlo:0≤48-n.tmod 10:=by rw[ht];omega
  have hhi:48-n.tmod 10≤255:=by rw[ht];omega
  by_cases h10:n≤-10
  ·have HI:=hid (fun w=>zgS 19 (m / 10) w (by omega) (by omega) (by omega));have HD:Hid (Lib.decDigits m.toNat=Lib.decDigits (m / 10).toNat++[UInt8.ofNat (48-n.tmod 10).toNat]):=by
    show Lib.decDigits m.toNat=_
    rw[he,Lib.decDigits,dif_neg (by omega)];congr 2
    ·omega
    ·congr 2;omega
   have hl:=zov (m / 10) (by omega) (by omega);obtain ⟨X,hX⟩:∃ X:ByteArray,X=⟨(Lib.decDigits (m / 10).toNat).toArray⟩:=⟨_,rfl⟩;have hXs:X.size≤20:=by rw[hX,zcQ];exact hl
   rw[← hX]at HI;have HX:=hid hX;have hneg:-(n.tdiv 10)=m / 10:=by rw[hd];omega
   have hr0:0≤-(n.tdiv 10):=by rw[hneg];omega
   have hr1:-(n.tdiv 10)≤9223372036854775807:=by rw[hneg];omega
   rw[← hneg]at HI;have HE:=hid e;clear hX hl e ht hd he hst hneg hm;go_enter func28,ntmps28
   go_wp2_with fail
   refine (HI.out _).mono ?_;rintro e w1 ⟨rfl,hb⟩;have b1:=two (w:=w) (by go_grown) hb;clear hb;go_wp2_with fail
   go_ret
   refine ⟨zcd ?_,b1⟩;rw[HE.out,HD.out,HX.out];exact (congrArg (fun x=>(⟨#[45]⟩:ByteArray)++x) (zhy _ _)).trans (zhy _ _)
  ·have HD:Hid (Lib.decDigits m.toNat=[UInt8.ofNat (48-n.tmod 10).toNat]):=by
    show Lib.decDigits m.toNat=_
    rw[he,Lib.decDigits_one (by omega)];congr 2
    omega
   have HE:=hid e;clear e ht hd he hst hm;go_enter func28,ntmps28
   go_wp2_with fail
   go_ret
   refine ⟨zcd ?_,by go_grown⟩;rw[HE.out,HD.out];exact zhy _ _
end Go.Proofs.YtonkjhmkppeagaaGreatDoor.Va
namespace Go.Proofs.YtonkjhmkppeagaaGreatDoor.Pz
open Go.Proofs.Tryz
open Go.Lib (hid)
open Go.RowKit Go Go.Sort Ba Lx
mutual
def rfD:Ex→List Dat
 | .mk k nm v op xs=>[dI k,dS nm,dS op,dI v.k,dI v.n,dS v.t,.sl 7 (rfDs xs)]
def rfDs:List Ex→List (List Dat)
 | []=>[]
 | x::r=>rfD x::rfDs r
end
abbrev RArgs (W:World) (ok:Nat→Prop) (sl:Value) (xs:List Ex):Prop:=Rep W ok (.sl 7 (rfDs xs)) sl
inductive Sm:Ex→Prop
 | mk (x:Ex) (h:x.xs.length≤600000) (hx:∀ a∈x.xs,Sm a):Sm x
