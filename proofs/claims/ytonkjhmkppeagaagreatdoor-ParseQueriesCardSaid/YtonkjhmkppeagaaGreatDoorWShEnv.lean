/- From the listed variables to what the walks of readers and texts lean on. -/
import Derived.Test.YtonkjhmkppeagaaGreatDoorWErrsEnv
import Derived.Test.YtonkjhmkppeagaaGreatDoorWTxA
import Derived.StringKeys
import Derived.WideKeyMaps2
set_option linter.unusedVariables false
set_option linter.unusedSimpArgs false
namespace Go.Proofs.YtonkjhmkppeagaaGreatDoor.Pz
open Go.Proofs.Tryz
open Go.ChangeShapes Go.WideShapes Go.WideMaps Go.MapKept Go.RowKit Go Ba Lx
def zjs (zs:List ByteArray):DataW Unit:=.agg (zs.map fun z=>.lit (.string z.data.toList))
theorem zjr {P:Program} {w:World} {base:Nat} {sp:Nat→Bool} {held:Bool} {enc:TypeId×Value→Unit} {fuel:Nat} {t e:TypeId} {n:Nat} {cs:List Value} {zs:List ByteArray} {p:List MemPlace}
 (ht:P.underlying t=some (.array n e)) (he:P.underlying e=some .string) (hce:P.cellsOf e=1) (hct:P.cellsOf t=n)
 (h:DataW.trod enc P w base sp held fuel t cs=some (zjs zs,p)):∀ i,i<zs.length→cs[i]?=some (.string (zs.getD i ByteArray.empty)):=by
 obtain ⟨xs,m,rfl,hx,hl,hn,hi⟩:=DataW.trod_array ht h;have hxs:xs.map (·.1)=zs.map fun z=>(DataW.lit (.string z.data.toList):DataW Unit):=by
  have:=congrArg Prod.fst hx;simpa [zjs] using this.symm
 have hzl:zs.length=xs.length:=by
  have:=congrArg List.length hxs;simpa using this.symm
 intro i hiz;have h1:=hi i (by omega);rw[hce,Nat.mul_one]at h1;have hget:xs[i]?=some xs[i]:=yF (by omega);rw[hget]at h1;obtain ⟨s,hc,hd,_⟩:=DataW.trod_string he h1;have h2:cs[i]?=some (.string s):=by
  have:=congrArg (·[0]?) hc;simpa [List.getElem?_take,List.getElem?_drop] using this
 have h3:(xs.map (·.1))[i]?=some xs[i].1:=by simp[hget]
 rw[hxs]at h3;simp only[yQ,yF hiz,Option.map_some,Option.some.injEq]at h3;rw[hd]at h3;simp only[DataW.lit.injEq,Lit.string.injEq]at h3;have h4:zs[i]=s:=Go.WideShapes.bytes_inj h3;rw[h2,List.getD_eq_getElem?_getD,yF hiz,h4];rfl
theorem zim {P:Program} {W:World} {name:String} {zs:List ByteArray} {rest:List (String×DataW Unit)} {g:Nat} {t e:TypeId} {n:Nat}
 (hg:P.globalNamed name=some g) (hty:(P.globals[g]?).map (·.type)=some t) (ht:P.underlying t=some (.array n e)) (he:P.underlying e=some .string) (hce:P.cellsOf e=1) (hct:P.cellsOf t=n)
 (h:laidMet P ((name,zjs zs)::rest) W):∀ i,i<zs.length→W.cell? ⟨g,i,none⟩=some (.string (zs.getD i ByteArray.empty)):=by
 obtain ⟨ps,⟨g',t',cs,fuel,p,q,hg',ht',hvar,hd,_,_⟩,_⟩:=h;obtain rfl:=Option.some.inj (hg.symm.trans hg');obtain rfl:=Option.some.inj (hty.symm.trans ht');intro i hi;have h1:=World.var?_cell hg hvar i;have h2:=zjr ht he hce hct hd i hi;rw[h1,← Array.getElem?_toList];exact h2
def sgBs:List ByteArray:=sgL.map fun x=>⟨x.toArray⟩
theorem EnvL.of14 {W:World} {rest:List (String×DataW Unit)} (h:laidMet Tryz.prog (("math/bits.deBruijn32tab",Rows.laid_math_bits_deBruijn32tab)::("math/bits.deBruijn64tab",Rows.laid_math_bits_deBruijn64tab)::("internal/strconv.uint64pow10",Rows.laid_internal_strconv_uint64pow10)::("strconv.ErrRange",Rows.laid_strconv_ErrRange)::("strconv.ErrSyntax",Rows.laid_strconv_ErrSyntax)::("bywash/lex.signs",Rows.laid_bywash_lex_signs)::rest) W):EnvL W:=by
 refine ⟨?_,Errs.of h.tail.tail.tail,fun j hj=>?_⟩
 ·exact Lib.tabIs_of_head (t:=203) (e:=193) (n:=20) (k:=.u64) (zs:=Lib.pow10Tab) (g:=2) (by kernel_rfl) (by kernel_rfl) underlying203 underlying193 (by kernel_rfl) (by kernel_rfl) h.tail.tail
 ·have:=zim (zs:=sgBs) (t:=189) (e:=9) (n:=18) (g:=1) (rest:=rest) (by kernel_rfl) (by kernel_rfl) underlying189 underlying9 (by kernel_rfl) (by kernel_rfl) h.tail.tail.tail.tail.tail j hj;rw[this];match j,hj with
  | 0,_=>rfl
  | 1,_=>rfl
  | 2,_=>rfl
  | 3,_=>rfl
  | 4,_=>rfl
  | 5,_=>rfl
  | 6,_=>rfl
  | 7,_=>rfl
  | 8,_=>rfl
  | 9,_=>rfl
  | 10,_=>rfl
  | 11,_=>rfl
  | 12,_=>rfl
  | 13,_=>rfl
  | 14,_=>rfl
  | 15,_=>rfl
  | 16,_=>rfl
  | 17,_=>rfl
  | n+18,h=>exact absurd h (by omega)
theorem EnvL.of {W:World} (h:laidMetH Tryz.prog Rows.parseQueriesRow.laid W):EnvL W:=by
 rw[MakeChecks.laidMetH_plain _ _ _ (by kernel_rfl)]at h;exact EnvL.of14 h
