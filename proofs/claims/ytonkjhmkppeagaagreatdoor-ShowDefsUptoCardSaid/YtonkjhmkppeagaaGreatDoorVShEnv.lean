/- From the listed variables to what the walks of readers and texts lean on. -/
import Derived.Test.YtonkjhmkppeagaaGreatDoorVErrsEnv
import Derived.Test.YtonkjhmkppeagaaGreatDoorVTxA
import Derived.StringKeys
import Derived.WideKeyMaps2
set_option linter.unusedVariables false
set_option linter.unusedSimpArgs false
namespace Go.Proofs.YtonkjhmkppeagaaGreatDoor.Pz
open Go.Proofs.Tryz
open Go.ChangeShapes Go.WideShapes Go.WideMaps Go.MapKept Go.RowKit Go Ba Lx
def zjs (zs:List ByteArray):DataW Unit:=.agg (zs.map fun z=>.lit (.string z.data.toList))
theorem zjr {P:Program} {w:World} {base:Nat} {sp:Nat→Bool} {held:Bool} {enc:TypeId×Value→Unit} {fuel:Nat} {t e:TypeId} {n:Nat} {cs:List Value} {zs:List ByteArray} {p:List MemPlace}
 (ht:P.underlying t=some (.array n e)) (he:P.underlying e=some .string) (hce:P.cellsOf e=1) (hct:P.cellsOf t=n)
 (h:DataW.trod enc P w base sp held fuel t cs=some (zjs zs,p)):∀ i,i<zs.length→cs[i]?=some (.string (zs.getD i ByteArray.empty)):=by
 obtain ⟨xs,m,rfl,hx,hl,hn,hi⟩:=DataW.trod_array ht h;have hxs:xs.map (·.1)=zs.map fun z=>(DataW.lit (.string z.data.toList):DataW Unit):=by
  have:=congrArg Prod.fst hx;simpa [zjs] using this.symm
 have hzl:zs.length=xs.length:=by
  have:=congrArg List.length hxs;simpa using this.symm
 intro i hiz;have h1:=hi i (by omega);rw[hce,Nat.mul_one]at h1;have hget:xs[i]?=some xs[i]:=yF (by omega);rw[hget]at h1;obtain ⟨s,hc,hd,_⟩:=DataW.trod_string he h1;have h2:cs[i]?=some (.string s):=by
  have:=congrArg (·[0]?) hc;simpa [List.getElem?_take,List.getElem?_drop] using this
 have h3:(xs.map (·.1))[i]?=some xs[i].1:=by simp[hget]
 rw[hxs]at h3;simp only[yQ,yF hiz,Option.map_some,Option.some.injEq]at h3;rw[hd]at h3;simp only[DataW.lit.injEq,Lit.string.injEq]at h3;have h4:zs[i]=s:=Go.WideShapes.bytes_inj h3;rw[h2,List.getD_eq_getElem?_getD,yF hiz,h4];rfl
theorem zim {P:Program} {W:World} {name:String} {zs:List ByteArray} {rest:List (String×DataW Unit)} {g:Nat} {t e:TypeId} {n:Nat}
 (hg:P.globalNamed name=some g) (hty:(P.globals[g]?).map (·.type)=some t) (ht:P.underlying t=some (.array n e)) (he:P.underlying e=some .string) (hce:P.cellsOf e=1) (hct:P.cellsOf t=n)
 (h:laidMet P ((name,zjs zs)::rest) W):∀ i,i<zs.length→W.cell? ⟨g,i,none⟩=some (.string (zs.getD i ByteArray.empty)):=by
 obtain ⟨ps,⟨g',t',cs,fuel,p,q,hg',ht',hvar,hd,_,_⟩,_⟩:=h;obtain rfl:=Option.some.inj (hg.symm.trans hg');obtain rfl:=Option.some.inj (hty.symm.trans ht');intro i hi;have h1:=World.var?_cell hg hvar i;have h2:=zjr ht he hce hct hd i hi;rw[h1,← Array.getElem?_toList];exact h2
def sgBs:List ByteArray:=sgL.map fun x=>⟨x.toArray⟩
theorem EnvL.of14 {W:World} {rest:List (String×DataW Unit)} (h:laidMet Tryz.prog (("math/bits.deBruijn32tab",Rows.laid_math_bits_deBruijn32tab)::("math/bits.deBruijn64tab",Rows.laid_math_bits_deBruijn64tab)::("internal/strconv.uint64pow10",Rows.laid_internal_strconv_uint64pow10)::("strconv.ErrRange",Rows.laid_strconv_ErrRange)::("strconv.ErrSyntax",Rows.laid_strconv_ErrSyntax)::("bywash/lex.signs",Rows.laid_bywash_lex_signs)::rest) W):EnvL W:=by
 refine ⟨?_,Errs.of h.tail.tail.tail,fun j hj=>?_⟩
 ·exact Lib.tabIs_of_head (t:=203) (e:=193) (n:=20) (k:=.u64) (zs:=Lib.pow10Tab) (g:=2) (by kernel_rfl) (by kernel_rfl) underlying203 underlying193 (by kernel_rfl) (by kernel_rfl) h.tail.tail
 ·have:=zim (zs:=sgBs) (t:=189) (e:=9) (n:=18) (g:=1) (rest:=rest) (by kernel_rfl) (by kernel_rfl) underlying189 underlying9 (by kernel_rfl) (by kernel_rfl) h.tail.tail.tail.tail.tail j hj;rw[this];match j,hj with
  | 0,_=>rfl
  | 1,_=>rfl
  | 2,_=>rfl
  | 3,_=>rfl
  | 4,_=>rfl
  | 5,_=>rfl
  | 6,_=>rfl
  | 7,_=>rfl
  | 8,_=>rfl
  | 9,_=>rfl
  | 10,_=>rfl
  | 11,_=>rfl
  | 12,_=>rfl
  | 13,_=>rfl
  | 14,_=>rfl
  | 15,_=>rfl
  | 16,_=>rfl
  | 17,_=>rfl
  | n+18,h=>exact absurd h (by omega)
theorem zps (key:Str):(Rows.laid_bywash_show_ranks:DataW Unit).atKey (.string key) (.lit (.int .i64 0))=.lit (.int .i64 (zaH key:Int)):=by
 have hne:∀ x:Str,key≠x→(Lit.string x).sameKey (.string key)=false:=fun x hx=>by
  unfold Lit.sameKey;simp
  exact fun e=>hx e.symm
 by_cases h:key∈([[33,61],[37],[42],[43],[45],[47],[60],[60,61],[61],[62],[62,61],[97,110,100],[111,114]]:List Str)
 ·clear hne;simp only[List.mem_cons,List.not_mem_nil,or_false]at h;rcases h with rfl|rfl|rfl|rfl|rfl|rfl|rfl|rfl|rfl|rfl|rfl|rfl|rfl<;>rfl
 ·have h0:zaH key=0:=by
   unfold zaH;rw[if_neg (fun e=>h (by rw[e];decide)),if_neg (fun e=>h (by rw[e];decide)),if_neg (fun e=>h ((by decide:∀ x∈zcr,x∈([[33,61],[37],[42],[43],[45],[47],[60],[60,61],[61],[62],[62,61],[97,110,100],[111,114]]:List Str)) _ e)),
    if_neg (fun e=>h ((by decide:∀ x∈zbZ,x∈([[33,61],[37],[42],[43],[45],[47],[60],[60,61],[61],[62],[62,61],[97,110,100],[111,114]]:List Str)) _ e)),if_neg (fun e=>h ((by decide:∀ x∈zbp,x∈([[33,61],[37],[42],[43],[45],[47],[60],[60,61],[61],[62],[62,61],[97,110,100],[111,114]]:List Str)) _ e))]
  simp only[List.mem_cons,List.not_mem_nil,or_false,not_or]at h;obtain ⟨a1,a2,a3,a4,a5,a6,a7,a8,a9,a10,a11,a12,a13⟩:=h;rw[h0];unfold Rows.laid_bywash_show_ranks DataW.atKey;simp[List.find?,hne _ a1,hne _ a2,hne _ a3,hne _ a4,hne _ a5,hne _ a6,hne _ a7,hne _ a8,hne _ a9,hne _ a10,hne _ a11,hne _ a12,hne _ a13]
theorem zlq {key:Str} (h:2 ^ 40<key.length):zaH key=0:=by
 have hl:∀ x:Str,x.length≤3→key≠x:=fun x hx e=>by rw[e]at h;omega
 unfold zaH;rw[if_neg (hl _ (by decide)),if_neg (hl _ (by decide)),if_neg (fun e=>hl _ ((by decide:∀ x∈zcr,x.length≤3) _ e) rfl),if_neg (fun e=>hl _ ((by decide:∀ x∈zbZ,x.length≤3) _ e) rfl),if_neg (fun e=>hl _ ((by decide:∀ x∈zbp,x.length≤3) _ e) rfl)]
theorem EnvR.of {W:World} {rest:List (String×DataW Unit)} (h:laidMet Tryz.prog (("bywash/show.ranks",Rows.laid_bywash_show_ranks)::rest) W):EnvR W:=by
 obtain ⟨ps,⟨g',t',cs,fuel,p,q,hg',ht',hvar,hd,_,_⟩,_⟩:=h;have hg:Tryz.prog.globalNamed "bywash/show.ranks"=some 0:=by kernel_rfl
 have hty:(Tryz.prog.globals[0]?).map (·.type)=some 173:=by kernel_rfl
 obtain rfl:=Option.some.inj (hg.symm.trans hg');obtain rfl:=Option.some.inj (hty.symm.trans ht');rcases Go.WideMaps.open_map underlying173 underlying3 hd with ⟨_,hx⟩|⟨bm,es,clock,hcs,hb,_,F,hx⟩
 ·exfalso
  have:=congrArg Prod.fst hx;simp[Rows.laid_bywash_show_ranks]at this
 have hcell:W.cell? ⟨0,0,none⟩=some (.map (some bm)):=by
  have:=World.var?_cell hg hvar 0;rw[Array.eq_one_of_toList hcs]at this;simpa using this
 have hlt:bm<W.heap.size:=by
  apply Classical.byContradiction;intro hn;rw[Array.getElem?_eq_none (by omega)]at hb;cases hb
 refine ⟨bm,_,hlt,hcell,hb,fun W' key hW=>?_⟩;have hz:(zeroValue 3).run Tryz.prog W'=.ok (.int .i64 0) W':=by kernel_rfl
 by_cases hk:key.size≤maxLen
 ·obtain ⟨n,hrun,_,hat⟩:=fit_lookup (H:=Unit) (string_law underlying9) underlying173 hz hW F (keyOf_string_mk (s:=key) underlying9 hk);rw[hrun];have h1:=congrArg Prod.fst hx;simp only at h1;rw[← h1,zps]at hat;simp only[DataW.lit.injEq,Lit.int.injEq,true_and]at hat;rw[hat]
 ·have h40:2 ^ 40<key.data.toList.length:=by
   have:key.data.toList.length=key.size:=rfl;unfold maxLen at hk;omega
  rw[zlq h40];have hks:∀ x∈es.toList,IsKey .string x.key:=fun x hxm=>by
   obtain ⟨l,hl⟩:=F.keys x hxm;obtain ⟨s',e,_,_⟩:=string_of_keyOf underlying9 hl;rw[e];trivial
  have K:=string_law (P:=Tryz.prog) underlying9;rcases findNow_spec (d:=.string) (k:=.string key) trivial es.toList 0 hks with ⟨h1,h2⟩|⟨j,e0,h1,h2,h3⟩
  ·have hck:=fun em=>run_checkKey (P:=Tryz.prog) (w:=W') underlying9 (d:=.string) (k:=.string key) trivial em 9999
   simp[Instr.lookup,run_underlying underlying173,MapKept.run_getObj_map hW,hck,run_findKey underlying9 h1,hz,Result.andThen]
  ·exfalso
   obtain ⟨l,hl⟩:=F.keys e0 (yP h2);obtain ⟨s',e,_,hs⟩:=string_of_keyOf underlying9 hl;rw[h3]at e;injection e with e
   subst e;exact hk hs
theorem EnvX.of {W:World} (h:laidMetH Tryz.prog Rows.showExprsRow.laid W):EnvX W:=by
 rw[MakeChecks.laidMetH_plain _ _ _ (by kernel_rfl)]at h;exact ⟨EnvL.of14 h,EnvR.of h.tail.tail.tail.tail.tail.tail⟩
