/- Walks: the text of a step, of a plan. -/
import Derived.Test.YtonkjhmkppeagaaGreatDoorUReg2
import Derived.Test.YtonkjhmkppeagaaGreatDoorCShB
import Derived.Test.YtonkjhmkppeagaaGreatDoorCQy
set_option maxRecDepth 100000
set_option maxHeartbeats 3200000
set_option linter.unusedVariables false
set_option linter.unusedSimpArgs false
namespace Go.Proofs.YtonkjhmkppeagaaGreatDoor.Pz
open Go.Proofs.Tryz
open Go.Lib (hid)
open Go.RowKit Go Go.Sort Ba Lx
theorem zgE (sep:Str):∀ (l:List Str) (a:Str),a∈l→a.length≤(joinS sep l).length
 | [b],a,h=>by simp at h;subst h;exact Nat.le_refl _
 | b::c::r,a,h=>by
  show a.length≤(b++(sep++joinS sep (c::r))).length
  rw[List.length_append,List.length_append];rcases List.mem_cons.1 h with rfl|h
  ·omega
  ·have:=zgE sep (c::r) a h;omega
theorem za5 {l:List Str} {a:Str} (h:a∈l):a.length≤(zav l).length:=by
 by_cases ha:a=[]
 ·rw[ha];exact Nat.zero_le _
 ·exact zgE [32] _ a (List.mem_filter.2 ⟨h,by simpa using ha⟩)
def QxOk (p:Pl):Prop:=∀ (a0 a1 a2 a3 a4 a5 a6:Option Addr) (ac0 ac1 ac2 ac3 ac4 ac5 ac6:Nat) (w:World) (ok:Nat→Prop),PlAt w ok p a0 ac0 a1 ac1 a2 ac2 a3 ac3 a4 ac4 a5 ac5 a6 ac6→EnvX w→OkQ p→(textQ p).length≤1000000→Calls Tryz.prog 72 #[plV p a0 ac0 a1 ac1 a2 ac2 a3 ac3 a4 ac4 a5 ac5 a6 ac6] w (StrTo (textQ p) w)
def StrIs (T:ByteArray) (w:World) (e:Ending) (w':World):Prop:=e=.returned (.string T)∧Below w.heap.size w w'
theorem plV_k {p:Pl} {K:Int} {m:Nat} {a0 a1 a2 a3 a4 a5 a6:Option Addr} {ac0 ac1 ac2 ac3 ac4 ac5 ac6:Nat} (hk:p.k=K) (hm:p.xs.length=m):plV p a0 ac0 a1 ac1 a2 ac2 a3 ac3 a4 ac4 a5 ac5 a6 ac6=.agg #[.int .i64 K,.string ⟨p.nm.toArray⟩,.slice a0 m ac0,.int .i64 p.cond.k,.string ⟨p.cond.nm.toArray⟩,.int .i64 p.cond.v.k,.int .i64 p.cond.v.n,.string ⟨p.cond.v.t.toArray⟩,.string ⟨p.cond.op.toArray⟩,.slice a1 p.cond.xs.length ac1,.slice a2 p.names.length ac2,.slice a3 p.exprs.length ac3,.slice a4 p.on.length ac4,.slice a5 p.aggs.length ac5,.slice a6 p.ord.length ac6,.int .i64 p.cnt]:=by
 show Value.agg #[.int .i64 p.k,.string ⟨p.nm.toArray⟩,.slice a0 p.xs.length ac0,.int .i64 p.cond.k,.string ⟨p.cond.nm.toArray⟩,.int .i64 p.cond.v.k,.int .i64 p.cond.v.n,.string ⟨p.cond.v.t.toArray⟩,.string ⟨p.cond.op.toArray⟩,.slice a1 p.cond.xs.length ac1,.slice a2 p.names.length ac2,.slice a3 p.exprs.length ac3,.slice a4 p.on.length ac4,.slice a5 p.aggs.length ac5,.slice a6 p.ord.length ac6,.int .i64 p.cnt]=_
 rw[hk,hm]
theorem zfI (p:Pl) (h:QxOk p) (a0 a1 a2 a3 a4 a5 a6:Option Addr) (ac0 ac1 ac2 ac3 ac4 ac5 ac6:Nat) (w:World) (ok:Nat→Prop) (hA:PlAt w ok p a0 ac0 a1 ac1 a2 ac2 a3 ac3 a4 ac4 a5 ac5 a6 ac6) (hE:EnvX w) (hp:OkQ p) (hlen:(partT (p,textQ p)).length≤1000000) :
 Calls Tryz.prog 122 #[plV p a0 ac0 a1 ac1 a2 ac2 a3 ac3 a4 ac4 a5 ac5 a6 ac6] w (StrTo (partT (p,textQ p)) w):=by
 have H:=hid (St.start (S:=fun _=>False) w);obtain ⟨K,hk⟩:∃ K,p.k=K:=⟨_,rfl⟩;obtain ⟨m,hm⟩:∃ m,p.xs.length=m:=⟨_,rfl⟩;have HV:=hid (plV_k (p:=p) (a0:=a0) (ac0:=ac0) (a1:=a1) (ac1:=ac1) (a2:=a2) (ac2:=ac2) (a3:=a3) (ac3:=ac3) (a4:=a4) (ac4:=ac4) (a5:=a5) (ac5:=ac5) (a6:=a6) (ac6:=ac6) hk hm);by_cases h1:p.k=1
 ·have HT:Hid (partT (p,textQ p)=p.nm):=by show partT (p,textQ p)=_;unfold partT;rw[if_pos h1]
  obtain rfl:K=1:=by rw[← hk];exact h1
  rw[HV.out,HT.out];clear h hA hE hp hlen hk hm HV HT h1;go_enter func122,ntmps122
  go_wp2_with (first|(refine St.w_box (vs:=[.int .i64 1,.string ⟨p.nm.toArray⟩,.slice a0 m ac0,.int .i64 p.cond.k,.string ⟨p.cond.nm.toArray⟩,.int .i64 p.cond.v.k,.int .i64 p.cond.v.n,.string ⟨p.cond.v.t.toArray⟩,.string ⟨p.cond.op.toArray⟩,.slice a1 p.cond.xs.length ac1,.slice a2 p.names.length ac2,.slice a3 p.exprs.length ac3,.slice a4 p.on.length ac4,.slice a5 p.aggs.length ac5,.slice a6 p.ord.length ac6,.int .i64 p.cnt]) H.out (by rfl) rfl rfl rfl ?_;intro wn X _ _ H2;replace H:=hid H2;clear H2)|(refine St.w_load1 (ty:=3) H.out (by rfl) rfl rfl 0 rfl rfl uInt_ ?_)|(refine St.w_load1 (ty:=9) H.out (by rfl) rfl rfl 0 rfl rfl uStr_ ?_))
  go_ret
  exact ⟨rfl,zab H.out⟩
 ·have HT:partT (p,textQ p)=40::(textQ p++[41]):=by unfold partT;rw[if_neg h1]
  rw[HT]at hlen ⊢;have hl2:(textQ p).length≤1000000:=by simp at hlen;omega
  obtain ⟨T,hT⟩:∃ T:ByteArray,(⟨(textQ p).toArray⟩:ByteArray)=T:=⟨_,rfl⟩;have hTs:T.size≤1000000:=by rw[← hT,sz_mk];exact hl2
  have HQ:Hid (∀ W,Below w.heap.size w W→Calls Tryz.prog 72 #[.agg #[.int .i64 K,.string ⟨p.nm.toArray⟩,.slice a0 m ac0,.int .i64 p.cond.k,.string ⟨p.cond.nm.toArray⟩,.int .i64 p.cond.v.k,.int .i64 p.cond.v.n,.string ⟨p.cond.v.t.toArray⟩,.string ⟨p.cond.op.toArray⟩,.slice a1 p.cond.xs.length ac1,.slice a2 p.names.length ac2,.slice a3 p.exprs.length ac3,.slice a4 p.on.length ac4,.slice a5 p.aggs.length ac5,.slice a6 p.ord.length ac6,.int .i64 p.cnt]] W (StrIs T W)):=fun W hW=>by
   have:=h a0 a1 a2 a3 a4 a5 a6 ac0 ac1 ac2 ac3 ac4 ac5 ac6 W ok (PlRep.below hA hW) (hE.below hW) hp hl2;rw[HV.out]at this;unfold StrTo at this;rw[hT]at this;exact this
  have HW:Hid ((⟨#[40]⟩++T)++⟨#[41]⟩=⟨(40::(textQ p++[41])).toArray⟩):=by
   show _=_
   rw[← hT];show ((⟨([40]:Str).toArray⟩:ByteArray)++⟨(textQ p).toArray⟩)++⟨([41]:Str).toArray⟩=_
   rw[za4,za4];congr 2
  have hK:(K == 1)=false:=by rw[← hk];simpa using h1
  rw[HV.out];clear h hA hE hp hlen hk hm HV HT h1 hl2 hT;go_enter func122,ntmps122
  go_wp2_with (first|(refine St.w_box (vs:=[.int .i64 K,.string ⟨p.nm.toArray⟩,.slice a0 m ac0,.int .i64 p.cond.k,.string ⟨p.cond.nm.toArray⟩,.int .i64 p.cond.v.k,.int .i64 p.cond.v.n,.string ⟨p.cond.v.t.toArray⟩,.string ⟨p.cond.op.toArray⟩,.slice a1 p.cond.xs.length ac1,.slice a2 p.names.length ac2,.slice a3 p.exprs.length ac3,.slice a4 p.on.length ac4,.slice a5 p.aggs.length ac5,.slice a6 p.ord.length ac6,.int .i64 p.cnt]) H.out (by rfl) rfl rfl rfl ?_;intro wn X _ _ H2;replace H:=hid H2;clear H2)|(refine St.w_load1 (ty:=3) H.out (by rfl) rfl rfl 0 rfl rfl uInt_ ?_)|(refine St.w_load (ty:=57) H.out (by rfl) rfl rfl 0 rfl uPl_ sPl_ ?_)|(go_at_call 72;(with_reducible (refine (HQ.out _ (zab H.out)).mono ?_));rintro e wc ⟨rfl,hb9⟩;replace H:=hid (H.out.below hb9);clear hb9))
  go_ret
  exact ⟨zbI HW.out,zab H.out⟩
theorem zqs (p:Pl) (hk:p.k=2) (hm:p.xs.length=1) (hx:OkE p.cond) (a0 a1 a2 a3 a4 a5 a6:Option Addr) (ac0 ac1 ac2 ac3 ac4 ac5 ac6:Nat) (w:World) (ok:Nat→Prop) (hA:PlAt w ok p a0 ac0 a1 ac1 a2 ac2 a3 ac3 a4 ac4 a5 ac5 a6 ac6) (hE:EnvX w) (hlen:(zav [zbp,textE p.cond]).length≤1000000) :
 Calls Tryz.prog 97 #[plV p a0 ac0 a1 ac1 a2 ac2 a3 ac3 a4 ac4 a5 ac5 a6 ac6] w (StrTo (zav [zbp,textE p.cond]) w):=by
 have H:=hid (St.start (S:=fun _=>False) w);have HV:=hid (plV_k (p:=p) (a0:=a0) (ac0:=ac0) (a1:=a1) (ac1:=ac1) (a2:=a2) (ac2:=ac2) (a3:=a3) (ac3:=ac3) (a4:=a4) (ac4:=ac4) (a5:=a5) (ac5:=ac5) (a6:=a6) (ac6:=ac6) hk hm);have hl1:(textE p.cond).length≤1000000:=Nat.le_trans (za5 (l:=[zbp,textE p.cond]) (by simp)) hlen;obtain ⟨T,hT⟩:∃ T:ByteArray,(⟨(textE p.cond).toArray⟩:ByteArray)=T:=⟨_,rfl⟩;have HT:Hid (∀ W,Below w.heap.size w W→Calls Tryz.prog 46 #[exV p.cond (.slice a1 p.cond.xs.length ac1)] W (StrIs T W)):=fun W hW=>by
  have:=text_any p.cond a1 ac1 W ok ((show PlRep w ok p (.slice a0 p.xs.length ac0) (.slice a1 p.cond.xs.length ac1) (.slice a2 p.names.length ac2) (.slice a3 p.exprs.length ac3) (.slice a4 p.on.length ac4) (.slice a5 p.aggs.length ac5) (.slice a6 p.ord.length ac6) from hA).cond.kept (S:=fun _=>False) (Kept.of_below hW) (fun _ _ _ x=>x)) (hE.below hW) (zml _ hx) (Nat.le_trans hl1 (LimE_ge _));unfold StrTo at this;rw[hT]at this;exact this
 obtain ⟨R,hR⟩:∃ R:ByteArray,(⟨(zav [zbp,textE p.cond]).toArray⟩:ByteArray)=R:=⟨_,rfl⟩;have HWD:Hid (∀ W g,Box W g [.string ⟨#[119,104,101,114,101]⟩,.string T]→Calls Tryz.prog 99 #[.slice (some ⟨g,0,none⟩) 2 2] W (fun e w'=>e=.returned (.string R)∧Kept (fun b=>b=g) W w')):=fun W g hb=>by
  have:=zbx [zbp,textE p.cond] g W (by show Box W g [strV (zbp),strV (textE p.cond)];unfold strV;rw[hT];exact hb) (by show 2≤1000000;decide) (by omega);unfold zcd at this;rw[hR]at this;exact this
 have HRR:=hid hR;clear hx hl1 hT;rw[HV.out];clear hA hE hlen hk hm HV hR;go_enter func97,ntmps97
 go_wp2_with (first|(refine St.w_box (vs:=[.int .i64 2,.string ⟨p.nm.toArray⟩,.slice a0 1 ac0,.int .i64 p.cond.k,.string ⟨p.cond.nm.toArray⟩,.int .i64 p.cond.v.k,.int .i64 p.cond.v.n,.string ⟨p.cond.v.t.toArray⟩,.string ⟨p.cond.op.toArray⟩,.slice a1 p.cond.xs.length ac1,.slice a2 p.names.length ac2,.slice a3 p.exprs.length ac3,.slice a4 p.on.length ac4,.slice a5 p.aggs.length ac5,.slice a6 p.ord.length ac6,.int .i64 p.cnt]) H.out (by rfl) rfl rfl rfl ?_;intro wn X _ _ H2;replace H:=hid H2;clear H2)|(refine St.w_load1 (ty:=52) H.out (by rfl) rfl rfl 0 rfl rfl uSPl_ ?_)|(refine St.w_load1 (ty:=3) H.out (by rfl) rfl rfl 0 rfl rfl uInt_ ?_)|(refine St.w_loadm (ty:=27) (cs:=exC p.cond (.slice a1 p.cond.xs.length ac1)) H.out (by rfl) rfl rfl 0 rfl rfl uEx_ sEx_ ?_)|(go_at_call 46;(with_reducible (refine (HT.out _ (zab H.out)).mono ?_));rintro e wc ⟨rfl,hb9⟩;replace H:=hid (H.out.below hb9);clear hb9)|(refine St.w_lit H.out (by rfl) rfl underlying48 iS2_ [.string ⟨#[119,104,101,114,101]⟩,.string T] rfl rfl rfl (by decide) (by decide) (by decide) (all_k rfl) rfl ?_;intro wl Cl _ H2;replace H:=hid H2;clear H2)|(go_at_call 99;(with_reducible (refine (HWD.out _ _ (H.out.at (i:=0) rfl)).mono ?_));rintro e wc ⟨rfl,hk9⟩;replace H:=hid (H.out.lent hk9);clear hk9))
 go_ret
 rw[← HRR.out];exact ⟨rfl,zab H.out⟩
theorem zqr (p:Pl) (hk:p.k=3) (hm:p.xs.length=1) (hx:∀ e∈p.exprs,OkE e) (hn:p.exprs.length=p.names.length) (a0 a1 a2 a3 a4 a5 a6:Option Addr) (ac0 ac1 ac2 ac3 ac4 ac5 ac6:Nat) (w:World) (ok:Nat→Prop) (hA:PlAt w ok p a0 ac0 a1 ac1 a2 ac2 a3 ac3 a4 ac4 a5 ac5 a6 ac6) (hE:EnvX w) (hlen:(zav [sKeep,joinS [44,32] (keptL p.exprs p.names)]).length≤1000000) :
 Calls Tryz.prog 97 #[plV p a0 ac0 a1 ac1 a2 ac2 a3 ac3 a4 ac4 a5 ac5 a6 ac6] w (StrTo (zav [sKeep,joinS [44,32] (keptL p.exprs p.names)]) w):=by
 have H:=hid (St.start (S:=fun _=>False) w);have HV:=hid (plV_k (p:=p) (a0:=a0) (ac0:=ac0) (a1:=a1) (ac1:=ac1) (a2:=a2) (ac2:=ac2) (a3:=a3) (ac3:=ac3) (a4:=a4) (ac4:=ac4) (a5:=a5) (ac5:=ac5) (a6:=a6) (ac6:=ac6) hk hm);obtain ⟨T,hT⟩:∃ T:ByteArray,(⟨(joinS [44,32] (keptL p.exprs p.names)).toArray⟩:ByteArray)=T:=⟨_,rfl⟩;have hl1:=Nat.le_trans (za5 (l:=[sKeep,joinS [44,32] (keptL p.exprs p.names)]) (a:=joinS [44,32] (keptL p.exprs p.names)) (by simp)) hlen
 have HT:Hid (∀ W,Below w.heap.size w W→Calls Tryz.prog 123 #[.agg #[.int .i64 3,.string ⟨p.nm.toArray⟩,.slice a0 1 ac0,.int .i64 p.cond.k,.string ⟨p.cond.nm.toArray⟩,.int .i64 p.cond.v.k,.int .i64 p.cond.v.n,.string ⟨p.cond.v.t.toArray⟩,.string ⟨p.cond.op.toArray⟩,.slice a1 p.cond.xs.length ac1,.slice a2 p.names.length ac2,.slice a3 p.exprs.length ac3,.slice a4 p.on.length ac4,.slice a5 p.aggs.length ac5,.slice a6 p.ord.length ac6,.int .i64 p.cnt]] W (StrIs T W)):=fun W hW=>by
  have:=zo0 p hx hn hl1 a0 a1 a2 a3 a4 a5 a6 ac0 ac1 ac2 ac3 ac4 ac5 ac6 W ok (PlRep.below hA hW) (hE.below hW);rw[HV.out]at this;unfold StrTo at this;rw[hT]at this;exact this
 obtain ⟨R,hR⟩:∃ R:ByteArray,(⟨(zav [sKeep,joinS [44,32] (keptL p.exprs p.names)]).toArray⟩:ByteArray)=R:=⟨_,rfl⟩;have HWD:Hid (∀ W g,Box W g [.string ⟨#[107,101,101,112]⟩,.string T]→Calls Tryz.prog 99 #[.slice (some ⟨g,0,none⟩) 2 2] W (fun e w'=>e=.returned (.string R)∧Kept (fun b=>b=g) W w')):=fun W g hb=>by
  have:=zbx [sKeep,joinS [44,32] (keptL p.exprs p.names)] g W (by show Box W g [strV (sKeep),strV (joinS [44,32] (keptL p.exprs p.names))];unfold strV;rw[hT];exact hb) (by show 2≤1000000;decide) (by omega);unfold zcd at this;rw[hR]at this;exact this
 have HRR:=hid hR;clear hx hn hl1 hT;rw[HV.out];clear hA hE hlen hk hm HV hR;go_enter func97,ntmps97
 go_wp2_with (first|(refine St.w_box (vs:=[.int .i64 3,.string ⟨p.nm.toArray⟩,.slice a0 1 ac0,.int .i64 p.cond.k,.string ⟨p.cond.nm.toArray⟩,.int .i64 p.cond.v.k,.int .i64 p.cond.v.n,.string ⟨p.cond.v.t.toArray⟩,.string ⟨p.cond.op.toArray⟩,.slice a1 p.cond.xs.length ac1,.slice a2 p.names.length ac2,.slice a3 p.exprs.length ac3,.slice a4 p.on.length ac4,.slice a5 p.aggs.length ac5,.slice a6 p.ord.length ac6,.int .i64 p.cnt]) H.out (by rfl) rfl rfl rfl ?_;intro wn X _ _ H2;replace H:=hid H2;clear H2)|(refine St.w_load1 (ty:=52) H.out (by rfl) rfl rfl 0 rfl rfl uSPl_ ?_)|(refine St.w_load1 (ty:=3) H.out (by rfl) rfl rfl 0 rfl rfl uInt_ ?_)|(refine St.w_load (ty:=57) H.out (by rfl) rfl rfl 0 rfl uPl_ sPl_ ?_)|(go_at_call 123;(with_reducible (refine (HT.out _ (zab H.out)).mono ?_));rintro e wc ⟨rfl,hb9⟩;replace H:=hid (H.out.below hb9);clear hb9)|(refine St.w_lit H.out (by rfl) rfl underlying48 iS2_ [.string ⟨#[107,101,101,112]⟩,.string T] rfl rfl rfl (by decide) (by decide) (by decide) (all_k rfl) rfl ?_;intro wl Cl _ H2;replace H:=hid H2;clear H2)|(go_at_call 99;(with_reducible (refine (HWD.out _ _ (H.out.at (i:=0) rfl)).mono ?_));rintro e wc ⟨rfl,hk9⟩;replace H:=hid (H.out.lent hk9);clear hk9))
 go_ret
 rw[← HRR.out];exact ⟨rfl,zab H.out⟩
theorem zqq (p:Pl) (hk:p.k=4) (hm:p.xs.length=2) (a b:Pl) (hxs:p.xs=[a,b]) (hb:QxOk b) (hob:OkQ b) (a0 a1 a2 a3 a4 a5 a6:Option Addr) (ac0 ac1 ac2 ac3 ac4 ac5 ac6:Nat) (w:World) (ok:Nat→Prop) (hA:PlAt w ok p a0 ac0 a1 ac1 a2 ac2 a3 ac3 a4 ac4 a5 ac5 a6 ac6) (hE:EnvX w) (hlen:(zav [sJoin,partT (b,textQ b),sOn,joinS [44,32] (p.on.map pairT)]).length≤1000000) :
 Calls Tryz.prog 97 #[plV p a0 ac0 a1 ac1 a2 ac2 a3 ac3 a4 ac4 a5 ac5 a6 ac6] w (StrTo (zav [sJoin,partT (b,textQ b),sOn,joinS [44,32] (p.on.map pairT)]) w):=by
 have H:=hid (St.start (S:=fun _=>False) w);have HV:=hid (plV_k (p:=p) (a0:=a0) (ac0:=ac0) (a1:=a1) (ac1:=ac1) (a2:=a2) (ac2:=ac2) (a3:=a3) (ac3:=ac3) (a4:=a4) (ac4:=ac4) (a5:=a5) (ac5:=ac5) (a6:=a6) (ac6:=ac6) hk hm);obtain ⟨U,hU⟩:∃ T:ByteArray,(⟨(partT (b,textQ b)).toArray⟩:ByteArray)=T:=⟨_,rfl⟩;obtain ⟨T,hT⟩:∃ T:ByteArray,(⟨(joinS [44,32] (p.on.map pairT)).toArray⟩:ByteArray)=T:=⟨_,rfl⟩;have hl1:=Nat.le_trans (za5 (l:=[sJoin,partT (b,textQ b),sOn,joinS [44,32] (p.on.map pairT)]) (a:=joinS [44,32] (p.on.map pairT)) (by simp)) hlen;have hl2:=Nat.le_trans (za5 (l:=[sJoin,partT (b,textQ b),sOn,joinS [44,32] (p.on.map pairT)]) (a:=partT (b,textQ b)) (by simp)) hlen;have hb1:p.xs[1]?=some b:=by rw[hxs];rfl
 obtain ⟨bb,bo,b0,bc0,b1,bc1,b2,bc2,b3,bc3,b4,bc4,b5,bc5,b6,bc6,rfl,_,_,hbA,hbc⟩:=arg16 (show PlRep w ok p (.slice a0 p.xs.length ac0) (.slice a1 p.cond.xs.length ac1) (.slice a2 p.names.length ac2) (.slice a3 p.exprs.length ac3) (.slice a4 p.on.length ac4) (.slice a5 p.aggs.length ac5) (.slice a6 p.ord.length ac6) from hA).args hb1;have hbcell:Hid (∀ W,Below w.heap.size w W→∀ (j:Nat) (v:Value),(plC b (.slice b0 b.xs.length bc0) (.slice b1 b.cond.xs.length bc1) (.slice b2 b.names.length bc2) (.slice b3 b.exprs.length bc3) (.slice b4 b.on.length bc4) (.slice b5 b.aggs.length bc5) (.slice b6 b.ord.length bc6))[j]?=some v→W.cell? ⟨bb,bo+16+j,none⟩=some v):=fun W hW j v hv=>by
  have h1:=hbc j v hv;rw[Nat.one_mul]at h1;exact (hW.cell (zbw h1)).trans h1
 have HU:Hid (∀ W,Below w.heap.size w W→Calls Tryz.prog 122 #[plV b b0 bc0 b1 bc1 b2 bc2 b3 bc3 b4 bc4 b5 bc5 b6 bc6] W (StrIs U W)):=fun W hW=>by
  have:=zfI b hb b0 b1 b2 b3 b4 b5 b6 bc0 bc1 bc2 bc3 bc4 bc5 bc6 W ok (PlRep.below hbA hW) (hE.below hW) hob hl2;unfold StrTo at this;rw[hU]at this;exact this
 have HT:Hid (∀ W,Below w.heap.size w W→Calls Tryz.prog 124 #[.agg #[.int .i64 4,.string ⟨p.nm.toArray⟩,.slice (some ⟨bb,bo,none⟩) 2 ac0,.int .i64 p.cond.k,.string ⟨p.cond.nm.toArray⟩,.int .i64 p.cond.v.k,.int .i64 p.cond.v.n,.string ⟨p.cond.v.t.toArray⟩,.string ⟨p.cond.op.toArray⟩,.slice a1 p.cond.xs.length ac1,.slice a2 p.names.length ac2,.slice a3 p.exprs.length ac3,.slice a4 p.on.length ac4,.slice a5 p.aggs.length ac5,.slice a6 p.ord.length ac6,.int .i64 p.cnt]] W (StrIs T W)):=fun W hW=>by
  have:=zgn p hl1 (some ⟨bb,bo,none⟩) a1 a2 a3 a4 a5 a6 ac0 ac1 ac2 ac3 ac4 ac5 ac6 W ok (PlRep.below hA hW);rw[HV.out]at this;unfold StrTo at this;rw[hT]at this;exact this
 obtain ⟨R,hR⟩:∃ R:ByteArray,(⟨(zav [sJoin,partT (b,textQ b),sOn,joinS [44,32] (p.on.map pairT)]).toArray⟩:ByteArray)=R:=⟨_,rfl⟩;have HWD:Hid (∀ W g,Box W g [.string ⟨#[106,111,105,110]⟩,.string U,.string ⟨#[111,110]⟩,.string T]→Calls Tryz.prog 99 #[.slice (some ⟨g,0,none⟩) 4 4] W (fun e w'=>e=.returned (.string R)∧Kept (fun b=>b=g) W w')):=fun W g hb=>by
  have:=zbx [sJoin,partT (b,textQ b),sOn,joinS [44,32] (p.on.map pairT)] g W (by show Box W g [strV (sJoin),strV (partT (b,textQ b)),strV (sOn),strV (joinS [44,32] (p.on.map pairT))];unfold strV;rw[hT,hU];exact hb) (by show 4≤1000000;decide) (by omega);unfold zcd at this;rw[hR]at this;exact this
 have HRR:=hid hR;have hac:2≤ac0:=by obtain ⟨_,_,e,h1,_⟩:=(show PlRep w ok p (.slice (some ⟨bb,bo,none⟩) p.xs.length ac0) (.slice a1 p.cond.xs.length ac1) (.slice a2 p.names.length ac2) (.slice a3 p.exprs.length ac3) (.slice a4 p.on.length ac4) (.slice a5 p.aggs.length ac5) (.slice a6 p.ord.length ac6) from hA).args.len;injection e with _ e2 e3;rw[zaP,List.length_map,hm]at h1;omega
 clear hb hob hl1 hl2 hT hU hxs hb1 hbA hbc;rw[HV.out];clear hA hE hlen hk hm HV hR;go_enter func97,ntmps97
 go_wp2_with (first|(refine St.w_box (vs:=[.int .i64 4,.string ⟨p.nm.toArray⟩,.slice (some ⟨bb,bo,none⟩) 2 ac0,.int .i64 p.cond.k,.string ⟨p.cond.nm.toArray⟩,.int .i64 p.cond.v.k,.int .i64 p.cond.v.n,.string ⟨p.cond.v.t.toArray⟩,.string ⟨p.cond.op.toArray⟩,.slice a1 p.cond.xs.length ac1,.slice a2 p.names.length ac2,.slice a3 p.exprs.length ac3,.slice a4 p.on.length ac4,.slice a5 p.aggs.length ac5,.slice a6 p.ord.length ac6,.int .i64 p.cnt]) H.out (by rfl) rfl rfl rfl ?_;intro wn X _ _ H2;replace H:=hid H2;clear H2)|(refine St.w_load1 (ty:=52) H.out (by rfl) rfl rfl 0 rfl rfl uSPl_ ?_)|(refine St.w_load1 (ty:=3) H.out (by rfl) rfl rfl 0 rfl rfl uInt_ ?_)|(refine zar (by rfl) (ty:=57) rfl rfl (hbcell.out _ (zab H.out)) uPl_ sPl_ ?_)|(refine St.w_load (ty:=57) H.out (by rfl) rfl rfl 0 rfl uPl_ sPl_ ?_)|(go_at_call 122;(with_reducible (refine (HU.out _ (zab H.out)).mono ?_));rintro e wc ⟨rfl,hb9⟩;replace H:=hid (H.out.below hb9);clear hb9)|(go_at_call 124;(with_reducible (refine (HT.out _ (zab H.out)).mono ?_));rintro e wc ⟨rfl,hb9⟩;replace H:=hid (H.out.below hb9);clear hb9)|(refine St.w_lit H.out (by rfl) rfl underlying48 iS2_ [.string ⟨#[106,111,105,110]⟩,.string U,.string ⟨#[111,110]⟩,.string T] rfl rfl rfl (by decide) (by decide) (by decide) (all_k rfl) rfl ?_;intro wl Cl _ H2;replace H:=hid H2;clear H2)|(go_at_call 99;(with_reducible (refine (HWD.out _ _ (H.out.at (i:=0) rfl)).mono ?_));rintro e wc ⟨rfl,hk9⟩;replace H:=hid (H.out.lent hk9);clear hk9))
 go_ret
 rw[← HRR.out];exact ⟨rfl,zab H.out⟩
theorem zqp (p:Pl) (hk:p.k=5) (hm:p.xs.length=2) (a b:Pl) (hxs:p.xs=[a,b]) (hb:QxOk b) (hob:OkQ b) (a0 a1 a2 a3 a4 a5 a6:Option Addr) (ac0 ac1 ac2 ac3 ac4 ac5 ac6:Nat) (w:World) (ok:Nat→Prop) (hA:PlAt w ok p a0 ac0 a1 ac1 a2 ac2 a3 ac3 a4 ac4 a5 ac5 a6 ac6) (hE:EnvX w) (hlen:(zav [sLeft,partT (b,textQ b),sOn,joinS [44,32] (p.on.map pairT)]).length≤1000000) :
 Calls Tryz.prog 97 #[plV p a0 ac0 a1 ac1 a2 ac2 a3 ac3 a4 ac4 a5 ac5 a6 ac6] w (StrTo (zav [sLeft,partT (b,textQ b),sOn,joinS [44,32] (p.on.map pairT)]) w):=by
 have H:=hid (St.start (S:=fun _=>False) w);have HV:=hid (plV_k (p:=p) (a0:=a0) (ac0:=ac0) (a1:=a1) (ac1:=ac1) (a2:=a2) (ac2:=ac2) (a3:=a3) (ac3:=ac3) (a4:=a4) (ac4:=ac4) (a5:=a5) (ac5:=ac5) (a6:=a6) (ac6:=ac6) hk hm);obtain ⟨U,hU⟩:∃ T:ByteArray,(⟨(partT (b,textQ b)).toArray⟩:ByteArray)=T:=⟨_,rfl⟩;obtain ⟨T,hT⟩:∃ T:ByteArray,(⟨(joinS [44,32] (p.on.map pairT)).toArray⟩:ByteArray)=T:=⟨_,rfl⟩;have hl1:=Nat.le_trans (za5 (l:=[sLeft,partT (b,textQ b),sOn,joinS [44,32] (p.on.map pairT)]) (a:=joinS [44,32] (p.on.map pairT)) (by simp)) hlen;have hl2:=Nat.le_trans (za5 (l:=[sLeft,partT (b,textQ b),sOn,joinS [44,32] (p.on.map pairT)]) (a:=partT (b,textQ b)) (by simp)) hlen;have hb1:p.xs[1]?=some b:=by rw[hxs];rfl
 obtain ⟨bb,bo,b0,bc0,b1,bc1,b2,bc2,b3,bc3,b4,bc4,b5,bc5,b6,bc6,rfl,_,_,hbA,hbc⟩:=arg16 (show PlRep w ok p (.slice a0 p.xs.length ac0) (.slice a1 p.cond.xs.length ac1) (.slice a2 p.names.length ac2) (.slice a3 p.exprs.length ac3) (.slice a4 p.on.length ac4) (.slice a5 p.aggs.length ac5) (.slice a6 p.ord.length ac6) from hA).args hb1;have hbcell:Hid (∀ W,Below w.heap.size w W→∀ (j:Nat) (v:Value),(plC b (.slice b0 b.xs.length bc0) (.slice b1 b.cond.xs.length bc1) (.slice b2 b.names.length bc2) (.slice b3 b.exprs.length bc3) (.slice b4 b.on.length bc4) (.slice b5 b.aggs.length bc5) (.slice b6 b.ord.length bc6))[j]?=some v→W.cell? ⟨bb,bo+16+j,none⟩=some v):=fun W hW j v hv=>by
  have h1:=hbc j v hv;rw[Nat.one_mul]at h1;exact (hW.cell (zbw h1)).trans h1
 have HU:Hid (∀ W,Below w.heap.size w W→Calls Tryz.prog 122 #[plV b b0 bc0 b1 bc1 b2 bc2 b3 bc3 b4 bc4 b5 bc5 b6 bc6] W (StrIs U W)):=fun W hW=>by
  have:=zfI b hb b0 b1 b2 b3 b4 b5 b6 bc0 bc1 bc2 bc3 bc4 bc5 bc6 W ok (PlRep.below hbA hW) (hE.below hW) hob hl2;unfold StrTo at this;rw[hU]at this;exact this
 have HT:Hid (∀ W,Below w.heap.size w W→Calls Tryz.prog 124 #[.agg #[.int .i64 5,.string ⟨p.nm.toArray⟩,.slice (some ⟨bb,bo,none⟩) 2 ac0,.int .i64 p.cond.k,.string ⟨p.cond.nm.toArray⟩,.int .i64 p.cond.v.k,.int .i64 p.cond.v.n,.string ⟨p.cond.v.t.toArray⟩,.string ⟨p.cond.op.toArray⟩,.slice a1 p.cond.xs.length ac1,.slice a2 p.names.length ac2,.slice a3 p.exprs.length ac3,.slice a4 p.on.length ac4,.slice a5 p.aggs.length ac5,.slice a6 p.ord.length ac6,.int .i64 p.cnt]] W (StrIs T W)):=fun W hW=>by
  have:=zgn p hl1 (some ⟨bb,bo,none⟩) a1 a2 a3 a4 a5 a6 ac0 ac1 ac2 ac3 ac4 ac5 ac6 W ok (PlRep.below hA hW);rw[HV.out]at this;unfold StrTo at this;rw[hT]at this;exact this
 obtain ⟨R,hR⟩:∃ R:ByteArray,(⟨(zav [sLeft,partT (b,textQ b),sOn,joinS [44,32] (p.on.map pairT)]).toArray⟩:ByteArray)=R:=⟨_,rfl⟩;have HWD:Hid (∀ W g,Box W g [.string ⟨#[108,101,102,116]⟩,.string U,.string ⟨#[111,110]⟩,.string T]→Calls Tryz.prog 99 #[.slice (some ⟨g,0,none⟩) 4 4] W (fun e w'=>e=.returned (.string R)∧Kept (fun b=>b=g) W w')):=fun W g hb=>by
  have:=zbx [sLeft,partT (b,textQ b),sOn,joinS [44,32] (p.on.map pairT)] g W (by show Box W g [strV (sLeft),strV (partT (b,textQ b)),strV (sOn),strV (joinS [44,32] (p.on.map pairT))];unfold strV;rw[hT,hU];exact hb) (by show 4≤1000000;decide) (by omega);unfold zcd at this;rw[hR]at this;exact this
 have HRR:=hid hR;have hac:2≤ac0:=by obtain ⟨_,_,e,h1,_⟩:=(show PlRep w ok p (.slice (some ⟨bb,bo,none⟩) p.xs.length ac0) (.slice a1 p.cond.xs.length ac1) (.slice a2 p.names.length ac2) (.slice a3 p.exprs.length ac3) (.slice a4 p.on.length ac4) (.slice a5 p.aggs.length ac5) (.slice a6 p.ord.length ac6) from hA).args.len;injection e with _ e2 e3;rw[zaP,List.length_map,hm]at h1;omega
 clear hb hob hl1 hl2 hT hU hxs hb1 hbA hbc;rw[HV.out];clear hA hE hlen hk hm HV hR;go_enter func97,ntmps97
 go_wp2_with (first|(refine St.w_box (vs:=[.int .i64 5,.string ⟨p.nm.toArray⟩,.slice (some ⟨bb,bo,none⟩) 2 ac0,.int .i64 p.cond.k,.string ⟨p.cond.nm.toArray⟩,.int .i64 p.cond.v.k,.int .i64 p.cond.v.n,.string ⟨p.cond.v.t.toArray⟩,.string ⟨p.cond.op.toArray⟩,.slice a1 p.cond.xs.length ac1,.slice a2 p.names.length ac2,.slice a3 p.exprs.length ac3,.slice a4 p.on.length ac4,.slice a5 p.aggs.length ac5,.slice a6 p.ord.length ac6,.int .i64 p.cnt]) H.out (by rfl) rfl rfl rfl ?_;intro wn X _ _ H2;replace H:=hid H2;clear H2)|(refine St.w_load1 (ty:=52) H.out (by rfl) rfl rfl 0 rfl rfl uSPl_ ?_)|(refine St.w_load1 (ty:=3) H.out (by rfl) rfl rfl 0 rfl rfl uInt_ ?_)|(refine zar (by rfl) (ty:=57) rfl rfl (hbcell.out _ (zab H.out)) uPl_ sPl_ ?_)|(refine St.w_load (ty:=57) H.out (by rfl) rfl rfl 0 rfl uPl_ sPl_ ?_)|(go_at_call 122;(with_reducible (refine (HU.out _ (zab H.out)).mono ?_));rintro e wc ⟨rfl,hb9⟩;replace H:=hid (H.out.below hb9);clear hb9)|(go_at_call 124;(with_reducible (refine (HT.out _ (zab H.out)).mono ?_));rintro e wc ⟨rfl,hb9⟩;replace H:=hid (H.out.below hb9);clear hb9)|(refine St.w_lit H.out (by rfl) rfl underlying48 iS2_ [.string ⟨#[108,101,102,116]⟩,.string U,.string ⟨#[111,110]⟩,.string T] rfl rfl rfl (by decide) (by decide) (by decide) (all_k rfl) rfl ?_;intro wl Cl _ H2;replace H:=hid H2;clear H2)|(go_at_call 99;(with_reducible (refine (HWD.out _ _ (H.out.at (i:=0) rfl)).mono ?_));rintro e wc ⟨rfl,hk9⟩;replace H:=hid (H.out.lent hk9);clear hk9))
 go_ret
 rw[← HRR.out];exact ⟨rfl,zab H.out⟩
theorem zqn (p:Pl) (hk:p.k=7) (hm:p.xs.length=2) (a b:Pl) (hxs:p.xs=[a,b]) (hb:QxOk b) (hob:OkQ b) (a0 a1 a2 a3 a4 a5 a6:Option Addr) (ac0 ac1 ac2 ac3 ac4 ac5 ac6:Nat) (w:World) (ok:Nat→Prop) (hA:PlAt w ok p a0 ac0 a1 ac1 a2 ac2 a3 ac3 a4 ac4 a5 ac5 a6 ac6) (hE:EnvX w) (hlen:(zav [zbq,partT (b,textQ b)]).length≤1000000) :
 Calls Tryz.prog 97 #[plV p a0 ac0 a1 ac1 a2 ac2 a3 ac3 a4 ac4 a5 ac5 a6 ac6] w (StrTo (zav [zbq,partT (b,textQ b)]) w):=by
 have H:=hid (St.start (S:=fun _=>False) w);have HV:=hid (plV_k (p:=p) (a0:=a0) (ac0:=ac0) (a1:=a1) (ac1:=ac1) (a2:=a2) (ac2:=ac2) (a3:=a3) (ac3:=ac3) (a4:=a4) (ac4:=ac4) (a5:=a5) (ac5:=ac5) (a6:=a6) (ac6:=ac6) hk hm);obtain ⟨U,hU⟩:∃ T:ByteArray,(⟨(partT (b,textQ b)).toArray⟩:ByteArray)=T:=⟨_,rfl⟩;have hl2:=Nat.le_trans (za5 (l:=[zbq,partT (b,textQ b)]) (a:=partT (b,textQ b)) (by simp)) hlen;have hb1:p.xs[1]?=some b:=by rw[hxs];rfl
 obtain ⟨bb,bo,b0,bc0,b1,bc1,b2,bc2,b3,bc3,b4,bc4,b5,bc5,b6,bc6,rfl,_,_,hbA,hbc⟩:=arg16 (show PlRep w ok p (.slice a0 p.xs.length ac0) (.slice a1 p.cond.xs.length ac1) (.slice a2 p.names.length ac2) (.slice a3 p.exprs.length ac3) (.slice a4 p.on.length ac4) (.slice a5 p.aggs.length ac5) (.slice a6 p.ord.length ac6) from hA).args hb1;have hbcell:Hid (∀ W,Below w.heap.size w W→∀ (j:Nat) (v:Value),(plC b (.slice b0 b.xs.length bc0) (.slice b1 b.cond.xs.length bc1) (.slice b2 b.names.length bc2) (.slice b3 b.exprs.length bc3) (.slice b4 b.on.length bc4) (.slice b5 b.aggs.length bc5) (.slice b6 b.ord.length bc6))[j]?=some v→W.cell? ⟨bb,bo+16+j,none⟩=some v):=fun W hW j v hv=>by
  have h1:=hbc j v hv;rw[Nat.one_mul]at h1;exact (hW.cell (zbw h1)).trans h1
 have HU:Hid (∀ W,Below w.heap.size w W→Calls Tryz.prog 122 #[plV b b0 bc0 b1 bc1 b2 bc2 b3 bc3 b4 bc4 b5 bc5 b6 bc6] W (StrIs U W)):=fun W hW=>by
  have:=zfI b hb b0 b1 b2 b3 b4 b5 b6 bc0 bc1 bc2 bc3 bc4 bc5 bc6 W ok (PlRep.below hbA hW) (hE.below hW) hob hl2;unfold StrTo at this;rw[hU]at this;exact this
 obtain ⟨R,hR⟩:∃ R:ByteArray,(⟨(zav [zbq,partT (b,textQ b)]).toArray⟩:ByteArray)=R:=⟨_,rfl⟩;have HWD:Hid (∀ W g,Box W g [.string ⟨#[117,110,105,111,110]⟩,.string U]→Calls Tryz.prog 99 #[.slice (some ⟨g,0,none⟩) 2 2] W (fun e w'=>e=.returned (.string R)∧Kept (fun b=>b=g) W w')):=fun W g hb=>by
  have:=zbx [zbq,partT (b,textQ b)] g W (by show Box W g [strV (zbq),strV (partT (b,textQ b))];unfold strV;rw[hU];exact hb) (by show 2≤1000000;decide) (by omega);unfold zcd at this;rw[hR]at this;exact this
 have HRR:=hid hR;have hac:2≤ac0:=by obtain ⟨_,_,e,h1,_⟩:=(show PlRep w ok p (.slice (some ⟨bb,bo,none⟩) p.xs.length ac0) (.slice a1 p.cond.xs.length ac1) (.slice a2 p.names.length ac2) (.slice a3 p.exprs.length ac3) (.slice a4 p.on.length ac4) (.slice a5 p.aggs.length ac5) (.slice a6 p.ord.length ac6) from hA).args.len;injection e with _ e2 e3;rw[zaP,List.length_map,hm]at h1;omega
 clear hb hob hl2 hU hxs hb1 hbA hbc;rw[HV.out];clear hA hE hlen hk hm HV hR;go_enter func97,ntmps97
 go_wp2_with (first|(refine St.w_box (vs:=[.int .i64 7,.string ⟨p.nm.toArray⟩,.slice (some ⟨bb,bo,none⟩) 2 ac0,.int .i64 p.cond.k,.string ⟨p.cond.nm.toArray⟩,.int .i64 p.cond.v.k,.int .i64 p.cond.v.n,.string ⟨p.cond.v.t.toArray⟩,.string ⟨p.cond.op.toArray⟩,.slice a1 p.cond.xs.length ac1,.slice a2 p.names.length ac2,.slice a3 p.exprs.length ac3,.slice a4 p.on.length ac4,.slice a5 p.aggs.length ac5,.slice a6 p.ord.length ac6,.int .i64 p.cnt]) H.out (by rfl) rfl rfl rfl ?_;intro wn X _ _ H2;replace H:=hid H2;clear H2)|(refine St.w_load1 (ty:=52) H.out (by rfl) rfl rfl 0 rfl rfl uSPl_ ?_)|(refine St.w_load1 (ty:=3) H.out (by rfl) rfl rfl 0 rfl rfl uInt_ ?_)|(refine zar (by rfl) (ty:=57) rfl rfl (hbcell.out _ (zab H.out)) uPl_ sPl_ ?_)|(go_at_call 122;(with_reducible (refine (HU.out _ (zab H.out)).mono ?_));rintro e wc ⟨rfl,hb9⟩;replace H:=hid (H.out.below hb9);clear hb9)|(refine St.w_lit H.out (by rfl) rfl underlying48 iS2_ [.string ⟨#[117,110,105,111,110]⟩,.string U] rfl rfl rfl (by decide) (by decide) (by decide) (all_k rfl) rfl ?_;intro wl Cl _ H2;replace H:=hid H2;clear H2)|(go_at_call 99;(with_reducible (refine (HWD.out _ _ (H.out.at (i:=0) rfl)).mono ?_));rintro e wc ⟨rfl,hk9⟩;replace H:=hid (H.out.lent hk9);clear hk9))
 go_ret
 rw[← HRR.out];exact ⟨rfl,zab H.out⟩
theorem zqm (p:Pl) (hk:p.k=8) (hm:p.xs.length=1) (a0 a1 a2 a3 a4 a5 a6:Option Addr) (ac0 ac1 ac2 ac3 ac4 ac5 ac6:Nat) (w:World) :
 Calls Tryz.prog 97 #[plV p a0 ac0 a1 ac1 a2 ac2 a3 ac3 a4 ac4 a5 ac5 a6 ac6] w (StrTo zaE w):=by
 have H:=hid (St.start (S:=fun _=>False) w);have HV:=hid (plV_k (p:=p) (a0:=a0) (ac0:=ac0) (a1:=a1) (ac1:=ac1) (a2:=a2) (ac2:=ac2) (a3:=a3) (ac3:=ac3) (a4:=a4) (ac4:=ac4) (a5:=a5) (ac5:=ac5) (a6:=a6) (ac6:=ac6) hk hm);rw[HV.out];clear hk hm HV;go_enter func97,ntmps97
 go_wp2_with (first|(refine St.w_box (vs:=[.int .i64 8,.string ⟨p.nm.toArray⟩,.slice a0 1 ac0,.int .i64 p.cond.k,.string ⟨p.cond.nm.toArray⟩,.int .i64 p.cond.v.k,.int .i64 p.cond.v.n,.string ⟨p.cond.v.t.toArray⟩,.string ⟨p.cond.op.toArray⟩,.slice a1 p.cond.xs.length ac1,.slice a2 p.names.length ac2,.slice a3 p.exprs.length ac3,.slice a4 p.on.length ac4,.slice a5 p.aggs.length ac5,.slice a6 p.ord.length ac6,.int .i64 p.cnt]) H.out (by rfl) rfl rfl rfl ?_;intro wn X _ _ H2;replace H:=hid H2;clear H2)|(refine St.w_load1 (ty:=52) H.out (by rfl) rfl rfl 0 rfl rfl uSPl_ ?_)|(refine St.w_load1 (ty:=3) H.out (by rfl) rfl rfl 0 rfl rfl uInt_ ?_))
 go_ret
 exact ⟨rfl,zab H.out⟩
theorem zqo (p:Pl) (hk:p.k=6) (hm:p.xs.length=1) (a0 a1 a2 a3 a4 a5 a6:Option Addr) (ac0 ac1 ac2 ac3 ac4 ac5 ac6:Nat) (w:World) (ok:Nat→Prop) (hA:PlAt w ok p a0 ac0 a1 ac1 a2 ac2 a3 ac3 a4 ac4 a5 ac5 a6 ac6) (hE:EnvX w) (hlen:(zav [zbm,joinS [44,32] p.names,[58],joinS [44,32] (p.aggs.map aggT)]).length≤1000000) :
 Calls Tryz.prog 97 #[plV p a0 ac0 a1 ac1 a2 ac2 a3 ac3 a4 ac4 a5 ac5 a6 ac6] w (StrTo (zav [zbm,joinS [44,32] p.names,[58],joinS [44,32] (p.aggs.map aggT)]) w):=by
 have H:=hid (St.start (S:=fun _=>False) w);have HV:=hid (plV_k (p:=p) (a0:=a0) (ac0:=ac0) (a1:=a1) (ac1:=ac1) (a2:=a2) (ac2:=ac2) (a3:=a3) (ac3:=ac3) (a4:=a4) (ac4:=ac4) (a5:=a5) (ac5:=ac5) (a6:=a6) (ac6:=ac6) hk hm);obtain ⟨U,hU⟩:∃ T:ByteArray,(⟨(joinS [44,32] p.names).toArray⟩:ByteArray)=T:=⟨_,rfl⟩;obtain ⟨T,hT⟩:∃ T:ByteArray,(⟨(joinS [44,32] (p.aggs.map aggT)).toArray⟩:ByteArray)=T:=⟨_,rfl⟩;have hl1:=Nat.le_trans (za5 (l:=[zbm,joinS [44,32] p.names,[58],joinS [44,32] (p.aggs.map aggT)]) (a:=joinS [44,32] (p.aggs.map aggT)) (by simp)) hlen;have hl2:=Nat.le_trans (za5 (l:=[zbm,joinS [44,32] p.names,[58],joinS [44,32] (p.aggs.map aggT)]) (a:=joinS [44,32] p.names) (by simp)) hlen;have hcn:p.names.length≤600000:=by have:=zb7 p.names;omega
 have HU:Hid (∀ W,Below w.heap.size w W→Calls Tryz.prog 84 #[.slice a2 p.names.length ac2,.string ⟨#[44,32]⟩] W (StrIs U W)):=fun W hW=>by
  have:=zcn [44,32] zdk p.names a2 ac2 W ok ((show PlRep w ok p (.slice a0 p.xs.length ac0) (.slice a1 p.cond.xs.length ac1) (.slice a2 p.names.length ac2) (.slice a3 p.exprs.length ac3) (.slice a4 p.on.length ac4) (.slice a5 p.aggs.length ac5) (.slice a6 p.ord.length ac6) from hA).names.kept (S:=fun _=>False) (Kept.of_below hW) (fun _ _ _ x=>x)) (by omega) (by omega);unfold StrTo at this;rw[hU]at this;exact this
 have HT:Hid (∀ W,Below w.heap.size w W→Calls Tryz.prog 125 #[.agg #[.int .i64 6,.string ⟨p.nm.toArray⟩,.slice a0 1 ac0,.int .i64 p.cond.k,.string ⟨p.cond.nm.toArray⟩,.int .i64 p.cond.v.k,.int .i64 p.cond.v.n,.string ⟨p.cond.v.t.toArray⟩,.string ⟨p.cond.op.toArray⟩,.slice a1 p.cond.xs.length ac1,.slice a2 p.names.length ac2,.slice a3 p.exprs.length ac3,.slice a4 p.on.length ac4,.slice a5 p.aggs.length ac5,.slice a6 p.ord.length ac6,.int .i64 p.cnt]] W (StrIs T W)):=fun W hW=>by
  have:=zlM p hl1 a0 a1 a2 a3 a4 a5 a6 ac0 ac1 ac2 ac3 ac4 ac5 ac6 W ok (PlRep.below hA hW);rw[HV.out]at this;unfold StrTo at this;rw[hT]at this;exact this
 obtain ⟨R,hR⟩:∃ R:ByteArray,(⟨(zav [zbm,joinS [44,32] p.names,[58],joinS [44,32] (p.aggs.map aggT)]).toArray⟩:ByteArray)=R:=⟨_,rfl⟩;have HWD:Hid (∀ W g,Box W g [.string ⟨#[103,114,111,117,112]⟩,.string U,.string ⟨#[58]⟩,.string T]→Calls Tryz.prog 99 #[.slice (some ⟨g,0,none⟩) 4 4] W (fun e w'=>e=.returned (.string R)∧Kept (fun b=>b=g) W w')):=fun W g hb=>by
  have:=zbx [zbm,joinS [44,32] p.names,[58],joinS [44,32] (p.aggs.map aggT)] g W (by show Box W g [strV (zbm),strV (joinS [44,32] p.names),strV ([58]),strV (joinS [44,32] (p.aggs.map aggT))];unfold strV;rw[hT,hU];exact hb) (by show 4≤1000000;decide) (by omega);unfold zcd at this;rw[hR]at this;exact this
 have HRR:=hid hR;clear hl1 hl2 hcn hT hU;rw[HV.out];clear hA hE hlen hk hm HV hR;go_enter func97,ntmps97
 go_upto_region 14 with (first|(refine St.w_box (vs:=[.int .i64 6,.string ⟨p.nm.toArray⟩,.slice a0 1 ac0,.int .i64 p.cond.k,.string ⟨p.cond.nm.toArray⟩,.int .i64 p.cond.v.k,.int .i64 p.cond.v.n,.string ⟨p.cond.v.t.toArray⟩,.string ⟨p.cond.op.toArray⟩,.slice a1 p.cond.xs.length ac1,.slice a2 p.names.length ac2,.slice a3 p.exprs.length ac3,.slice a4 p.on.length ac4,.slice a5 p.aggs.length ac5,.slice a6 p.ord.length ac6,.int .i64 p.cnt]) H.out (by rfl) rfl rfl rfl ?_;intro wn X _ _ H2;replace H:=hid H2;clear H2)|(refine St.w_load1 (ty:=52) H.out (by rfl) rfl rfl 0 rfl rfl uSPl_ ?_)|(refine St.w_load1 (ty:=3) H.out (by rfl) rfl rfl 0 rfl rfl uInt_ ?_))
 replace H:=hid (H.out.drew);refine zaa 7 (S:=fun W=>W.cell? ⟨X,10,none⟩=some (.slice a2 p.names.length ac2)) (by kernel_rfl) (by exact (H.out.at (i:=0) rfl).cl 10 _ rfl) (fun hHeld=>?_);refine tKm 0 ?_;refine tKm 1 ?_;refine rKs [2,3] ?_;refine zac.cons rfl (fun K hK=>?_) (zac.cons rfl (fun K hK=>?_) zac.nil)
 ·go_simp;go_at_call 84
  (with_reducible (refine (HU.out _ (zab H.out)).mono ?_))
  rintro e wc ⟨rfl,hb9⟩;have H2:=H.out.below hb9;clear hb9;try dsimp only
  refine hK.out _ _ ?_ (fun hHeld2=>?_)
  ·exact (H2.at (i:=0) rfl).cl 10 _ rfl
  replace hHeld:=hHeld2;clear hK K;replace H:=hid H2;clear H2;refine rK1 3 fun K hK=>?_
  rw[if_pos (by rfl)];refine H.out.o_load (ty:=57) rfl rfl 0 rfl uPl_ sPl_ ?_;refine hK.out _ _ ?_ (fun hHeld2=>?_)
  ·exact (H.out.at (i:=0) rfl).cl 10 _ rfl
  replace hHeld:=hHeld2;clear hK K;refine rK1 4 fun K hK=>?_
  go_simp;go_at_call 125
  (with_reducible (refine (HT.out _ (zab H.out)).mono ?_))
  rintro e wc ⟨rfl,hb9⟩;have H2:=H.out.below hb9;clear hb9;try dsimp only
  refine hK.out _ _ ?_ (fun hHeld2=>?_)
  ·exact (H2.at (i:=0) rfl).cl 10 _ rfl
  replace hHeld:=hHeld2;clear hK K;replace H:=hid H2;clear H2;refine rK1 5 fun K hK=>?_
  rw[if_pos (by rfl)];refine H.out.o_lit rfl underlying48 iS2_ [.string ⟨#[103,114,111,117,112]⟩,.string U,.string ⟨#[58]⟩,.string T] rfl rfl rfl (by decide) (by decide) (by decide) (all_k rfl) rfl (fun wl Cl _ H2=>?_);refine hK.out _ _ ?_ (fun hHeld2=>?_)
  ·exact (H2.at (i:=1) rfl).cl 10 _ rfl
  replace hHeld:=hHeld2;clear hK K;replace H:=hid H2;clear H2;refine rK1 6 fun K hK=>?_
  go_simp;go_at_call 99
  (with_reducible (refine (HWD.out _ _ (H.out.at (i:=0) rfl)).mono ?_))
  rintro e wc ⟨rfl,hk9⟩;have H2:=H.out.lent hk9;clear hk9;try dsimp only
  refine hK.out _ _ ?_ (fun hHeld2=>?_)
  ·exact (H2.at (i:=0) rfl).cl 10 _ rfl
  replace hHeld:=hHeld2;clear hK K;replace H:=hid H2;clear H2;refine rKl 7 fun K hK=>?_
  go_simp;refine hK.out _ _ ?_;clear hK K;refine rKd ?_;go_wp2_with fail
  go_ret
  rw[← HRR.out];exact ⟨rfl,zab H.out⟩
 ·rw[if_pos (by rfl)];refine H.out.o_load (ty:=57) rfl rfl 0 rfl uPl_ sPl_ ?_;refine hK.out _ _ ?_ (fun hHeld2=>?_)
  ·exact (H.out.at (i:=0) rfl).cl 10 _ rfl
  replace hHeld:=hHeld2;clear hK K;refine rK1 2 fun K hK=>?_
  go_simp;go_at_call 84
  (with_reducible (refine (HU.out _ (zab H.out)).mono ?_))
  rintro e wc ⟨rfl,hb9⟩;have H2:=H.out.below hb9;clear hb9;try dsimp only
  refine hK.out _ _ ?_ (fun hHeld2=>?_)
  ·exact (H2.at (i:=0) rfl).cl 10 _ rfl
  replace hHeld:=hHeld2;clear hK K;replace H:=hid H2;clear H2;refine rK1 4 fun K hK=>?_
  go_simp;go_at_call 125
  (with_reducible (refine (HT.out _ (zab H.out)).mono ?_))
  rintro e wc ⟨rfl,hb9⟩;have H2:=H.out.below hb9;clear hb9;try dsimp only
  refine hK.out _ _ ?_ (fun hHeld2=>?_)
  ·exact (H2.at (i:=0) rfl).cl 10 _ rfl
  replace hHeld:=hHeld2;clear hK K;replace H:=hid H2;clear H2;refine rK1 5 fun K hK=>?_
  rw[if_pos (by rfl)];refine H.out.o_lit rfl underlying48 iS2_ [.string ⟨#[103,114,111,117,112]⟩,.string U,.string ⟨#[58]⟩,.string T] rfl rfl rfl (by decide) (by decide) (by decide) (all_k rfl) rfl (fun wl Cl _ H2=>?_);refine hK.out _ _ ?_ (fun hHeld2=>?_)
  ·exact (H2.at (i:=1) rfl).cl 10 _ rfl
  replace hHeld:=hHeld2;clear hK K;replace H:=hid H2;clear H2;refine rK1 6 fun K hK=>?_
  go_simp;go_at_call 99
  (with_reducible (refine (HWD.out _ _ (H.out.at (i:=0) rfl)).mono ?_))
  rintro e wc ⟨rfl,hk9⟩;have H2:=H.out.lent hk9;clear hk9;try dsimp only
  refine hK.out _ _ ?_ (fun hHeld2=>?_)
  ·exact (H2.at (i:=0) rfl).cl 10 _ rfl
  replace hHeld:=hHeld2;clear hK K;replace H:=hid H2;clear H2;refine rKl 7 fun K hK=>?_
  go_simp;refine hK.out _ _ ?_;clear hK K;refine rKd ?_;go_wp2_with fail
  go_ret
  rw[← HRR.out];exact ⟨rfl,zab H.out⟩
theorem zoj (p:Pl) (hk:p.k=9) (hm:p.xs.length=1) (hcn:0≤p.cnt) (hcx:p.cnt≤9223372036854775807) (ho:p.ord.length=0) (a0 a1 a2 a3 a4 a5 a6:Option Addr) (ac0 ac1 ac2 ac3 ac4 ac5 ac6:Nat) (w:World) (ok:Nat→Prop) (hA:PlAt w ok p a0 ac0 a1 ac1 a2 ac2 a3 ac3 a4 ac4 a5 ac5 a6 ac6) (hE:EnvX w) (hlen:(zav [za1,Lib.itoa p.cnt,[],joinS [44,32] (p.ord.map ordT)]).length≤1000000) :
 Calls Tryz.prog 97 #[plV p a0 ac0 a1 ac1 a2 ac2 a3 ac3 a4 ac4 a5 ac5 a6 ac6] w (StrTo (zav [za1,Lib.itoa p.cnt,[],joinS [44,32] (p.ord.map ordT)]) w):=by
 have H:=hid (St.start (S:=fun _=>False) w);have HV:=hid (plV_k (p:=p) (a0:=a0) (ac0:=ac0) (a1:=a1) (ac1:=ac1) (a2:=a2) (ac2:=ac2) (a3:=a3) (ac3:=ac3) (a4:=a4) (ac4:=ac4) (a5:=a5) (ac5:=ac5) (a6:=a6) (ac6:=ac6) hk hm);obtain ⟨U,hU⟩:∃ T:ByteArray,(⟨(Lib.itoa p.cnt).toArray⟩:ByteArray)=T:=⟨_,rfl⟩;obtain ⟨T,hT⟩:∃ T:ByteArray,(⟨(joinS [44,32] (p.ord.map ordT)).toArray⟩:ByteArray)=T:=⟨_,rfl⟩;have hl1:=Nat.le_trans (za5 (l:=[za1,Lib.itoa p.cnt,[],joinS [44,32] (p.ord.map ordT)]) (a:=joinS [44,32] (p.ord.map ordT)) (by simp)) hlen;have HU:Hid (∀ W,Below w.heap.size w W→Calls Tryz.prog 70 #[.int .i64 p.cnt] W (StrIs U W)):=fun W hW=>by
  have:=zf1 p.cnt (by omega) hcx W (hE.below hW).l.pow;rw[hU]at this;exact this
 have HT:Hid (∀ W,Below w.heap.size w W→Calls Tryz.prog 126 #[.agg #[.int .i64 9,.string ⟨p.nm.toArray⟩,.slice a0 1 ac0,.int .i64 p.cond.k,.string ⟨p.cond.nm.toArray⟩,.int .i64 p.cond.v.k,.int .i64 p.cond.v.n,.string ⟨p.cond.v.t.toArray⟩,.string ⟨p.cond.op.toArray⟩,.slice a1 p.cond.xs.length ac1,.slice a2 p.names.length ac2,.slice a3 p.exprs.length ac3,.slice a4 p.on.length ac4,.slice a5 p.aggs.length ac5,.slice a6 p.ord.length ac6,.int .i64 p.cnt]] W (StrIs T W)):=fun W hW=>by
  have:=zfK p hl1 a0 a1 a2 a3 a4 a5 a6 ac0 ac1 ac2 ac3 ac4 ac5 ac6 W ok (PlRep.below hA hW);rw[HV.out]at this;unfold StrTo at this;rw[hT]at this;exact this
 obtain ⟨R,hR⟩:∃ R:ByteArray,(⟨(zav [za1,Lib.itoa p.cnt,[],joinS [44,32] (p.ord.map ordT)]).toArray⟩:ByteArray)=R:=⟨_,rfl⟩;have HWD:Hid (∀ W g,Box W g [.string ⟨#[102,105,114,115,116]⟩,.string U,.string ⟨#[]⟩,.string T]→Calls Tryz.prog 99 #[.slice (some ⟨g,0,none⟩) 4 4] W (fun e w'=>e=.returned (.string R)∧Kept (fun b=>b=g) W w')):=fun W g hb=>by
  have:=zbx [za1,Lib.itoa p.cnt,[],joinS [44,32] (p.ord.map ordT)] g W (by show Box W g [strV (za1),strV (Lib.itoa p.cnt),strV ([]),strV (joinS [44,32] (p.ord.map ordT))];unfold strV;rw[hT,hU];exact hb) (by show 4≤1000000;decide) (by omega);unfold zcd at this;rw[hR]at this;exact this
 have HRR:=hid hR;have ho2:¬ (0:Int)<(p.ord.length:Int):=by omega
 clear hl1 hcn hcx hT hU ho;rw[HV.out];clear hA hE hlen hk hm HV hR;go_enter func97,ntmps97
 go_upto_region 22 with (first|(refine St.w_box (vs:=[.int .i64 9,.string ⟨p.nm.toArray⟩,.slice a0 1 ac0,.int .i64 p.cond.k,.string ⟨p.cond.nm.toArray⟩,.int .i64 p.cond.v.k,.int .i64 p.cond.v.n,.string ⟨p.cond.v.t.toArray⟩,.string ⟨p.cond.op.toArray⟩,.slice a1 p.cond.xs.length ac1,.slice a2 p.names.length ac2,.slice a3 p.exprs.length ac3,.slice a4 p.on.length ac4,.slice a5 p.aggs.length ac5,.slice a6 p.ord.length ac6,.int .i64 p.cnt]) H.out (by rfl) rfl rfl rfl ?_;intro wn X _ _ H2;replace H:=hid H2;clear H2)|(refine St.w_load1 (ty:=52) H.out (by rfl) rfl rfl 0 rfl rfl uSPl_ ?_)|(refine St.w_load1 (ty:=55) H.out (by rfl) rfl rfl 0 rfl rfl uSOr_ ?_)|(refine St.w_load1 (ty:=3) H.out (by rfl) rfl rfl 0 rfl rfl uInt_ ?_))
 replace H:=hid (H.out.drew);refine zaa 8 (S:=fun W=>W.cell? ⟨X,15,none⟩=some (.int .i64 p.cnt)) (by kernel_rfl) (by exact (H.out.at (i:=0) rfl).cl 15 _ rfl) (fun hHeld=>?_);refine tKm 0 ?_;refine tKm 1 ?_;refine tKm 3 ?_;refine rKs [2,4] ?_;refine zac.cons rfl (fun K hK=>?_) (zac.cons rfl (fun K hK=>?_) zac.nil)
 ·go_simp;go_at_call 70
  (with_reducible (refine (HU.out _ (zab H.out)).mono ?_))
  rintro e wc ⟨rfl,hb9⟩;have H2:=H.out.below hb9;clear hb9;try dsimp only
  refine hK.out _ _ ?_ (fun hHeld2=>?_)
  ·exact (H2.at (i:=0) rfl).cl 15 _ rfl
  replace hHeld:=hHeld2;clear hK K;replace H:=hid H2;clear H2;refine rK1 4 fun K hK=>?_
  rw[if_pos (by rfl)];refine H.out.o_load (ty:=57) rfl rfl 0 rfl uPl_ sPl_ ?_;refine hK.out _ _ ?_ (fun hHeld2=>?_)
  ·exact (H.out.at (i:=0) rfl).cl 15 _ rfl
  replace hHeld:=hHeld2;clear hK K;refine rK1 5 fun K hK=>?_
  go_simp;go_at_call 126
  (with_reducible (refine (HT.out _ (zab H.out)).mono ?_))
  rintro e wc ⟨rfl,hb9⟩;have H2:=H.out.below hb9;clear hb9;try dsimp only
  refine hK.out _ _ ?_ (fun hHeld2=>?_)
  ·exact (H2.at (i:=0) rfl).cl 15 _ rfl
  replace hHeld:=hHeld2;clear hK K;replace H:=hid H2;clear H2;refine rK1 6 fun K hK=>?_
  rw[if_pos (by rfl)];refine H.out.o_lit rfl underlying48 iS2_ [.string ⟨#[102,105,114,115,116]⟩,.string U,.string ⟨#[]⟩,.string T] rfl rfl rfl (by decide) (by decide) (by decide) (all_k rfl) rfl (fun wl Cl _ H2=>?_);refine hK.out _ _ ?_ (fun hHeld2=>?_)
  ·exact (H2.at (i:=1) rfl).cl 15 _ rfl
  replace hHeld:=hHeld2;clear hK K;replace H:=hid H2;clear H2;refine rK1 7 fun K hK=>?_
  go_simp;go_at_call 99
  (with_reducible (refine (HWD.out _ _ (H.out.at (i:=0) rfl)).mono ?_))
  rintro e wc ⟨rfl,hk9⟩;have H2:=H.out.lent hk9;clear hk9;try dsimp only
  refine hK.out _ _ ?_ (fun hHeld2=>?_)
  ·exact (H2.at (i:=0) rfl).cl 15 _ rfl
  replace hHeld:=hHeld2;clear hK K;replace H:=hid H2;clear H2;refine rKl 8 fun K hK=>?_
  go_simp;refine hK.out _ _ ?_;clear hK K;refine rKd ?_;go_wp2_with fail
  go_ret
  rw[← HRR.out];exact ⟨rfl,zab H.out⟩
 ·rw[if_pos (by rfl)];refine H.out.o_load (ty:=57) rfl rfl 0 rfl uPl_ sPl_ ?_;refine hK.out _ _ ?_ (fun hHeld2=>?_)
  ·exact (H.out.at (i:=0) rfl).cl 15 _ rfl
  replace hHeld:=hHeld2;clear hK K;refine rK1 2 fun K hK=>?_
  go_simp;go_at_call 70
  (with_reducible (refine (HU.out _ (zab H.out)).mono ?_))
  rintro e wc ⟨rfl,hb9⟩;have H2:=H.out.below hb9;clear hb9;try dsimp only
  refine hK.out _ _ ?_ (fun hHeld2=>?_)
  ·exact (H2.at (i:=0) rfl).cl 15 _ rfl
  replace hHeld:=hHeld2;clear hK K;replace H:=hid H2;clear H2;refine rK1 5 fun K hK=>?_
  go_simp;go_at_call 126
  (with_reducible (refine (HT.out _ (zab H.out)).mono ?_))
  rintro e wc ⟨rfl,hb9⟩;have H2:=H.out.below hb9;clear hb9;try dsimp only
  refine hK.out _ _ ?_ (fun hHeld2=>?_)
  ·exact (H2.at (i:=0) rfl).cl 15 _ rfl
  replace hHeld:=hHeld2;clear hK K;replace H:=hid H2;clear H2;refine rK1 6 fun K hK=>?_
  rw[if_pos (by rfl)];refine H.out.o_lit rfl underlying48 iS2_ [.string ⟨#[102,105,114,115,116]⟩,.string U,.string ⟨#[]⟩,.string T] rfl rfl rfl (by decide) (by decide) (by decide) (all_k rfl) rfl (fun wl Cl _ H2=>?_);refine hK.out _ _ ?_ (fun hHeld2=>?_)
  ·exact (H2.at (i:=1) rfl).cl 15 _ rfl
  replace hHeld:=hHeld2;clear hK K;replace H:=hid H2;clear H2;refine rK1 7 fun K hK=>?_
  go_simp;go_at_call 99
  (with_reducible (refine (HWD.out _ _ (H.out.at (i:=0) rfl)).mono ?_))
  rintro e wc ⟨rfl,hk9⟩;have H2:=H.out.lent hk9;clear hk9;try dsimp only
  refine hK.out _ _ ?_ (fun hHeld2=>?_)
  ·exact (H2.at (i:=0) rfl).cl 15 _ rfl
  replace hHeld:=hHeld2;clear hK K;replace H:=hid H2;clear H2;refine rKl 8 fun K hK=>?_
  go_simp;refine hK.out _ _ ?_;clear hK K;refine rKd ?_;go_wp2_with fail
  go_ret
  rw[← HRR.out];exact ⟨rfl,zab H.out⟩
theorem zoi (p:Pl) (hk:p.k=9) (hm:p.xs.length=1) (hcn:0≤p.cnt) (hcx:p.cnt≤9223372036854775807) (ho:0<p.ord.length) (a0 a1 a2 a3 a4 a5 a6:Option Addr) (ac0 ac1 ac2 ac3 ac4 ac5 ac6:Nat) (w:World) (ok:Nat→Prop) (hA:PlAt w ok p a0 ac0 a1 ac1 a2 ac2 a3 ac3 a4 ac4 a5 ac5 a6 ac6) (hE:EnvX w) (hlen:(zav [za1,Lib.itoa p.cnt,sBy,joinS [44,32] (p.ord.map ordT)]).length≤1000000) :
 Calls Tryz.prog 97 #[plV p a0 ac0 a1 ac1 a2 ac2 a3 ac3 a4 ac4 a5 ac5 a6 ac6] w (StrTo (zav [za1,Lib.itoa p.cnt,sBy,joinS [44,32] (p.ord.map ordT)]) w):=by
 have H:=hid (St.start (S:=fun _=>False) w);have HV:=hid (plV_k (p:=p) (a0:=a0) (ac0:=ac0) (a1:=a1) (ac1:=ac1) (a2:=a2) (ac2:=ac2) (a3:=a3) (ac3:=ac3) (a4:=a4) (ac4:=ac4) (a5:=a5) (ac5:=ac5) (a6:=a6) (ac6:=ac6) hk hm);obtain ⟨U,hU⟩:∃ T:ByteArray,(⟨(Lib.itoa p.cnt).toArray⟩:ByteArray)=T:=⟨_,rfl⟩;obtain ⟨T,hT⟩:∃ T:ByteArray,(⟨(joinS [44,32] (p.ord.map ordT)).toArray⟩:ByteArray)=T:=⟨_,rfl⟩;have hl1:=Nat.le_trans (za5 (l:=[za1,Lib.itoa p.cnt,sBy,joinS [44,32] (p.ord.map ordT)]) (a:=joinS [44,32] (p.ord.map ordT)) (by simp)) hlen;have HU:Hid (∀ W,Below w.heap.size w W→Calls Tryz.prog 70 #[.int .i64 p.cnt] W (StrIs U W)):=fun W hW=>by
  have:=zf1 p.cnt (by omega) hcx W (hE.below hW).l.pow;rw[hU]at this;exact this
 have HT:Hid (∀ W,Below w.heap.size w W→Calls Tryz.prog 126 #[.agg #[.int .i64 9,.string ⟨p.nm.toArray⟩,.slice a0 1 ac0,.int .i64 p.cond.k,.string ⟨p.cond.nm.toArray⟩,.int .i64 p.cond.v.k,.int .i64 p.cond.v.n,.string ⟨p.cond.v.t.toArray⟩,.string ⟨p.cond.op.toArray⟩,.slice a1 p.cond.xs.length ac1,.slice a2 p.names.length ac2,.slice a3 p.exprs.length ac3,.slice a4 p.on.length ac4,.slice a5 p.aggs.length ac5,.slice a6 p.ord.length ac6,.int .i64 p.cnt]] W (StrIs T W)):=fun W hW=>by
  have:=zfK p hl1 a0 a1 a2 a3 a4 a5 a6 ac0 ac1 ac2 ac3 ac4 ac5 ac6 W ok (PlRep.below hA hW);rw[HV.out]at this;unfold StrTo at this;rw[hT]at this;exact this
 obtain ⟨R,hR⟩:∃ R:ByteArray,(⟨(zav [za1,Lib.itoa p.cnt,sBy,joinS [44,32] (p.ord.map ordT)]).toArray⟩:ByteArray)=R:=⟨_,rfl⟩;have HWD:Hid (∀ W g,Box W g [.string ⟨#[102,105,114,115,116]⟩,.string U,.string ⟨#[98,121]⟩,.string T]→Calls Tryz.prog 99 #[.slice (some ⟨g,0,none⟩) 4 4] W (fun e w'=>e=.returned (.string R)∧Kept (fun b=>b=g) W w')):=fun W g hb=>by
  have:=zbx [za1,Lib.itoa p.cnt,sBy,joinS [44,32] (p.ord.map ordT)] g W (by show Box W g [strV (za1),strV (Lib.itoa p.cnt),strV (sBy),strV (joinS [44,32] (p.ord.map ordT))];unfold strV;rw[hT,hU];exact hb) (by show 4≤1000000;decide) (by omega);unfold zcd at this;rw[hR]at this;exact this
 have HRR:=hid hR;have ho2:(0:Int)<(p.ord.length:Int):=by omega
 clear hl1 hcn hcx hT hU ho;rw[HV.out];clear hA hE hlen hk hm HV hR;go_enter func97,ntmps97
 go_upto_region 22 with (first|(refine St.w_box (vs:=[.int .i64 9,.string ⟨p.nm.toArray⟩,.slice a0 1 ac0,.int .i64 p.cond.k,.string ⟨p.cond.nm.toArray⟩,.int .i64 p.cond.v.k,.int .i64 p.cond.v.n,.string ⟨p.cond.v.t.toArray⟩,.string ⟨p.cond.op.toArray⟩,.slice a1 p.cond.xs.length ac1,.slice a2 p.names.length ac2,.slice a3 p.exprs.length ac3,.slice a4 p.on.length ac4,.slice a5 p.aggs.length ac5,.slice a6 p.ord.length ac6,.int .i64 p.cnt]) H.out (by rfl) rfl rfl rfl ?_;intro wn X _ _ H2;replace H:=hid H2;clear H2)|(refine St.w_load1 (ty:=52) H.out (by rfl) rfl rfl 0 rfl rfl uSPl_ ?_)|(refine St.w_load1 (ty:=55) H.out (by rfl) rfl rfl 0 rfl rfl uSOr_ ?_)|(refine St.w_load1 (ty:=3) H.out (by rfl) rfl rfl 0 rfl rfl uInt_ ?_))
 replace H:=hid (H.out.drew);refine zaa 8 (S:=fun W=>W.cell? ⟨X,15,none⟩=some (.int .i64 p.cnt)) (by kernel_rfl) (by exact (H.out.at (i:=0) rfl).cl 15 _ rfl) (fun hHeld=>?_);refine tKm 0 ?_;refine tKm 1 ?_;refine tKm 3 ?_;refine rKs [2,4] ?_;refine zac.cons rfl (fun K hK=>?_) (zac.cons rfl (fun K hK=>?_) zac.nil)
 ·go_simp;go_at_call 70
  (with_reducible (refine (HU.out _ (zab H.out)).mono ?_))
  rintro e wc ⟨rfl,hb9⟩;have H2:=H.out.below hb9;clear hb9;try dsimp only
  refine hK.out _ _ ?_ (fun hHeld2=>?_)
  ·exact (H2.at (i:=0) rfl).cl 15 _ rfl
  replace hHeld:=hHeld2;clear hK K;replace H:=hid H2;clear H2;refine rK1 4 fun K hK=>?_
  rw[if_pos (by rfl)];refine H.out.o_load (ty:=57) rfl rfl 0 rfl uPl_ sPl_ ?_;refine hK.out _ _ ?_ (fun hHeld2=>?_)
  ·exact (H.out.at (i:=0) rfl).cl 15 _ rfl
  replace hHeld:=hHeld2;clear hK K;refine rK1 5 fun K hK=>?_
  go_simp;go_at_call 126
  (with_reducible (refine (HT.out _ (zab H.out)).mono ?_))
  rintro e wc ⟨rfl,hb9⟩;have H2:=H.out.below hb9;clear hb9;try dsimp only
  refine hK.out _ _ ?_ (fun hHeld2=>?_)
  ·exact (H2.at (i:=0) rfl).cl 15 _ rfl
  replace hHeld:=hHeld2;clear hK K;replace H:=hid H2;clear H2;refine rK1 6 fun K hK=>?_
  rw[if_pos (by rfl)];refine H.out.o_lit rfl underlying48 iS2_ [.string ⟨#[102,105,114,115,116]⟩,.string U,.string ⟨#[98,121]⟩,.string T] rfl rfl rfl (by decide) (by decide) (by decide) (all_k rfl) rfl (fun wl Cl _ H2=>?_);refine hK.out _ _ ?_ (fun hHeld2=>?_)
  ·exact (H2.at (i:=1) rfl).cl 15 _ rfl
  replace hHeld:=hHeld2;clear hK K;replace H:=hid H2;clear H2;refine rK1 7 fun K hK=>?_
  go_simp;go_at_call 99
  (with_reducible (refine (HWD.out _ _ (H.out.at (i:=0) rfl)).mono ?_))
  rintro e wc ⟨rfl,hk9⟩;have H2:=H.out.lent hk9;clear hk9;try dsimp only
  refine hK.out _ _ ?_ (fun hHeld2=>?_)
  ·exact (H2.at (i:=0) rfl).cl 15 _ rfl
  replace hHeld:=hHeld2;clear hK K;replace H:=hid H2;clear H2;refine rKl 8 fun K hK=>?_
  go_simp;refine hK.out _ _ ?_;clear hK K;refine rKd ?_;go_wp2_with fail
  go_ret
  rw[← HRR.out];exact ⟨rfl,zab H.out⟩
 ·rw[if_pos (by rfl)];refine H.out.o_load (ty:=57) rfl rfl 0 rfl uPl_ sPl_ ?_;refine hK.out _ _ ?_ (fun hHeld2=>?_)
  ·exact (H.out.at (i:=0) rfl).cl 15 _ rfl
  replace hHeld:=hHeld2;clear hK K;refine rK1 2 fun K hK=>?_
  go_simp;go_at_call 70
  (with_reducible (refine (HU.out _ (zab H.out)).mono ?_))
  rintro e wc ⟨rfl,hb9⟩;have H2:=H.out.below hb9;clear hb9;try dsimp only
  refine hK.out _ _ ?_ (fun hHeld2=>?_)
  ·exact (H2.at (i:=0) rfl).cl 15 _ rfl
  replace hHeld:=hHeld2;clear hK K;replace H:=hid H2;clear H2;refine rK1 5 fun K hK=>?_
  go_simp;go_at_call 126
  (with_reducible (refine (HT.out _ (zab H.out)).mono ?_))
  rintro e wc ⟨rfl,hb9⟩;have H2:=H.out.below hb9;clear hb9;try dsimp only
  refine hK.out _ _ ?_ (fun hHeld2=>?_)
  ·exact (H2.at (i:=0) rfl).cl 15 _ rfl
  replace hHeld:=hHeld2;clear hK K;replace H:=hid H2;clear H2;refine rK1 6 fun K hK=>?_
  rw[if_pos (by rfl)];refine H.out.o_lit rfl underlying48 iS2_ [.string ⟨#[102,105,114,115,116]⟩,.string U,.string ⟨#[98,121]⟩,.string T] rfl rfl rfl (by decide) (by decide) (by decide) (all_k rfl) rfl (fun wl Cl _ H2=>?_);refine hK.out _ _ ?_ (fun hHeld2=>?_)
  ·exact (H2.at (i:=1) rfl).cl 15 _ rfl
  replace hHeld:=hHeld2;clear hK K;replace H:=hid H2;clear H2;refine rK1 7 fun K hK=>?_
  go_simp;go_at_call 99
  (with_reducible (refine (HWD.out _ _ (H.out.at (i:=0) rfl)).mono ?_))
  rintro e wc ⟨rfl,hk9⟩;have H2:=H.out.lent hk9;clear hk9;try dsimp only
  refine hK.out _ _ ?_ (fun hHeld2=>?_)
  ·exact (H2.at (i:=0) rfl).cl 15 _ rfl
  replace hHeld:=hHeld2;clear hK K;replace H:=hid H2;clear H2;refine rKl 8 fun K hK=>?_
  go_simp;refine hK.out _ _ ?_;clear hK K;refine rKd ?_;go_wp2_with fail
  go_ret
  rw[← HRR.out];exact ⟨rfl,zab H.out⟩
theorem zlA (p:Pl) (ih:∀ b∈p.xs,QxOk b) (a0 a1 a2 a3 a4 a5 a6:Option Addr) (ac0 ac1 ac2 ac3 ac4 ac5 ac6:Nat) (w:World) (ok:Nat→Prop) (hA:PlAt w ok p a0 ac0 a1 ac1 a2 ac2 a3 ac3 a4 ac4 a5 ac5 a6 ac6) (hE:EnvX w) (hp:OkQ p) (h1:p.k≠1) (hlen:(stepT p (secT (p.xs.map fun a=>(a,textQ a)).tail)).length≤1000000) :
 Calls Tryz.prog 97 #[plV p a0 ac0 a1 ac1 a2 ac2 a3 ac3 a4 ac4 a5 ac5 a6 ac6] w (StrTo (stepT p (secT (p.xs.map fun a=>(a,textQ a)).tail)) w):=by
 cases hp with
 | scan n h=>exact absurd rfl h1
 | where_ a x ha hx=>exact zqs (.mk 2 [] [a] x [] [] [] [] [] 0) rfl rfl hx.1 a0 a1 a2 a3 a4 a5 a6 ac0 ac1 ac2 ac3 ac4 ac5 ac6 w ok hA hE hlen
 | keep a ns xs ha hl h0 hx hn=>exact zqr (.mk 3 [] [a] zEx ns xs [] [] [] 0) rfl rfl (fun e he=>(hx e he).1) hl a0 a1 a2 a3 a4 a5 a6 ac0 ac1 ac2 ac3 ac4 ac5 ac6 w ok hA hE hlen
 | join k a b on hk ha hb h0 ho =>
  rcases hk with rfl|rfl
  ·exact zqq (.mk 4 [] [a,b] zEx [] [] on [] [] 0) rfl rfl a b rfl (ih b (by simp[Pl.xs])) hb a0 a1 a2 a3 a4 a5 a6 ac0 ac1 ac2 ac3 ac4 ac5 ac6 w ok hA hE hlen
  ·exact zqp (.mk 5 [] [a,b] zEx [] [] on [] [] 0) rfl rfl a b rfl (ih b (by simp[Pl.xs])) hb a0 a1 a2 a3 a4 a5 a6 ac0 ac1 ac2 ac3 ac4 ac5 ac6 w ok hA hE hlen
 | group a ns gs ha hn hg=>exact zqo (.mk 6 [] [a] zEx ns [] [] gs [] 0) rfl rfl a0 a1 a2 a3 a4 a5 a6 ac0 ac1 ac2 ac3 ac4 ac5 ac6 w ok hA hE hlen
 | union a b ha hb=>exact zqn (.mk 7 [] [a,b] zEx [] [] [] [] [] 0) rfl rfl a b rfl (ih b (by simp[Pl.xs])) hb a0 a1 a2 a3 a4 a5 a6 ac0 ac1 ac2 ac3 ac4 ac5 ac6 w ok hA hE hlen
 | dist a ha=>exact zqm (.mk 8 [] [a] zEx [] [] [] [] [] 0) rfl rfl a0 a1 a2 a3 a4 a5 a6 ac0 ac1 ac2 ac3 ac4 ac5 ac6 w
 | first a n os ha h0 h1' ho =>
  cases os with
  | nil=>exact zoj (.mk 9 [] [a] zEx [] [] [] [] [] n) rfl rfl h0 h1' rfl a0 a1 a2 a3 a4 a5 a6 ac0 ac1 ac2 ac3 ac4 ac5 ac6 w ok hA hE hlen
  | cons x os=>exact zoi (.mk 9 [] [a] zEx [] [] [] [] (x::os) n) rfl rfl h0 h1' (Nat.succ_pos _) a0 a1 a2 a3 a4 a5 a6 ac0 ac1 ac2 ac3 ac4 ac5 ac6 w ok hA hE hlen
theorem zkE (n:Str):QxOk (scanL n):=fun a0 a1 a2 a3 a4 a5 a6 ac0 ac1 ac2 ac3 ac4 ac5 ac6 w ok hA hE hp hlen=>by
 have H:=hid (St.start (S:=fun _=>False) w);have HV:=hid (plV_k (p:=scanL n) (a0:=a0) (ac0:=ac0) (a1:=a1) (ac1:=ac1) (a2:=a2) (ac2:=ac2) (a3:=a3) (ac3:=ac3) (a4:=a4) (ac4:=ac4) (a5:=a5) (ac5:=ac5) (a6:=a6) (ac6:=ac6) (K:=1) (m:=0) rfl rfl);rw[zdo];rw[HV.out];have HN:Hid ((scanL n).nm=n):=rfl;obtain ⟨p,hpp⟩:∃ p,scanL n=p:=⟨_,rfl⟩;rw[hpp]at HN ⊢;clear hA hE hp hlen HV hpp;go_enter func72,ntmps72
 go_wp2_with (first|(refine St.w_box (vs:=[.int .i64 1,.string ⟨p.nm.toArray⟩,.slice a0 0 ac0,.int .i64 p.cond.k,.string ⟨p.cond.nm.toArray⟩,.int .i64 p.cond.v.k,.int .i64 p.cond.v.n,.string ⟨p.cond.v.t.toArray⟩,.string ⟨p.cond.op.toArray⟩,.slice a1 p.cond.xs.length ac1,.slice a2 p.names.length ac2,.slice a3 p.exprs.length ac3,.slice a4 p.on.length ac4,.slice a5 p.aggs.length ac5,.slice a6 p.ord.length ac6,.int .i64 p.cnt]) H.out (by rfl) rfl rfl rfl ?_;intro wn X _ _ H2;replace H:=hid H2;clear H2)|(refine St.w_load1 (ty:=3) H.out (by rfl) rfl rfl 0 rfl rfl uInt_ ?_)|(refine St.w_load1 (ty:=9) H.out (by rfl) rfl rfl 0 rfl rfl uStr_ ?_)|(refine St.w_load1 (ty:=52) H.out (by rfl) rfl rfl 0 rfl rfl uSPl_ ?_))
 go_ret
 have hn:=HN.out;subst hn;exact ⟨rfl,zab H.out⟩
theorem zgg (p a:Pl) (m:Nat) (h1:p.k≠1) (hm:p.xs.length=m+1) (ha:p.xs[0]?=some a) (ih:∀ b∈p.xs,QxOk b) (hoa:OkQ a) (st:Str) (htx:textQ p=textQ a++([32,124,32]++st)) (hst:∀ (a0 a1 a2 a3 a4 a5 a6:Option Addr) (ac0 ac1 ac2 ac3 ac4 ac5 ac6:Nat) (w:World) (ok:Nat→Prop),PlAt w ok p a0 ac0 a1 ac1 a2 ac2 a3 ac3 a4 ac4 a5 ac5 a6 ac6→EnvX w→st.length≤1000000→Calls Tryz.prog 97 #[plV p a0 ac0 a1 ac1 a2 ac2 a3 ac3 a4 ac4 a5 ac5 a6 ac6] w (StrTo st w)):QxOk p:=fun a0 a1 a2 a3 a4 a5 a6 ac0 ac1 ac2 ac3 ac4 ac5 ac6 w ok hA hE hp hlen=>by
 obtain ⟨K,hk⟩:∃ K,p.k=K:=⟨_,rfl⟩;have HV:=hid (plV_k (p:=p) (a0:=a0) (ac0:=ac0) (a1:=a1) (ac1:=ac1) (a2:=a2) (ac2:=ac2) (a3:=a3) (ac3:=ac3) (a4:=a4) (ac4:=ac4) (a5:=a5) (ac5:=ac5) (a6:=a6) (ac6:=ac6) hk hm);obtain ⟨bb,bo,b0,bc0,b1,bc1,b2,bc2,b3,bc3,b4,bc4,b5,bc5,b6,bc6,rfl,_,_,hbA,hbc⟩:=arg16 (show PlRep w ok p (.slice a0 p.xs.length ac0) (.slice a1 p.cond.xs.length ac1) (.slice a2 p.names.length ac2) (.slice a3 p.exprs.length ac3) (.slice a4 p.on.length ac4) (.slice a5 p.aggs.length ac5) (.slice a6 p.ord.length ac6) from hA).args ha
 have hac:m+1≤ac0:=by obtain ⟨_,_,e,h1,_⟩:=(show PlRep w ok p (.slice (some ⟨bb,bo,none⟩) p.xs.length ac0) (.slice a1 p.cond.xs.length ac1) (.slice a2 p.names.length ac2) (.slice a3 p.exprs.length ac3) (.slice a4 p.on.length ac4) (.slice a5 p.aggs.length ac5) (.slice a6 p.ord.length ac6) from hA).args.len;injection e with _ e2 e3;rw[zaP,List.length_map,hm]at h1;omega
 rw[htx]at hlen;have hl1:(textQ a).length≤1000000:=by simp at hlen;omega
 have hl2:st.length≤1000000:=by simp at hlen;omega
 obtain ⟨U,hU⟩:∃ T:ByteArray,(⟨(textQ a).toArray⟩:ByteArray)=T:=⟨_,rfl⟩;obtain ⟨T,hT⟩:∃ T:ByteArray,(⟨(st).toArray⟩:ByteArray)=T:=⟨_,rfl⟩;have hUs:U.size≤1000000:=by rw[← hU,sz_mk];exact hl1
 have hTs:T.size≤1000000:=by rw[← hT,sz_mk];exact hl2
 have HU:Hid (∀ W,Below w.heap.size w W→Calls Tryz.prog 72 #[plV a b0 bc0 b1 bc1 b2 bc2 b3 bc3 b4 bc4 b5 bc5 b6 bc6] W (StrIs U W)):=fun W hW=>by
  have:=ih a (List.mem_of_getElem? ha) b0 b1 b2 b3 b4 b5 b6 bc0 bc1 bc2 bc3 bc4 bc5 bc6 W ok (PlRep.below hbA hW) (hE.below hW) hoa hl1;unfold StrTo at this;rw[hU]at this;exact this
 have HT:Hid (∀ W,Below w.heap.size w W→Calls Tryz.prog 97 #[.agg #[.int .i64 K,.string ⟨p.nm.toArray⟩,.slice (some ⟨bb,bo,none⟩) (m+1) ac0,.int .i64 p.cond.k,.string ⟨p.cond.nm.toArray⟩,.int .i64 p.cond.v.k,.int .i64 p.cond.v.n,.string ⟨p.cond.v.t.toArray⟩,.string ⟨p.cond.op.toArray⟩,.slice a1 p.cond.xs.length ac1,.slice a2 p.names.length ac2,.slice a3 p.exprs.length ac3,.slice a4 p.on.length ac4,.slice a5 p.aggs.length ac5,.slice a6 p.ord.length ac6,.int .i64 p.cnt]] W (StrIs T W)):=fun W hW=>by
  have:=hst (some ⟨bb,bo,none⟩) a1 a2 a3 a4 a5 a6 ac0 ac1 ac2 ac3 ac4 ac5 ac6 W ok (PlRep.below hA hW) (hE.below hW) hl2;rw[HV.out]at this;unfold StrTo at this;rw[hT]at this;exact this
 have HW:Hid ((U++⟨#[32,124,32]⟩)++T=⟨(textQ p).toArray⟩):=by
  show _=_
  rw[← hU,← hT,htx];show ((⟨(textQ a).toArray⟩:ByteArray)++⟨([32,124,32]:Str).toArray⟩)++⟨st.toArray⟩=_
  rw[za4,za4];congr 2
  simp[List.append_assoc]
 have HBC:Hid (∀ (j:Nat) (v:Value),(plC a (.slice b0 a.xs.length bc0) (.slice b1 a.cond.xs.length bc1) (.slice b2 a.names.length bc2) (.slice b3 a.exprs.length bc3) (.slice b4 a.on.length bc4) (.slice b5 a.aggs.length bc5) (.slice b6 a.ord.length bc6))[j]?=some v→w.cell? ⟨bb,bo+j,none⟩=some v):=fun j v hv=>by
  have h1:=hbc j v hv;rw[Nat.zero_mul,Nat.add_zero]at h1;exact h1
 have hK:(K == 1)=false:=by rw[← hk];simpa using h1
 have hs1:¬ 9223372036854775807<U.size+3:=by omega
 have hs2:¬ 9223372036854775807<U.size+3+T.size:=by omega
 have hm0:((m:Int)+1 == 0)=false:=by simp;omega
 have hm1:(0:Int)<(m:Int)+1:=by omega
 have hm2:(0:Nat)<m+1:=by omega
 rw[HV.out];have H:=hid (St.start (S:=fun _=>False) w);have HBCW:Hid (∀ W,Below w.heap.size w W→∀ (j:Nat) (v:Value),(plC a (.slice b0 a.xs.length bc0) (.slice b1 a.cond.xs.length bc1) (.slice b2 a.names.length bc2) (.slice b3 a.exprs.length bc3) (.slice b4 a.on.length bc4) (.slice b5 a.aggs.length bc5) (.slice b6 a.ord.length bc6))[j]?=some v→W.cell? ⟨bb,bo+j,none⟩=some v):=fun W hW j v hv=>(hW.cell (zbw (HBC.out j v hv))).trans (HBC.out j v hv)
 clear h1 hk hm ha ih hoa hst hA hE hp hlen hl1 hl2 hbA hbc hU hT HV htx HBC;go_enter func72,ntmps72
 go_upto_region 3 with (first|(refine St.w_box (vs:=[.int .i64 K,.string ⟨p.nm.toArray⟩,.slice (some ⟨bb,bo,none⟩) (m+1) ac0,.int .i64 p.cond.k,.string ⟨p.cond.nm.toArray⟩,.int .i64 p.cond.v.k,.int .i64 p.cond.v.n,.string ⟨p.cond.v.t.toArray⟩,.string ⟨p.cond.op.toArray⟩,.slice a1 p.cond.xs.length ac1,.slice a2 p.names.length ac2,.slice a3 p.exprs.length ac3,.slice a4 p.on.length ac4,.slice a5 p.aggs.length ac5,.slice a6 p.ord.length ac6,.int .i64 p.cnt]) H.out (by rfl) rfl rfl rfl ?_;intro wn X _ _ H2;replace H:=hid H2;clear H2)|(refine St.w_load1 (ty:=52) H.out (by rfl) rfl rfl 0 rfl rfl uSPl_ ?_)|(refine St.w_load1 (ty:=3) H.out (by rfl) rfl rfl 0 rfl rfl uInt_ ?_))
 replace H:=hid (H.out.drew);refine zaa 9 (S:=fun W=>W.cell? ⟨X,2,none⟩=some (.slice (some ⟨bb,bo,none⟩) (m+1) ac0)) (by kernel_rfl) (by exact (H.out.at (i:=0) rfl).cl 2 _ rfl) (fun hHeld=>?_);refine tKm 0 ?_;refine tKm 1 ?_;refine tKm 2 ?_;refine rKs [3,6] ?_;refine zac.cons rfl (fun K hK=>?_) (zac.cons rfl (fun K hK=>?_) zac.nil)
 ·rw[if_pos (by rfl)];refine zeS (ty:=57) (cs:=plC a (.slice b0 a.xs.length bc0) (.slice b1 a.cond.xs.length bc1) (.slice b2 a.names.length bc2) (.slice b3 a.exprs.length bc3) (.slice b4 a.on.length bc4) (.slice b5 a.aggs.length bc5) (.slice b6 a.ord.length bc6)) rfl rfl (HBCW.out _ (zab H.out)) uPl_ sPl_ ?_;refine hK.out _ _ ?_ (fun hHeld2=>?_)
  ·exact (H.out.at (i:=0) rfl).cl 2 _ rfl
  replace hHeld:=hHeld2;clear hK K;refine rKs [4,6] ?_;refine zac.cons rfl (fun K hK=>?_) (zac.cons rfl (fun K hK=>?_) zac.nil)
  ·go_simp;go_at_call 72
   (with_reducible (refine (HU.out _ (zab H.out)).mono ?_))
   rintro e wc ⟨rfl,hb9⟩;have H2:=H.out.below hb9;clear hb9;try dsimp only
   refine hK.out _ _ ?_ (fun hHeld2=>?_)
   ·exact (H2.at (i:=0) rfl).cl 2 _ rfl
   replace hHeld:=hHeld2;clear hK K;replace H:=hid H2;clear H2;refine tKm 5 ?_;refine rK1 6 fun K hK=>?_
   rw[if_pos (by rfl)];refine H.out.o_load (ty:=57) rfl rfl 0 rfl uPl_ sPl_ ?_;refine hK.out _ _ ?_ (fun hHeld2=>?_)
   ·exact (H.out.at (i:=0) rfl).cl 2 _ rfl
   replace hHeld:=hHeld2;clear hK K;refine rK1 7 fun K hK=>?_
   go_simp;go_at_call 97
   (with_reducible (refine (HT.out _ (zab H.out)).mono ?_))
   rintro e wc ⟨rfl,hb9⟩;have H2:=H.out.below hb9;clear hb9;try dsimp only
   refine hK.out _ _ ?_ (fun hHeld2=>?_)
   ·exact (H2.at (i:=0) rfl).cl 2 _ rfl
   replace hHeld:=hHeld2;clear hK K;replace H:=hid H2;clear H2;refine tKm 8 ?_;refine rKl 9 fun K hK=>?_
   go_simp;refine hK.out _ _ ?_;clear hK K;refine rKd ?_;go_wp2_with fail
   go_ret
   exact ⟨zbI HW.out,zab H.out⟩
  ·rw[if_pos (by rfl)];refine H.out.o_load (ty:=57) rfl rfl 0 rfl uPl_ sPl_ ?_;refine hK.out _ _ ?_ (fun hHeld2=>?_)
   ·exact (H.out.at (i:=0) rfl).cl 2 _ rfl
   replace hHeld:=hHeld2;clear hK K;refine rK1 4 fun K hK=>?_
   go_simp;go_at_call 72
   (with_reducible (refine (HU.out _ (zab H.out)).mono ?_))
   rintro e wc ⟨rfl,hb9⟩;have H2:=H.out.below hb9;clear hb9;try dsimp only
   refine hK.out _ _ ?_ (fun hHeld2=>?_)
   ·exact (H2.at (i:=0) rfl).cl 2 _ rfl
   replace hHeld:=hHeld2;clear hK K;replace H:=hid H2;clear H2;refine tKm 5 ?_;refine rK1 7 fun K hK=>?_
   go_simp;go_at_call 97
   (with_reducible (refine (HT.out _ (zab H.out)).mono ?_))
   rintro e wc ⟨rfl,hb9⟩;have H2:=H.out.below hb9;clear hb9;try dsimp only
   refine hK.out _ _ ?_ (fun hHeld2=>?_)
   ·exact (H2.at (i:=0) rfl).cl 2 _ rfl
   replace hHeld:=hHeld2;clear hK K;replace H:=hid H2;clear H2;refine tKm 8 ?_;refine rKl 9 fun K hK=>?_
   go_simp;refine hK.out _ _ ?_;clear hK K;refine rKd ?_;go_wp2_with fail
   go_ret
   exact ⟨zbI HW.out,zab H.out⟩
 ·rw[if_pos (by rfl)];refine H.out.o_load (ty:=57) rfl rfl 0 rfl uPl_ sPl_ ?_;refine hK.out _ _ ?_ (fun hHeld2=>?_)
  ·exact (H.out.at (i:=0) rfl).cl 2 _ rfl
  replace hHeld:=hHeld2;clear hK K;refine rK1 3 fun K hK=>?_
  rw[if_pos (by rfl)];refine zeS (ty:=57) (cs:=plC a (.slice b0 a.xs.length bc0) (.slice b1 a.cond.xs.length bc1) (.slice b2 a.names.length bc2) (.slice b3 a.exprs.length bc3) (.slice b4 a.on.length bc4) (.slice b5 a.aggs.length bc5) (.slice b6 a.ord.length bc6)) rfl rfl (HBCW.out _ (zab H.out)) uPl_ sPl_ ?_;refine hK.out _ _ ?_ (fun hHeld2=>?_)
  ·exact (H.out.at (i:=0) rfl).cl 2 _ rfl
  replace hHeld:=hHeld2;clear hK K;refine rK1 4 fun K hK=>?_
  go_simp;go_at_call 72
  (with_reducible (refine (HU.out _ (zab H.out)).mono ?_))
  rintro e wc ⟨rfl,hb9⟩;have H2:=H.out.below hb9;clear hb9;try dsimp only
  refine hK.out _ _ ?_ (fun hHeld2=>?_)
  ·exact (H2.at (i:=0) rfl).cl 2 _ rfl
  replace hHeld:=hHeld2;clear hK K;replace H:=hid H2;clear H2;refine tKm 5 ?_;refine rK1 7 fun K hK=>?_
  go_simp;go_at_call 97
  (with_reducible (refine (HT.out _ (zab H.out)).mono ?_))
  rintro e wc ⟨rfl,hb9⟩;have H2:=H.out.below hb9;clear hb9;try dsimp only
  refine hK.out _ _ ?_ (fun hHeld2=>?_)
  ·exact (H2.at (i:=0) rfl).cl 2 _ rfl
  replace hHeld:=hHeld2;clear hK K;replace H:=hid H2;clear H2;refine tKm 8 ?_;refine rKl 9 fun K hK=>?_
  go_simp;refine hK.out _ _ ?_;clear hK K;refine rKd ?_;go_wp2_with fail
  go_ret
  exact ⟨zbI HW.out,zab H.out⟩
theorem zl5:∀ p,QxOk p:=by
 refine Pl.ind (P:=QxOk) fun p ih=>?_
 intro a0 a1 a2 a3 a4 a5 a6 ac0 ac1 ac2 ac3 ac4 ac5 ac6 w ok hA hE hp hlen;by_cases h1:p.k=1
 ·obtain ⟨n,_,rfl⟩:=hp.scan_of h1;exact zkE n a0 a1 a2 a3 a4 a5 a6 ac0 ac1 ac2 ac3 ac4 ac5 ac6 w ok hA hE hp hlen
 ·have key:∀ (a:Pl) (r:List Pl),p.xs=a::r→OkQ a→Calls Tryz.prog 72 #[plV p a0 ac0 a1 ac1 a2 ac2 a3 ac3 a4 ac4 a5 ac5 a6 ac6] w (StrTo (textQ p) w):=fun a r hxs hoa=>by
   have htx:textQ p=textQ a++([32,124,32]++stepT p (secT (p.xs.map fun a=>(a,textQ a)).tail)):=by
    rw[hxs];show textQ p=_
    conv=>lhs;unfold textQ
    rw[zcq];unfold zjB;rw[if_neg h1,hxs];rfl
   exact zgg p a r.length h1 (by rw[hxs];rfl) (by rw[hxs];rfl) ih hoa _ htx (fun a0 a1 a2 a3 a4 a5 a6 ac0 ac1 ac2 ac3 ac4 ac5 ac6 w ok hA hE hl=>zlA p ih a0 a1 a2 a3 a4 a5 a6 ac0 ac1 ac2 ac3 ac4 ac5 ac6 w ok hA hE hp h1 hl) a0 a1 a2 a3 a4 a5 a6 ac0 ac1 ac2 ac3 ac4 ac5 ac6 w ok hA hE hp hlen
  cases hp with
  | scan n h=>exact absurd rfl h1
  | where_ a x ha hx=>exact key a [] rfl ha
  | keep a ns xs ha hl h0 hx hn=>exact key a [] rfl ha
  | join k a b on hk ha hb h0 ho=>exact key a [b] rfl ha
  | group a ns gs ha hn hg=>exact key a [] rfl ha
  | union a b ha hb=>exact key a [b] rfl ha
  | dist a ha=>exact key a [] rfl ha
  | first a n os ha h0 h1' ho=>exact key a [] rfl ha
theorem PlRep.weakT {ok:Nat→Prop} {W:World} {x:Pl} {s0 s1 s2 s3 s4 s5 s6:Value} (h:PlRep W ok x s0 s1 s2 s3 s4 s5 s6):PlRep W (fun _=>True) x s0 s1 s2 s3 s4 s5 s6:=⟨h.args.weak fun _ _ _=>trivial,h.cond.weak fun _ _ _=>trivial,h.names.weak fun _ _ _=>trivial,h.exprs.weak fun _ _ _=>trivial,h.on.weak fun _ _ _=>trivial,h.aggs.weak fun _ _ _=>trivial,h.ord.weak fun _ _ _=>trivial⟩
theorem row_pl_rep {ok:Nat→Prop} {W:World} {x:Pl} {s0 s1 s2 s3 s4 s5 s6:Value} (h:Row W ok (plD x) (plC x s0 s1 s2 s3 s4 s5 s6)):PlRep W ok x s0 s1 s2 s3 s4 s5 s6:=by
 obtain ⟨t0,t1,t2,t3,t4,t5,t6,he,h2⟩:=zmb h;injection he with _ he
 injection he with _ he
 injection he with e0 he
 injection he with _ he
 injection he with _ he
 injection he with _ he
 injection he with _ he
 injection he with _ he
 injection he with _ he
 injection he with e1 he
 injection he with e2 he
 injection he with e3 he
 injection he with e4 he
 injection he with e5 he
 injection he with e6 he
 subst e0 e1 e2 e3 e4 e5 e6;exact h2
theorem row_at {ok:Nat→Prop} {W:World} {x:Pl} {a0 a1 a2 a3 a4 a5 a6:Option Addr} {ac0 ac1 ac2 ac3 ac4 ac5 ac6:Nat} (h:Row W ok (plD x) (plC x (.slice a0 x.xs.length ac0) (.slice a1 x.cond.xs.length ac1) (.slice a2 x.names.length ac2) (.slice a3 x.exprs.length ac3) (.slice a4 x.on.length ac4) (.slice a5 x.aggs.length ac5) (.slice a6 x.ord.length ac6))):PlAt W ok x a0 ac0 a1 ac1 a2 ac2 a3 ac3 a4 ac4 a5 ac5 a6 ac6:=row_pl_rep h
def TextOk (T:ByteArray) (w:World) (e:Ending) (w':World):Prop:=e=.returned (.tuple #[.string T,.int .i64 0])∧Below w.heap.size w w'
end Go.Proofs.YtonkjhmkppeagaaGreatDoor.Pz
