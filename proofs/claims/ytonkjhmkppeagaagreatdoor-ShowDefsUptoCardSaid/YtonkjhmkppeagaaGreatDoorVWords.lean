/- Walks: words with a blank between; those that are empty are left out (slices.IndexFunc, slices.DeleteFunc, show.words). Strings joined. -/
import Derived.Test.YtonkjhmkppeagaaGreatDoorVEq
set_option maxRecDepth 100000
set_option maxHeartbeats 3200000
set_option linter.unusedVariables false
set_option linter.unusedSimpArgs false
namespace Go.Proofs.YtonkjhmkppeagaaGreatDoor.Pz
open Go.Proofs.Tryz
open Go.Lib (hid)
open Go.RowKit Go Go.Sort Ba Lx
abbrev strV (s:Str):Value:=.string ⟨s.toArray⟩
theorem zeO (sep:Str) (hsep:∀ l:List Str,Lib.join l sep=joinS sep l) (l:List Str) (ao:Option Addr) (cap:Nat) (w:World) (ok:Nat→Prop) (hA:Rep w ok (.sl 1 (l.map strD)) (.slice ao l.length cap)) (hl:(joinS sep l).length≤140737488355328) (hc:l.length≤140737488355328) :
 Calls Tryz.prog 84 #[.slice ao l.length cap,.string ⟨sep.toArray⟩] w (StrTo (joinS sep l) w):=by
 by_cases h0:l=[]
 ·subst h0;refine (Tryz.strings_Join_none ao cap ⟨sep.toArray⟩ w).mono ?_;rintro e w' ⟨he,rfl⟩;exact ⟨he,Below.refl _ _⟩
 ·obtain ⟨x,r,rfl⟩:∃ x r,l=x::r:=by
   cases l with
   | nil=>exact absurd rfl h0
   | cons x r=>exact ⟨x,r,rfl⟩
  obtain ⟨b,o,_,rfl,hb,_,_,_,_⟩:=hA.at (i:=0) (r:=strD x) rfl;obtain ⟨_,_,he,h1,_⟩:=hA.len;injection he with _ _ he3
  subst he3;rw[yC]at h1;have hcell:∀ (j:Nat) y,((x::r).map fun s=>(⟨s.toArray⟩:ByteArray))[j]?=some y→w.cell? ⟨b,o+j,none⟩=some (.string y):=fun j y hj=>by
   rw[yQ]at hj
   cases hq:(x::r)[j]? with
   | none=>rw[hq]at hj;cases hj
   | some s =>
    rw[hq]at hj;obtain rfl:=Option.some.inj hj;obtain ⟨b',o',cs,e1,_,_,e4,e5,e6⟩:=hA.at (i:=j) (r:=strD s) (by rw[yQ,hq];rfl);obtain ⟨rfl,rfl⟩:b=b'∧o=o':=by simpa using e1
    have h2:=e4 0 (by decide);obtain ⟨c,r',rfl,h3,_⟩:=e6.uncons;rw[h3.val]at h2;simpa using h2
  have hjoin:Lib.join (((x::r).map fun s=>(⟨s.toArray⟩:ByteArray)).map (·.data.toList)) (⟨sep.toArray⟩:ByteArray).data.toList=joinS sep (x::r):=by
   rw[List.map_map];have:((fun b:ByteArray=>b.data.toList) ∘ fun s:Str=>(⟨s.toArray⟩:ByteArray))=id:=by funext s;rfl
   rw[this,List.map_id];exact hsep _
  have hlen:((x::r).map fun s=>(⟨s.toArray⟩:ByteArray)).length=(x::r).length:=yC _;have:=Tryz.strings_Join b o cap ((x::r).map fun s=>(⟨s.toArray⟩:ByteArray)) ⟨sep.toArray⟩ w hcell hb (by rw[hlen];exact hc) (by rw[hlen];exact h1) (by rw[hjoin];exact hl);rw[hlen,hjoin]at this;exact this
theorem znO:∀ l:List Str,Lib.join l [32]=joinS [32] l
 | []=>rfl
 | [a]=>Lib.join_one a _
 | a::b::r=>by
  have:=znO (b::r);show Lib.join (a::b::r) [32]=a++([32]++joinS [32] (b::r))
  rw[← this];unfold Lib.join List.intercalate;rw[List.intersperse_cons_cons,List.flatten_cons,List.flatten_cons]
def neE (s:Str):Bool:=decide (s≠[])
theorem zqF (s:Str) (w:World):Calls Tryz.prog 129 #[strV s] w fun e w'=>e=.returned (.bool (!neE s))∧Below w.heap.size w w':=by
 unfold strV;by_cases h:s=[]
 ·subst h;rw[show (!neE [])=true from rfl];go_enter func129,ntmps129
  go_wp2_with fail
  go_ret
  exact ⟨rfl,Below.refl _ _⟩
 ·rw[show (!neE s)=false by unfold neE;rw[yO h];rfl];obtain ⟨Y,hY⟩:∃ Y:ByteArray,(⟨s.toArray⟩:ByteArray)=Y:=⟨_,rfl⟩;have e1:(Y.toList == [])=false:=by
   have:=zeD hY h;rw[ByteArray.toList_eq ⟨([]:Str).toArray⟩]at this;exact this
  rw[hY];clear hY h;go_enter func129,ntmps129
  go_wp2_with fail
  go_ret
  exact ⟨rfl,Below.refl _ _⟩
def ztP (l:List Str) (w:World) (e:Ending) (w':World):Prop:=∃ r:Int,((r=-1∧∀ x∈l,neE x=true)∨∃ s:Nat,r=s∧s<l.length∧(∃ x,l[s]?=some x∧neE x=false)∧∀ (t:Nat) (x:Str),t<s→l[t]?=some x→neE x=true)∧e=.returned (.int .i64 r)∧Below w.heap.size w w'
theorem zlU (l:List Str) (g cap:Nat) (w:World) (G:Box w g (l.map strV)) (hl:l.length≤1000000) :
 Calls Tryz.prog 139 #[.slice (some ⟨g,0,none⟩) l.length cap,.func (.func 129) #[] #[]] w (ztP l w):=by
 have HG:=hid G;obtain ⟨n,hn⟩:∃ n,l.length=n:=⟨_,rfl⟩;rw[hn]at hl ⊢;have HN:=hid hn;clear G hn;go_enter func139,ntmps139
 go_wp2_with fail
 go_loopw [8] (fun t wr=>∃ s:Nat,s≤n∧t=.int .i64 s∧Hid (∀ (u:Nat) (x:Str),u<s→l[u]?=some x→neE x=true)∧Hid (Below w.heap.size w wr)) (fun t _=>n-(intOf t).toNat)
 case atStart=>exact ⟨0,yS _,rfl,(fun u x hu=>absurd hu (Nat.not_lt_zero _):∀ (u:Nat) (x:Str),u<0→l[u]?=some x→neE x=true),Below.refl _ _⟩
 case round =>
  obtain ⟨s,hs,rfl,I,HB⟩:=hrel;by_cases hlt:s<n
  ·obtain ⟨x,hx⟩:∃ x,l[s]?=some x:=⟨_,yF (by rw[HN.out];exact hlt)⟩;have x0:=(HG.out.next HB.out).cl s (strV x) (by rw[yQ,hx];rfl);unfold strV at x0;have hc:=zqF x wr;unfold strV at hc;have HX:=hid hx;obtain ⟨Y,hY⟩:∃ Y:ByteArray,(⟨x.toArray⟩:ByteArray)=Y:=⟨_,rfl⟩;rw[hY]at x0 hc;have HC:=hid hc;clear hc hx hY
   cases hp:neE x<;>rw[hp]at HC
   ·have HPT:=hid hp;clear hp;go_wp2_with (go_at_call 129;refine HC.out.mono ?_;rintro e w' ⟨rfl,hb⟩)
    have b2:Hid (Below w.heap.size w w'):=two HB.out hb;clear hb x0;go_ret
    exact ⟨_,.inr ⟨s,rfl,by rw[HN.out];exact hlt,⟨x,HX.out,HPT.out⟩,I.out⟩,rfl,b2.out⟩
   ·have HPF:=hid hp;clear hp;go_wp2_with (go_at_call 129;refine HC.out.mono ?_;rintro e w' ⟨rfl,hb⟩)
    have b2:Hid (Below w.heap.size w w'):=two HB.out hb;clear hb x0;go_roundw
    case rel=>exact ⟨s+1,by omega,by go_num,(fun u x' hu hx'=>by
     rcases Nat.lt_or_ge u s with h|h
     ·exact I.out u x' h hx'
     ·obtain rfl:u=s:=by omega
      rw[HX.out]at hx';obtain rfl:=Option.some.inj hx';exact HPF.out:∀ (u:Nat) (x:Str),u<s+1→l[u]?=some x→neE x=true),b2⟩
    case measure=>simp[intOf];omega
  ·have hsn:s=n:=by omega
   subst hsn;go_wp2_with fail
   go_ret
   exact ⟨_,.inl ⟨rfl,fun x hx=>by
    obtain ⟨u,hu⟩:=List.mem_iff_getElem?.1 hx;exact I.out u x (by have:=(yE.1 hu).1;rw[HN.out]at this;exact this) hu⟩,rfl,HB.out⟩
structure RowW (l:List Str) (n s:Nat) (vs:List Value):Prop where
 len:vs.length=n
 done:∀ (u:Nat) (x:Str),((l.take s).filter neE)[u]?=some x→vs[u]?=some (strV x)
 rest:∀ (u:Nat) (x:Str),s≤u→l[u]?=some x→vs[u]?=some (strV x)
theorem zdX {l:List Str} {s:Nat} {x:Str} (hx:l[s]?=some x):(l.take (s+1)).filter neE=(l.take s).filter neE++(if neE x=true then [x] else []):=by
 rw[List.take_add_one,hx,List.filter_append];congr 1
 show [x].filter neE=_
 rw[List.filter_cons];split<;>rfl
theorem zqd {l:List Str} {s:Nat}:((l.take s).filter neE).length≤s:=yH (List.length_filter_le _ _) (by rw[List.length_take];exact Nat.min_le_left _ _)
theorem RowW.skip {l:List Str} {n s:Nat} {vs:List Value} {x:Str} (h:RowW l n s vs) (hx:l[s]?=some x) (hq:neE x=false):RowW l n (s+1) vs :=
 ⟨h.len,fun u y hy=>by
  rw[zdX hx,if_neg (by rw[hq];decide),List.append_nil]at hy;exact h.done u y hy,fun u y h1 h2=>h.rest u y (by omega) h2⟩
theorem RowW.keep {l:List Str} {n s:Nat} {vs:List Value} {x:Str} (h:RowW l n s vs) (hs:s<n) (hx:l[s]?=some x) (hq:neE x=true):RowW l n (s+1) (vs.set ((l.take s).filter neE).length (strV x)):=by
 have hle:=zqd (l:=l) (s:=s);refine ⟨by rw[List.length_set];exact h.len,fun u y hy=>?_,fun u y h1 h2=>?_⟩
 ·rw[zdX hx,if_pos hq]at hy;by_cases hu:u<((l.take s).filter neE).length
  ·rw[List.getElem?_append_left hu]at hy;rw[List.getElem?_set_ne (by omega)];exact h.done u y hy
  ·rw[List.getElem?_append_right (by omega)]at hy;by_cases he:u=((l.take s).filter neE).length
   ·subst he;rw[Nat.sub_self]at hy;have hy':x=y:=by simpa using hy
    subst hy';rw[List.getElem?_set_self (by rw[h.len];omega)]
   ·rw[show u-((l.take s).filter neE).length=(u-((l.take s).filter neE).length-1)+1 by omega]at hy;simp at hy
 ·rw[List.getElem?_set_ne (by omega)];exact h.rest u y (by omega) h2
theorem RowW.start {l:List Str} {r:Nat} {x:Str} (hx:l[r]?=some x) (h1:neE x=false) (h0:∀ (t:Nat) (y:Str),t<r→l[t]?=some y→neE y=true):RowW l l.length (r+1) (l.map strV)∧((l.take (r+1)).filter neE).length=r:=by
 have hr:=(yE.1 hx).1;have hall:(l.take r).filter neE=l.take r:=List.filter_eq_self.2 fun y hy=>by
  obtain ⟨t,ht⟩:=List.mem_iff_getElem?.1 hy;have htl:=(yE.1 ht).1;rw[List.length_take]at htl;rw[List.getElem?_take,if_pos (by omega)]at ht;exact h0 t y (by omega) ht
 have hone:(l.take (r+1)).filter neE=l.take r:=by rw[zdX hx,hall,if_neg (by rw[h1];decide),List.append_nil]
 refine ⟨⟨yC _,fun u y hy=>?_,fun u y _ h2=>by rw[yQ,h2];rfl⟩,by rw[hone,List.length_take];omega⟩;rw[hone,List.getElem?_take]at hy;split at hy
 ·rw[yQ,hy];rfl
 ·cases hy
theorem zoX (w:World):(zeroValue 9).run Tryz.prog w=.ok (.string ⟨#[]⟩) w:=by
 kernel_rfl
def LeftW (l:List Str) (g cap:Nat) (w:World) (e:Ending) (w':World):Prop:=e=.returned (.slice (some ⟨g,0,none⟩) (l.filter neE).length cap)∧Kept (fun b=>b=g) w w'∧∀ (j:Nat) (x:Str),(l.filter neE)[j]?=some x→w'.cell? ⟨g,j,none⟩=some (strV x)
theorem zlQ {w:World} {g:Nat} (vs:List Value) (o:Nat) {a:World} (h:Kept (fun b=>b=g) a w):Kept (fun b=>b=g) a (w.setCells g o vs):=by
 rw[za9];exact Kept.setN (S:=fun b=>b=g) (B:=g) (.inl rfl) vs o h
theorem zj6 (l:List Str) (g cap:Nat) (w:World) (G:Box w g (l.map strV)) (hl:l.length≤1000000) (hcap:l.length≤cap) (hcap2:cap≤maxLen) :
 Calls Tryz.prog 128 #[.slice (some ⟨g,0,none⟩) l.length cap,.func (.func 129) #[] #[]] w (LeftW l g cap w):=by
 have hfin:=zlU l g cap w G hl;have HF:=hid hfin;have HG:=hid G;have HCAP:=hid hcap2;obtain ⟨n,hn⟩:∃ n,l.length=n:=⟨_,rfl⟩;rw[hn]at hl hcap HF ⊢;have HN:=hid hn;clear G hn hfin hcap2;go_enter func128,ntmps128
 go_wp2_with fail
 refine HF.out.mono ?_;rintro e w1 ⟨r,hr,rfl,hb⟩;have HG:=hid (HG.out.next hb);have HB0:Hid (Kept (fun b=>b=g) w w1):=Kept.of_below hb;clear hb HF;rcases hr with ⟨rfl,hall⟩|⟨s0,rfl,hs0,hps,hpre⟩
 ·have HLL:Hid (l.filter neE=l):=List.filter_eq_self.2 hall;clear hall;go_wp2_with fail
  go_ret
  unfold LeftW;rw[HLL.out,HN.out];exact ⟨rfl,HB0.out,fun j x hx=>HG.out.cl j _ (by rw[yQ,hx];rfl)⟩
 ·obtain ⟨x0,hx0,hq0⟩:=hps;have hst:=RowW.start hx0 hq0 hpre;rw[HN.out]at hst hs0;have HST:=hid hst;have e1:((s0:Int) == -1)=false:=by simp
  clear hst hx0 hq0 hpre;go_wp2_with fail
  go_loopw [5,6] (fun c t wr=>∃ s:Nat,s0<s∧s≤n∧t=.int .i64 s∧c=.int .i64 ((((l.take s).filter neE).length:Nat):Int)∧((l.take s).filter neE).length<s∧
   Hid (∃ vs,RowW l n s vs∧Box wr g vs)∧Hid (Kept (fun b=>b=g) w wr)) (fun _ t _=>n-(intOf t).toNat)
  case atStart=>exact ⟨s0+1,by omega,by omega,by go_num,by rw[HST.out.2],by rw[HST.out.2];omega,⟨_,HST.out.1,HG.out⟩,HB0⟩
  case round =>
   obtain ⟨s,hs1,hs2,rfl,rfl,hK,HR,HB⟩:=hrel;obtain ⟨K,hKK⟩:∃ K,((l.take s).filter neE).length=K:=⟨_,rfl⟩;rw[hKK]at hK ⊢;have HK:=hid hKK;clear hKK;obtain ⟨vs,R,B⟩:=HR.out;have HRR:=hid R;have HBX:=hid B;have k0:∃ u,wr.cell? ⟨g,K,none⟩=some u:=by
    have hlt:K<vs.length:=by rw[R.len];omega
    exact ⟨_,B.cl K _ (yF hlt)⟩
   have kf:wr.frozen? ⟨g,K,none⟩=false:=B.fr K (by rw[R.len];omega);by_cases hlt:s<n
   ·obtain ⟨x,hx⟩:∃ x,l[s]?=some x:=⟨_,yF (by rw[HN.out];exact hlt)⟩;have x0:=B.cl s _ (R.rest s x (yG _) hx);have hc:=zqF x wr;unfold strV at x0 hc;have HX:=hid hx;obtain ⟨Y,hY⟩:∃ Y:ByteArray,(⟨x.toArray⟩:ByteArray)=Y:=⟨_,rfl⟩;have HY:Hid (strV x=.string Y):=by show strV x=_;unfold strV;rw[hY]
    rw[hY]at x0 hc;have HC:=hid hc;clear hc R B HR hx hY
    cases hq:neE x<;>rw[hq]at HC
    ·have HQ:=hid hq;clear hq k0 kf;go_wp2_with (go_at_call 129;refine HC.out.mono ?_;rintro e w' ⟨rfl,hb⟩)
     have R2:Hid (∃ vs,RowW l n (s+1) vs∧Box w' g vs):=⟨vs,HRR.out.skip HX.out HQ.out,HBX.out.next hb⟩;have B2:Hid (Kept (fun b=>b=g) w w'):=HB.out.behind hb;have F2:Hid (((l.take (s+1)).filter neE).length=K):=by show ((l.take (s+1)).filter neE).length=K;rw[zdX HX.out,HQ.out,if_neg (by decide),List.append_nil,HK.out]
     clear hb x0;go_roundw
     case rel=>exact ⟨s+1,by omega,by omega,by go_num,by rw[F2.out],by rw[F2.out];omega,R2,B2⟩
     case measure=>simp[intOf];omega
    ·have HQ:=hid hq;clear hq;obtain ⟨u0,k0⟩:=k0;go_wp2_with (go_at_call 129;refine HC.out.mono ?_;rintro e w' ⟨rfl,hb⟩;have k0:=(hb.cell (by exact HBX.out.lt)).trans k0;have kf:=(hb.frozen (by exact HBX.out.lt)).trans kf)
     have B2:Hid (Kept (fun b=>b=g) w (w'.setCell ⟨g,K,none⟩ (.string Y))):=(HB.out.behind hb).set ⟨g,K,none⟩ (.inl rfl) _;have R2:Hid (∃ vs,RowW l n (s+1) vs∧Box (w'.setCell ⟨g,K,none⟩ (.string Y)) g vs):=⟨_,by have:=HRR.out.keep hlt HX.out HQ.out;rwa [HK.out,HY.out]at this,(HBX.out.next hb).put K _⟩;have F2:Hid (((l.take (s+1)).filter neE).length=K+1):=by show ((l.take (s+1)).filter neE).length=K+1;rw[zdX HX.out,HQ.out,if_pos rfl,yA,HK.out];rfl
     clear hb x0 k0 kf;go_roundw
     case rel=>exact ⟨s+1,by omega,by omega,by go_num,by rw[F2.out];go_num,by rw[F2.out];omega,R2,B2⟩
     case measure=>simp[intOf];omega
   ·have hsn:s=n:=by omega
    subst hsn;have hcl:∀ ty,(Builtin.clear_ #[48] ty #[.slice (some ⟨g,K,none⟩) (s-K) (cap-K)]).run Tryz.prog wr=.ok (.tuple #[]) (wr.setCells g K (List.replicate (s-K) (.string ⟨#[]⟩))):=fun ty =>
     Lib.run_clear_slice wr 48 9 ty (.string ⟨#[]⟩) underlying48 zoX rfl rfl g K (s-K) (cap-K) (by omega) (fun j hj=>by
      rw[HBX.out.cl (K+j) _ (yF (by rw[HRR.out.len];omega))];rfl) (fun j hj=>HBX.out.fr (K+j) (by rw[HRR.out.len];omega))
    have HTK:Hid (l.take s=l):=by show l.take s=l;rw[← HN.out,List.take_length]
    clear R B HR k0 kf;go_wp2_with fail
    go_ret
    have hd:=HRR.out.done;rw[HTK.out]at hd;have hk:=HK.out;rw[HTK.out]at hk;unfold LeftW;rw[hk];refine ⟨rfl,zlQ _ _ HB.out,fun j x hx=>?_⟩;have hj:j<K:=by rw[← hk];exact (yE.1 hx).1
    rw[World.cell?_setCells_out _ _ _ _ _ (fun _ _=>.inl hj)];exact HBX.out.cl j _ (hd j x hx)
def zex (l:List Str) (g:Nat) (w:World) (e:Ending) (w':World):Prop:=e=.returned (.string ⟨(zaC l).toArray⟩)∧Kept (fun b=>b=g) w w'
theorem zhf (l:List Str):zaC l=joinS [32] (l.filter neE):=rfl
theorem zdo (l:List Str) (g:Nat) (w:World) (G:Box w g (l.map strV)) (hl:l.length≤1000000) (hlen:(zaC l).length≤140737488355328) :
 Calls Tryz.prog 99 #[.slice (some ⟨g,0,none⟩) l.length l.length] w (zex l g w):=by
 have HD:=hid (zj6 l g l.length w G hl (yG _) (yH hl (by decide)));have hgl:=G.lt;have hfl:(l.filter neE).length≤l.length:=List.length_filter_le _ _;obtain ⟨n,hn⟩:∃ n,l.length=n:=⟨_,rfl⟩;obtain ⟨m,hm⟩:∃ m,(l.filter neE).length=m:=⟨_,rfl⟩;have HJ:Hid (∀ W,g<W.heap.size→(∀ (j:Nat) (x:Str),(l.filter neE)[j]?=some x→W.cell? ⟨g,j,none⟩=some (strV x))→Calls Tryz.prog 84 #[.slice (some ⟨g,0,none⟩) m n,.string ⟨#[32]⟩] W (StrTo (zaC l) W)):=fun W hW hc=>by
  have hR:Rep W (fun _=>True) (.sl 1 ((l.filter neE).map strD)) (.slice (some ⟨g,0,none⟩) (l.filter neE).length n):=by
   have:=Rep.sl (W:=W) (ok:=fun _=>True) 1 ((l.filter neE).map strD) (some ⟨g,0,none⟩) n ((l.filter neE).map fun x=>[strV x]) (by rw[yC];omega) (by unfold maxLen;omega) (by simp) ?_ ?_ ?_
   ·rw[yC]at this;exact this
   ·intro i r cs h1 h2;rw[yQ]at h1 h2
    cases hq:(l.filter neE)[i]? with
    | none=>rw[hq]at h1;cases h1
    | some x =>
     rw[hq]at h1 h2;obtain rfl:=Option.some.inj h1;obtain rfl:=Option.some.inj h2;exact ⟨rfl,rfl⟩
   ·intro i cs h2;rw[yQ]at h2
    cases hq:(l.filter neE)[i]? with
    | none=>rw[hq]at h2;cases h2
    | some x =>
     rw[hq]at h2;obtain rfl:=Option.some.inj h2;refine ⟨g,0,rfl,hW,trivial,fun j hj=>?_⟩;obtain rfl:j=0:=by omega
     rw[Nat.zero_add,Nat.mul_one,Nat.add_zero];exact hc i x hq
   ·intro i r cs j d c h1 h2 h3 h4;rw[yQ]at h1 h2
    cases hq:(l.filter neE)[i]? with
    | none=>rw[hq]at h1;cases h1
    | some x =>
     rw[hq]at h1 h2;obtain rfl:=Option.some.inj h1;obtain rfl:=Option.some.inj h2
     cases j with
     | zero =>
      obtain rfl:=Option.some.inj h3;obtain rfl:=Option.some.inj h4;exact .v _ rfl
     | succ j=>simp at h4
  have:=zeO [32] znO (l.filter neE) _ _ W _ hR (by rw[← zhf];exact hlen) (by omega);rw[hm,← zhf]at this;exact this
 unfold LeftW at HD;rw[hn,hm]at HD;rw[hn];rw[hn]at hl;clear G hn hm hfl hlen;go_enter func99,ntmps99
 go_wp2_with (first|(go_at_call 128;(with_reducible (refine HD.out.mono ?_));rintro e w1 ⟨rfl,hK,hc⟩)|(go_at_call 84;(with_reducible (refine (HJ.out _ (Nat.lt_of_lt_of_le hgl hK.size) hc).mono ?_));rintro e w2 ⟨rfl,hb2⟩))
 go_ret
 exact ⟨rfl,hK.behind hb2⟩
