/- Plain laws: queries written step by step are read as what they were built from. -/
import Derived.Test.YtonkjhmkppeagaaGreatDoorWDg
set_option linter.unusedVariables false
set_option linter.unusedSimpArgs false
namespace Go.Proofs.YtonkjhmkppeagaaGreatDoor.Pz
open Go.Proofs.Tryz
open Go.RowKit Go Ba Lx
def sqPl (k:Int) (n m:Str) (N:Int) (a:Pl):Pl :=
 if k=2 then .mk 2 [] [a] (zaj [60] (zax n) (zam ⟨1,N,[]⟩)) [] [] [] [] [] 0
 else if k=3 then .mk 3 [] [a] zEx [n,m] [zax m,zat sNot (zax n)] [] [] [] 0
 else if k=4 then .mk 4 [] [a,scanL m] zEx [] [] [(n,m),(m,n)] [] [] 0
 else if k=5 then .mk 5 [] [a,distL m] zEx [] [] [(n,m)] [] [] 0
 else if k=6 then .mk 6 [] [a] zEx [n] [] [] [(zdS,[],m),(sSum,m,n)] [] 0
 else if k=7 then .mk 7 [] [a,scanL m] zEx [] [] [] [] [] 0
 else if k=8 then .mk 8 [] [a] zEx [] [] [] [] [] 0
 else .mk 9 [] [a] zEx [] [] [] [] [(n,true),(m,false)] N
def sqT (k:Int) (n m:Str) (N:Int):Str :=
 if k=2 then zbK++(32::(n++(60::Lib.itoa N)))
 else if k=3 then sKeep++(32::(m++([32,97,115,32]++(n++([44,32,110,111,116,32]++(n++([32,97,115,32]++m)))))))
 else if k=4 then sJoin++(32::(m++([32,111,110,32]++(n++([32,61,32]++(m++([44,32]++(m++([32,61,32]++n)))))))))
 else if k=5 then sLeft++([32,40]++(m++([32,124,32,100,105,115,116,105,110,99,116,41,32,111,110,32]++(n++([32,61,32]++m)))))
 else if k=6 then zbM++(32::(n++([32,58,32,99,111,117,110,116,40,41,32,97,115,32]++(m++([44,32,115,117,109,40]++(m++([41,32,97,115,32]++n)))))))
 else if k=7 then zbL++(32::m)
 else if k=8 then zaE
 else zbu++(32::(Lib.itoa N++([32,98,121,32]++(n++([32,100,111,119,110,44,32]++m)))))
theorem zsX {k:Int} {n m:Str} {N:Int} (hn:n.length≤16) (hm:m.length≤16) (hN:0≤N∧N≤9223372036854775807):(sqT k n m N).length≤120:=by
 have hi:=Lib.itoa_length_le N (by omega) hN.2;unfold sqT;repeat' split
 all_goals
  simp only[yA,yB,List.length_nil,zbK,sKeep,sJoin,sLeft,zbM,zbL,zaE,zbu];omega
theorem wrP {t u:Str} {k j:List Tk} (h:WrT t k) (g:WrT u j):WrT (t++([32,124,32]++u)) (k++((4,[124],0)::j)) :=
 wr_sp h ((zbs (x:=[124]) (by decide) (by decide) (by decide)).app (zbE g))
theorem cl_sg (c:UInt8) (h:wordB c=false) (h2:c≠61) (l:Str):Cl (c::l):=Cl.cons h h2
theorem zfz {t u:Str} {k j:List Tk} (h:WrT t k) (g:WrT u j):WrT (t++(44::32::u)) (k++((4,[44],0)::j)) :=
 h.app (u:=44::32::u) (j:=(4,[44],0)::j) ((zbs (x:=[44]) (by decide) (by decide) (by decide)).app (zbE g)) (fun r=>cl_sg 44 (by decide) (by decide) _)
theorem wr_lt {n:Str} {N:Int} (hn:zao n) (h0:0≤N) (h1:N≤9223372036854775807):WrT (n++(60::Lib.itoa N)) [(1,n,0),(4,[60],0),(2,[],N)]:=fun r ts hr hc=>by
 have h2:=zdP h0 h1 r ts hr hc;have hd:∀ c,(Lib.itoa N++r).head?=some c→c≠61:=fun c hh e=>by
  subst e;obtain ⟨c0,r0,e0,hc0⟩:=Nu.itoa_head N;rw[e0]at hh;simp only[List.cons_append,List.head?_cons,Option.some.injEq]at hh;subst hh;rcases hc0 with h|h<;>exact absurd h (by decide)
 have h3:RdT ([60]++(Lib.itoa N++r)) ((4,[60],0)::(2,[],N)::ts):=RdT.tok (t:=⟨4,[60],0,0⟩) (.inr (.inr (.inr ⟨rfl,rfl,by decide⟩))) (fun c hh=>⟨fun h=>absurd h (by show ¬ (4:Int)=1;decide),fun h=>absurd h (by show ¬ (4:Int)=2;decide),fun _ _=>hd c hh⟩) h2;have h4:=RdT.word hn (l:=[60]++(Lib.itoa N++r)) (fun c hh=>by cases hh;decide) h3;simpa using h4
theorem zqf {n:Str} (h:zdk n):ExOk (zax n):=⟨.col n h,by rw[zdZ];omega⟩
theorem zqe {n:Str} (h:zdk n):ExOk (zat sNot (zax n)):=⟨.not _ (.col n h),by rw[zgx];unfold deepR wiD;rw[zdZ];split<;>omega⟩
theorem zsg {n:Str} {N:Int} (h:zdk n) (h0:0≤N) (h1:N≤9223372036854775807):ExOk (zaj [60] (zax n) (zam ⟨1,N,[]⟩)):=⟨.bin _ _ _ (by decide) (.col n h) (.num N (by omega) h1),by
 rw[zeY];unfold deepR wiD;rw[zdZ,zcB];split<;>split<;>omega⟩
theorem zmR (n:Str):rankE (zax n)=8:=rfl
theorem zpt {N:Int} (h:0≤N):rankE (zam ⟨1,N,[]⟩)=8:=by
 unfold rankE;rw[if_neg (by show ¬ (2:Int)=4;decide),if_neg (by show ¬ (2:Int)=3;decide),if_neg (by show ¬ ((2:Int)=2∧N<0);omega)]
theorem zm4 (r:Nat) (h:r≤8) (n:Str):plK r (zax n)=[(1,n,0)]:=by
 unfold plK wiK;simp only;rw[zmR,if_neg (by omega),zfW]
theorem zrN (r:Nat) (h:r≤8) {N:Int} (h0:0≤N):plK r (zam ⟨1,N,[]⟩)=[(2,[],N)]:=by
 unfold plK wiK;simp only;rw[zpt h0,if_neg (by omega),zcF];show (if N<0 then [(4,[45],0),(2,[],-N)] else [(2,[],N)])=_
 rw[if_neg (by omega)]
theorem zjd:zdS∈zag:=by decide
theorem zms:sSum∈zag:=by decide
theorem wr_as {t n:Str} {k:List Tk} (h:WrT t k) (hn:zao n):WrT (t++([32,97,115,32]++n)) (k++[(1,sAs,0),(1,n,0)]):=by
 have:=wr_sp h (wr_sp (zas kw_as) (zas hn));simpa [sAs] using this
theorem wr_eq {n m:Str} (hn:zao n) (hm:zao m):WrT (n++([32,61,32]++m)) [(1,n,0),(4,[61],0),(1,m,0)]:=zmh (o:=(n,m)) ⟨hn,hm⟩
theorem sq_wr {a:Pl} {t:Str} {k:Int} {n m:Str} {N:Int} (hk:2≤k∧k≤9) (h:WrT t (tkQ a)) (hn:zao n) (hm:zao m) (h0:0≤N) (h1:N≤9223372036854775807):WrT (t++([32,124,32]++sqT k n m N)) (tkQ (sqPl k n m N a)):=by
 have hc:k=2∨k=3∨k=4∨k=5∨k=6∨k=7∨k=8∨k=9:=by omega
 rcases hc with rfl|rfl|rfl|rfl|rfl|rfl|rfl|rfl
 ·have e:tkQ (sqPl 2 n m N a)=tkQ a++((4,[124],0)::[(1,zbK,0),(1,n,0),(4,[60],0),(2,[],N)]):=by
   show tkQ (.mk 2 [] [a] _ [] [] [] [] [] 0)=_
   rw[zb7 _ _ _ _ _ _ _ _ _ (by decide)];simp only[zcM,Pl.k,Pl.cond,if_pos];rw[zfX,zm4 _ (by decide),zrN _ (by decide) h0];rfl
  rw[e];exact wrP h (wr_sp (zas zkO) (wr_lt hn h0 h1))
 ·have e:tkQ (sqPl 3 n m N a)=tkQ a++((4,[124],0)::((1,sKeep,0)::([(1,m,0)]++[(1,sAs,0),(1,n,0)]++((4,[44],0)::([(1,sNot,0),(1,n,0)]++[(1,sAs,0),(1,m,0)]))))):=by
   show tkQ (.mk 3 [] [a] _ [n,m] [zax m,zat sNot (zax n)] [] [] [] 0)=_
   rw[zb7 _ _ _ _ _ _ _ _ _ (by decide)];simp[zcM,Pl.k,Pl.exprs,Pl.names,keptK,keepK,zfW,zhv,joinK,zm4 3 (by decide)]
  rw[e];have g:=wr_sp (zas znI) (zfz (wr_as (zas hm) hn) (wr_as (wr_sp (zas (n:=sNot) (.inl ⟨rfl,rfl,⟨110,[111,116],rfl,by decide⟩,by decide,by decide⟩)) (zas hn)) hm));have:=wrP h g;simpa [sqT,sNot] using this
 ·have e:tkQ (sqPl 4 n m N a)=tkQ a++((4,[124],0)::((1,sJoin,0)::(1,m,0)::(1,sOn,0)::([(1,n,0),(4,[61],0),(1,m,0)]++((4,[44],0)::[(1,m,0),(4,[61],0),(1,n,0)])))):=by
   show tkQ (.mk 4 [] [a,scanL m] _ [] [] [(n,m),(m,n)] [] [] 0)=_
   rw[zdC _ _ _ _ _ _ _ _ _ _ (by decide)];simp[zcM,Pl.k,Pl.on,partK,scanL,Pl.nm,pairK,joinK]
  rw[e];have g:=wr_sp (zas znJ) (wr_sp (zas hm) (wr_sp (zas kw_on) (zfz (wr_eq hn hm) (wr_eq hm hn))));have:=wrP h g;simpa [sqT,sOn] using this
 ·have e:tkQ (sqPl 5 n m N a)=tkQ a++((4,[124],0)::((1,sLeft,0)::((4,[40],0)::([(1,m,0)]++((4,[124],0)::(1,zaE,0)::(4,[41],0)::(1,sOn,0)::[(1,n,0),(4,[61],0),(1,m,0)]))))):=by
   show tkQ (.mk 5 [] [a,distL m] _ [] [] [(n,m)] [] [] 0)=_
   rw[zdC _ _ _ _ _ _ _ _ _ _ (by decide)];have ed:tkQ (distL m)=[(1,m,0),(4,[124],0),(1,zaE,0)]:=by
    unfold distL;rw[zb7 _ _ _ _ _ _ _ _ _ (by decide),zfB];rfl
   have ep:partK (distL m,tkQ (distL m))=(4,[40],0)::(1,m,0)::(4,[124],0)::(1,zaE,0)::[(4,[41],0)]:=by
    unfold partK;rw[if_neg (by show ¬ (8:Int)=1;decide),ed];rfl
   rw[ep];simp[zcM,Pl.k,Pl.on,pairK,joinK]
  rw[e];have g1:WrT ([32,111,110,32]++(n++([32,61,32]++m))) ((1,sOn,0)::[(1,n,0),(4,[61],0),(1,m,0)]):=by
   have:=zbE (wr_sp (zas kw_on) (wr_eq hn hm));simpa [sOn] using this
  have g2:WrT (zaE++(41::([32,111,110,32]++(n++([32,61,32]++m))))) ((1,zaE,0)::(4,[41],0)::(1,sOn,0)::[(1,n,0),(4,[61],0),(1,m,0)]) :=
   (zas zer).app (u:=41::([32,111,110,32]++(n++([32,61,32]++m)))) ((zbs (x:=[41]) (by decide) (by decide) (by decide)).app g1) (fun r=>cl_sg 41 (by decide) (by decide) _)
  have g3:=wr_sp (zas znH) (((zbs (x:=[40]) (by decide) (by decide) (by decide))).app (wrP (zas hm) g2));have:=wrP h g3;simpa [sqT,zaE] using this
 ·have e:tkQ (sqPl 6 n m N a)=tkQ a++((4,[124],0)::((1,zbM,0)::(1,n,0)::(4,[58],0)::(((1,zdS,0)::(4,[40],0)::(4,[41],0)::[(1,sAs,0),(1,m,0)])++((4,[44],0)::((1,sSum,0)::(4,[40],0)::(1,m,0)::(4,[41],0)::[(1,sAs,0),(1,n,0)]))))):=by
   show tkQ (.mk 6 [] [a] _ [n] [] [] [(zdS,[],m),(sSum,m,n)] [] 0)=_
   rw[zb7 _ _ _ _ _ _ _ _ _ (by decide)];simp[zcM,Pl.k,Pl.names,Pl.aggs,aggK,colK,joinK,zao.ne hm]
  rw[e];have a1:WrT (aggT (zdS,[],m)) (aggK (zdS,[],m)):=zmj ⟨zjd,.inl rfl,hm⟩;have a2:WrT (aggT (sSum,m,n)) (aggK (sSum,m,n)):=zmj ⟨zms,.inr hm,hn⟩;have g:=wr_sp (zas zkQ) (wr_sp (zas hn) ((zbs (x:=[58]) (by decide) (by decide) (by decide)).app (zbE (zfz a1 a2))));have:=wrP h g;simpa [sqT,aggT,aggK,colK,zdS,sSum,zao.ne hm] using this
 ·have e:tkQ (sqPl 7 n m N a)=tkQ a++((4,[124],0)::((1,zbL,0)::[(1,m,0)])):=by
   show tkQ (.mk 7 [] [a,scanL m] _ [] [] [] [] [] 0)=_
   rw[zdC _ _ _ _ _ _ _ _ _ _ (by decide)];simp[zcM,Pl.k,partK,scanL,Pl.nm]
  rw[e];exact wrP h (wr_sp (zas zkP) (zas hm))
 ·have e:tkQ (sqPl 8 n m N a)=tkQ a++((4,[124],0)::[(1,zaE,0)]):=by
   show tkQ (.mk 8 [] [a] _ [] [] [] [] [] 0)=_
   rw[zb7 _ _ _ _ _ _ _ _ _ (by decide)];rfl
  rw[e];exact wrP h (zas zer)
 ·have e:tkQ (sqPl 9 n m N a)=tkQ a++((4,[124],0)::((1,zbu,0)::(2,[],N)::(1,sBy,0)::([(1,n,0),(1,sDown,0)]++((4,[44],0)::[(1,m,0)])))):=by
   show tkQ (.mk 9 [] [a] _ [] [] [] [] [(n,true),(m,false)] N)=_
   rw[zb7 _ _ _ _ _ _ _ _ _ (by decide)];simp[zcM,Pl.k,Pl.ord,Pl.cnt,byK,ordK,joinK]
  rw[e];have g:=wr_sp (zas zhS) (wr_sp (zdP h0 h1) (wr_sp (zas kw_by) (zfz (wr_sp (zas hn) (zas znM)) (zas hm))));have:=wrP h g;simpa [sqT,sBy,sDown] using this
theorem sq_ok {a:Pl} {k:Int} {n m:Str} {N:Int} (hk:2≤k∧k≤9) (ha:OkQ a) (hd:deepQ a≤1) (hn:zdk n) (hm:zdk m) (h0:0≤N) (h1:N≤9223372036854775807):OkQ (sqPl k n m N a)∧deepQ (sqPl k n m N a)≤1:=by
 have hc:k=2∨k=3∨k=4∨k=5∨k=6∨k=7∨k=8∨k=9:=by omega
 have hs:partN (scanL m,deepQ (scanL m))=0:=rfl;have hdl:partN (distL m,deepQ (distL m))=1:=by
  unfold partN;rw[if_neg (by show ¬ (8:Int)=1;decide)];show deepQ (.mk 8 [] [scanL m] zEx [] [] [] [] [] 0)+1=1
  rw[zbd _ _ _ _ _ _ _ _ _ (by decide),zdw]
 rcases hc with rfl|rfl|rfl|rfl|rfl|rfl|rfl|rfl
 ·exact ⟨.where_ a _ ha (zsg hn h0 h1),by show deepQ (.mk 2 [] [a] _ [] [] [] [] [] 0)≤1;rw[zbd _ _ _ _ _ _ _ _ _ (by decide)];exact hd⟩
 ·refine ⟨.keep a [n,m] [zax m,zat sNot (zax n)] ha rfl (by simp) (fun x hx=>?_) (fun x hx=>?_),by show deepQ (.mk 3 [] [a] _ _ _ [] [] [] 0)≤1;rw[zbd _ _ _ _ _ _ _ _ _ (by decide)];exact hd⟩
  ·simp only[List.mem_cons,List.not_mem_nil,or_false]at hx;rcases hx with rfl|rfl
   ·exact zqf hm
   ·exact zqe hn
  ·simp only[List.mem_cons,List.not_mem_nil,or_false]at hx;rcases hx with rfl|rfl
   ·exact hn.1
   ·exact hm.1
 ·refine ⟨.join 4 a (scanL m) _ (.inl rfl) ha (.scan m hm.1) (by simp) (fun o ho=>?_),by show deepQ (.mk 4 [] [a,scanL m] _ _ _ _ [] [] 0)≤1;rw[zcq _ _ _ _ _ _ _ _ _ _ (by decide),hs];omega⟩;simp only[List.mem_cons,List.not_mem_nil,or_false]at ho;rcases ho with rfl|rfl
  ·exact ⟨hn.1,hm.1⟩
  ·exact ⟨hm.1,hn.1⟩
 ·refine ⟨.join 5 a (distL m) _ (.inr rfl) ha (.dist _ (.scan m hm.1)) (by simp) (fun o ho=>?_),by show deepQ (.mk 5 [] [a,distL m] _ _ _ _ [] [] 0)≤1;rw[zcq _ _ _ _ _ _ _ _ _ _ (by decide),hdl];omega⟩;simp only[List.mem_cons,List.not_mem_nil,or_false]at ho;subst ho;exact ⟨hn.1,hm.1⟩
 ·refine ⟨.group a [n] _ ha (fun x hx=>?_) (fun g hg=>?_),by show deepQ (.mk 6 [] [a] _ _ _ [] _ [] 0)≤1;rw[zbd _ _ _ _ _ _ _ _ _ (by decide)];exact hd⟩
  ·simp only[List.mem_cons,List.not_mem_nil,or_false]at hx;subst hx;exact hn.1
  ·simp only[List.mem_cons,List.not_mem_nil,or_false]at hg;rcases hg with rfl|rfl
   ·exact ⟨zjd,.inl rfl,hm.1⟩
   ·exact ⟨zms,.inr hm.1,hn.1⟩
 ·exact ⟨.union a (scanL m) ha (.scan m hm.1),by show deepQ (.mk 7 [] [a,scanL m] _ _ _ _ [] [] 0)≤1;rw[zcq _ _ _ _ _ _ _ _ _ _ (by decide),hs];omega⟩
 ·exact ⟨.dist a ha,by show deepQ (.mk 8 [] [a] _ _ _ [] [] [] 0)≤1;rw[zbd _ _ _ _ _ _ _ _ _ (by decide)];exact hd⟩
 ·refine ⟨.first a N _ ha h0 h1 (fun o ho=>?_),by show deepQ (.mk 9 [] [a] _ _ _ [] [] _ N)≤1;rw[zbd _ _ _ _ _ _ _ _ _ (by decide)];exact hd⟩;simp only[List.mem_cons,List.not_mem_nil,or_false]at ho;rcases ho with rfl|rfl
  ·exact hn.1
  ·exact hm.1
theorem zrx {p:Pl} {t:Str} (ok:OkQ p) (hd:deepQ p≤1) (h:WrT t (tkQ p)) (hl:t.length+2≤16384):zdn t=(p,t.length,0)∧zdn ([40]++t++[41])=(p,t.length+2,0):=by
 have h1:RdT t (tkQ p):=by
  have:=h [] [] RdT.nil Cl.nil;rwa [List.append_nil,List.append_nil]at this
 constructor
 ·obtain ⟨ha,hn⟩:=ze9 h1 (by omega);have hb:=(zkk ok (rest:=[]) (by rw[List.append_nil];exact ha) (Sg.nil _)).1 (by omega);rw[zf6,hb];exact zh8 h1 (by omega) rfl
 ·have h2:RdT ([40]++t++[41]) ((4,[40],0)::(tkQ p++[(4,[41],0)])):=by
   have:=(zbs (x:=[40]) (by decide) (by decide) (by decide)).app (h.app (u:=[41]) (zbs (x:=[41]) (by decide) (by decide) (by decide)).wt (fun r=>cl_sg 41 (by decide) (by decide) _)) [] [] RdT.nil Cl.nil;simpa using this
  have:=(zh6 ok h2 (by simp;omega)).1 (by omega);rw[this];simp
