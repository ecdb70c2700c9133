/- The plain law of definitions put together: two texts that are definitions are so together; errors are told at a token or at the end. No program in sight. The plain law of a definition's text that is cut off: it is read as no definition. No program in sight. The plain law of sources, assets and schedules as they may be written: what they are read as, and that nothing is read without the last ';'. No program in sight. -/
import Derived.Test.YtonkjhmkppeagaaGreatDoorNDf
import Derived.Test.YtonkjhmkppeagaaGreatDoorNQg
import Derived.Lib.ItoaLen
set_option linter.unusedVariables false
namespace Go.Proofs.YtonkjhmkppeagaaGreatDoor.Pz
open Go Go.RowKit Lx
end Go.Proofs.YtonkjhmkppeagaaGreatDoor.Pz
namespace Go.Proofs.YtonkjhmkppeagaaGreatDoor.Lx
open Go Go.RowKit Ba
end Go.Proofs.YtonkjhmkppeagaaGreatDoor.Lx
namespace Go.Proofs.YtonkjhmkppeagaaGreatDoor.Pz
open Go Go.RowKit Lx
theorem def_short {d:Df} (ok:OkD d) {s:Ps} (a:At s (dfK0 d)):(defP s).2.e=51∧(defP s).2.a=s.E:=by
 have key:∀ s2,defK (oneP defWords s).1 (oneP defWords s).2=(d,s2)→At s2 []→s2.E=s.E→(defP s).2.e=51∧(defP s).2.a=s.E:=fun s2 h h2 hE=>by
  have e:(defP s).2=wantP [59] s2:=by unfold defP;rw [h]
  have hp:peekP s2=zTok:=h2.nilK
  have hn:isP s2 [59]=false:=by rw [h2.is];rfl
  rw [e]
  unfold wantP
  rw [if_neg (by rw [hn];decide)]
  unfold failP
  rw [if_pos h2.1]
  refine ⟨rfl,?_⟩
  have hT:s2.T[s2.i]?=none:=by
   have h3:=h2.2
   have h4:(s2.T.drop s2.i).length=0:=by rw [← List.length_map (f:=tri),h3];rfl
   rw [List.length_drop] at h4
   exact List.getElem?_eq_none (by omega)
  simp only [hT]
  exact hE
 cases ok with
 | source n cs x hn h0 hc hs =>
  have h:At s ((1,sSource,0)::(1,n,0)::(4,[40],0)::(joinK (cs.map colK2)++(4,[41],0)::(scK x++[]))):=by
   rw [List.append_nil];exact a
  obtain ⟨e1,h1⟩:=one_at (ws:=defWords) (j:=0) (.inl rfl) h (by decide)
  have e2:=source_back h0 (fun c hc'=>(hc c hc').2) hs h1
  have h2:=At.app (a:=(1,n,0)::(4,[40],0)::(joinK (cs.map colK2)++(4,[41],0)::scK x)) (b:=[]) (s:=advP s) (by simpa only [List.cons_append,List.append_assoc] using h1)
  have el:((1,n,0)::(4,[40],0)::(joinK (cs.map colK2)++(4,[41],0)::scK x):List Tk).length=1+(1+((joinK (cs.map colK2)).length+(1+(scK x).length))):=by
   simp only [List.length_cons,List.length_append];omega
  rw [el] at h2
  exact key _ (by rw [e1];exact e2) h2 rfl
 | asset n x ins p hn hs h0 hi hp hd =>
  have h:At s ((1,sAsset,0)::(1,n,0)::(scK x++(1,sFrom,0)::(joinK (ins.map inK)++(1,sDo,0)::(tkQ p++[])))):=by
   rw [List.append_nil];exact a
  obtain ⟨e1,h1⟩:=one_at (ws:=defWords) (j:=1) (.inl rfl) h (by decide)
  have e2:=asset_back hs h0 hi hp hd (Sg.nil _) h1
  have h2:=At.app (a:=(1,n,0)::(scK x++(1,sFrom,0)::(joinK (ins.map inK)++(1,sDo,0)::tkQ p))) (b:=[]) (s:=advP s) (by simpa only [List.cons_append,List.append_assoc] using h1)
  have el:((1,n,0)::(scK x++(1,sFrom,0)::(joinK (ins.map inK)++(1,sDo,0)::tkQ p)):List Tk).length=1+((scK x).length+(1+((joinK (ins.map inK)).length+(1+(tkQ p).length)))):=by
   simp only [List.length_cons,List.length_append];omega
  rw [el] at h2
  exact key _ (by rw [e1];exact e2) h2 rfl
 | schedule n c ms hn hc h0 hm =>
  have h:At s ((1,sSchedule,0)::(1,n,0)::(3,c,0)::(1,sMakes,0)::(joinK (ms.map nameK)++[])):=by
   rw [List.append_nil];exact a
  obtain ⟨e1,h1⟩:=one_at (ws:=defWords) (j:=2) (.inl rfl) h (by decide)
  have e2:=schedule_back h0 (rest:=[]) rfl h1
  have h2:=At.app (a:=(1,n,0)::(3,c,0)::(1,sMakes,0)::joinK (ms.map nameK)) (b:=[]) (s:=advP s) (by simpa only [List.cons_append,List.append_assoc] using h1)
  have el:((1,n,0)::(3,c,0)::(1,sMakes,0)::joinK (ms.map nameK):List Tk).length=1+(1+(1+(joinK (ms.map nameK)).length)):=by
   simp only [List.length_cons];omega
  rw [el] at h2
  exact key _ (by rw [e1];exact e2) h2 rfl
theorem dfK0_ne {d:Df}:dfK0 d≠[]:=by
 unfold dfK0
 split
 ·exact List.cons_ne_nil _ _
 ·split<;>exact List.cons_ne_nil _ _
theorem parse_short {d:Df} (ok:OkD d) {l:Str} (h:RdT l (dfK0 d)) (hl:l.length≤16384):parseOf l=([],l.length,51):=by
 obtain ⟨ha,hn⟩:=open_at h hl
 obtain ⟨e1,e2⟩:=def_short ok ha
 have hlt:(openP l).e=0∧(openP l).i < (openP l).T.length:=⟨ha.1,by
  rw [hn]
  show 0 < _
  cases hd:dfK0 d with
  | nil=>exact absurd hd dfK0_ne
  | cons a r=>exact Nat.succ_pos _⟩
 have hs:(defsP (openP l)).2=(defP (openP l)).2:=by
  have u:defsP (openP l)=defsLoop (openP l).T.length ([]++[(defP (openP l)).1]) (defP (openP l)).2:=by
   unfold defsP
   rw [defsLoop,if_pos hlt]
  rw [u,defs_end (fun x=>by rw [e1] at x;exact absurd x.1 (by decide))]
 rw [parseOf_is,hs,all_err (by rw [e1];decide),e1,e2]
 rfl
end Go.Proofs.YtonkjhmkppeagaaGreatDoor.Pz
namespace Go.Proofs.YtonkjhmkppeagaaGreatDoor.Pz
open Go Go.RowKit Lx
theorem wa_ws {c:UInt8} (hc:wsB c=true):WrA [c] []:=fun r ts hr=>hr.ws hc
theorem comma1:WrA [44] [(4,[44],0)]:=wr_sign (x:=[44]) (by decide) (by decide) (by decide)
theorem comma2:WrA [44,32] [(4,[44],0)]:=comma1.both (u:=[32]) (j:=[]) (wa_ws (by decide))
theorem comma3:WrA [32,44,32] [(4,[44],0)]:=(wa_ws (c:=32) (by decide)).both (u:=[44,32]) (j:=[(4,[44],0)]) comma2
theorem wr_joinW {sep:Str} (hs:WrA sep [(4,[44],0)]) (hc:∀ r,Cl (sep++r)) {α:Type} {tx:α→Str} {tk:α→List Tk}:∀ (l:List α),(∀ x ∈ l,WrT (tx x) (tk x))→WrT (joinS sep (l.map tx)) (joinK (l.map tk))
 | [],h=>WrT.empty
 | [x],h=>h x (by simp)
 | x::y::l,h=>by
  have ih:=wr_joinW hs hc (y::l) (fun z hz=>h z (List.mem_cons_of_mem _ hz))
  exact (h x (by simp)).app (u:=sep++joinS sep ((y::l).map tx)) (j:=(4,[44],0)::joinK ((y::l).map tk)) (hs.app ih) (fun r=>by rw [List.append_assoc];exact hc _)
theorem joinS_bd (sep:Str) (m:Nat):∀ (l:List Str),(∀ x ∈ l,x.length≤m)→(joinS sep l).length≤l.length * (m+sep.length)
 | [],h=>Nat.zero_le _
 | [x],h=>by
  have:=h x (by simp)
  show x.length≤1 * _
  omega
 | x::y::l,h=>by
  have h1:=h x (by simp)
  have h2:=joinS_bd sep m (y::l) (fun z hz=>h z (List.mem_cons_of_mem _ hz))
  show (x++(sep++joinS sep (y::l))).length≤_
  rw [List.length_append,List.length_append,List.length_cons (a:=x),Nat.add_mul]
  omega
theorem one_law {t:Str} {d:Df} (ok:OkD d) (h:WrT t (dfK0 d)) (hl:t.length+1≤16384):parseOf (t++[59])=([d],t.length+1,0)∧parseOf t=([],t.length,51):=by
 constructor
 ·have h1:RdT (t++[59]) (defsK [d]):=by
   have:=h [59] [(4,[59],0)] (RdT.sign (x:=[59]) (by decide) (by decide) (by decide) RdT.nil) (cl_one (by decide) (by decide))
   have e:defsK [d]=dfK0 d++[(4,[59],0)]:=by
    show (dfK d++[])=_
    rw [List.append_nil];rfl
   rw [e];exact this
  have:=parseOf_rd (ds:=[d]) (fun x hx=>by rw [List.mem_singleton] at hx;subst hx;exact ok) h1 (by rw [List.length_append];exact hl)
  rw [this,List.length_append];rfl
 ·have h1:RdT t (dfK0 d):=by
   have:=h [] [] RdT.nil Cl.nil
   rw [List.append_nil,List.append_nil] at this
   exact this
  exact parse_short ok h1 (by omega)
def srcT0 (n:Str) (cs:List (Str × Int)) (s:Sc):Str:=sSource++(32::(n++(40::(joinS [44] (cs.map colT)++(41::32::scT s)))))
theorem wr_src {n:Str} {cs:List (Str × Int)} {s:Sc} (hn:WordOk n) (hc:∀ c ∈ cs,WordOk c.1∧(c.2=1∨c.2=2)) (hs:OkSc s):WrT (srcT0 n cs s) (dfK0 ⟨1,n,cs,s,[],zPl,[],[]⟩):=by
 have g3:WrT (41::32::scT s) ((4,[41],0)::scK s):=(wr_sign (x:=[41]) (by decide) (by decide) (by decide)).app (u:=32::scT s) (j:=scK s) (wr_blank (wr_sc hs))
 have g2:WrT (joinS [44] (cs.map colT)++(41::32::scT s)) (joinK (cs.map colK2)++((4,[41],0)::scK s)):=(wr_joinW comma1 (fun r=>cl_one (by decide) (by decide)) cs (fun c hc'=>wr_col (hc c hc'))).app g3 (fun r=>cl_one (by decide) (by decide))
 have g1:WrT (40::(joinS [44] (cs.map colT)++(41::32::scT s))) ((4,[40],0)::(joinK (cs.map colK2)++((4,[41],0)::scK s))):=(wr_sign (x:=[40]) (by decide) (by decide) (by decide)).app g2
 have g0:WrT (n++(40::(joinS [44] (cs.map colT)++(41::32::scT s)))) ((1,n,0)::(4,[40],0)::(joinK (cs.map colK2)++((4,[41],0)::scK s))):=(wr_word hn).app g1 (fun r=>cl_one (by decide) (by decide))
 exact wr_sp (wr_word kw_source) g0
theorem wAt_len {k:Int} (h:1≤k∧k≤5):(wAt schemeWords k).length≤7∧(wAt mapWords k).length≤6:=by
 have:k=1∨k=2∨k=3∨k=4∨k=5:=by omega
 rcases this with rfl|rfl|rfl|rfl|rfl<;>decide
theorem scT_len {s:Sc} (h:OkSc s):(scT s).length≤60:=by
 have h1:=Lib.itoa_length_le s.f (by have:=h.2.1.1;omega) h.2.1.2
 have h2:=Lib.itoa_length_le s.l (by have:=h.2.2.1;omega) h.2.2.2
 have h3:=(wAt_len h.1).1
 unfold scT
 rw [if_pos h.1]
 simp only [List.length_append,List.length_cons,List.length_nil]
 omega
theorem source_law {n:Str} {cs:List (Str × Int)} {s:Sc} (hn:WordOk n) (hn16:n.length≤16) (h0:cs≠[]) (h20:cs.length≤20) (hc:∀ c ∈ cs,WordOk c.1∧c.1.length≤16∧(c.2=1∨c.2=2)) (hs:OkSc s) :
 parseOf (srcT0 n cs s++[59])=([⟨1,n,cs,s,[],zPl,[],[]⟩],(srcT0 n cs s).length+1,0)∧parseOf (srcT0 n cs s)=([],(srcT0 n cs s).length,51)∧(srcT0 n cs s).length≤1000:=by
 have hb:=joinS_bd [44] 24 (cs.map colT) (fun x hx=>by
  obtain ⟨c,hc',rfl⟩:=List.mem_map.1 hx
  have:=(hc c hc').2.1
  unfold colT
  split<;>simp only [List.length_append,List.length_cons,show sText.length=4 from rfl,show sInt.length=3 from rfl]<;>omega)
 have hb2:cs.length * 25≤500:=by omega
 have hs2:=scT_len hs
 have hl:(srcT0 n cs s).length≤1000:=by
  unfold srcT0
  rw [List.length_map] at hb
  have hb':(joinS [44] (cs.map colT)).length≤cs.length * 25:=hb
  simp only [List.length_append,List.length_cons,show sSource.length=6 from rfl]
  omega
 obtain ⟨a,b⟩:=one_law (.source n cs s hn h0 (fun c hc'=>⟨(hc c hc').1,(hc c hc').2.2⟩) hs) (wr_src hn (fun c hc'=>⟨(hc c hc').1,(hc c hc').2.2⟩) hs) (by omega)
 exact ⟨a,b,hl⟩
theorem cl_ws {c:UInt8} (h:c=32∨c=10) (l:Str):Cl (c::l):=by rcases h with rfl|rfl<;>exact cl_one (by decide) (by decide)
def schT0 (n c:Str) (ms:List Str):Str:=sSchedule++(32::(n++(32::(Va.quotedL c++(32::(sMakes++(32::(joinS [32,44,32] ms++[32]))))))))
theorem wr_sch {n c:Str} {ms:List Str} (hn:WordOk n) (hc:TokOk ⟨3,c,0,0⟩) (hm:∀ m ∈ ms,WordOk m):WrT (schT0 n c ms) (dfK0 ⟨3,n,[],zSc,[],zPl,c,ms⟩):=by
 have g4:WrT (joinS [32,44,32] ms) (joinK (ms.map nameK)):=by
  have:=wr_joinW comma3 (fun r=>cl_ws (.inl rfl) _) (tx:=fun m:Str=>m) (tk:=nameK) ms (fun m h=>wr_word (hm m h))
  simpa using this
 have g3:WrT (joinS [32,44,32] ms++[32]) (joinK (ms.map nameK)):=by
  have:=g4.app (u:=[32]) (j:=[]) (wa_ws (c:=32) (by decide)).wt (fun r=>cl_ws (.inl rfl) _)
  rw [List.append_nil] at this;exact this
 exact wr_sp (wr_word kw_schedule) (wr_sp (wr_word hn) (wr_sp (k:=[(3,c,0)]) (wr_quo hc).wt (wr_sp (wr_word kw_makes) g3)))
theorem esc_len (c:Str):(Va.esc c).length≤2 * c.length:=by
 induction c with
 | nil=>exact Nat.le_refl _
 | cons b r ih =>
  unfold Va.esc
  rw [List.length_append,List.length_cons]
  split<;>simp only [List.length_cons,List.length_nil]<;>omega
theorem schedule_law {n c:Str} {ms:List Str} (hn:WordOk n) (hn16:n.length≤16) (hc:TokOk ⟨3,c,0,0⟩) (hc64:c.length≤64) (h0:ms≠[]) (h20:ms.length≤20) (hm:∀ m ∈ ms,WordOk m∧m.length≤16) :
 parseOf (schT0 n c ms++[59])=([⟨3,n,[],zSc,[],zPl,c,ms⟩],(schT0 n c ms).length+1,0)∧parseOf (schT0 n c ms)=([],(schT0 n c ms).length,51)∧(schT0 n c ms).length≤1000:=by
 have hb:=joinS_bd [32,44,32] 16 ms (fun x hx=>(hm x hx).2)
 have he:=esc_len c
 have hl:(schT0 n c ms).length≤1000:=by
  unfold schT0 Va.quotedL
  have hb':(joinS [32,44,32] ms).length≤ms.length * 19:=hb
  simp only [List.length_append,List.length_cons,List.length_nil,show sSchedule.length=8 from rfl,show sMakes.length=5 from rfl]
  omega
 obtain ⟨a,b⟩:=one_law (.schedule n c ms hn hc h0 (fun m h=>(hm m h).1)) (wr_sch hn hc (fun m h=>(hm m h).1)) (by omega)
 exact ⟨a,b,hl⟩
end Go.Proofs.YtonkjhmkppeagaaGreatDoor.Pz
