/- The plain law of definitions put together: two texts that are definitions are so together; errors are told at a token or at the end. No program in sight. The plain law of a definition's text that is cut off: it is read as no definition. No program in sight. The plain law of sources, assets and schedules as they may be written: what they are read as, and that nothing is read without the last ';'. No program in sight. -/
import Derived.Test.YtonkjhmkppeagaaGreatDoorTDf
import Derived.Test.YtonkjhmkppeagaaGreatDoorTQg
import Derived.Lib.ItoaLen
set_option linter.unusedVariables false
namespace Go.Proofs.YtonkjhmkppeagaaGreatDoor.Pz
open Go Go.RowKit Lx
theorem defs_snoc:∀ (n:Nat) (acc:List Df) (s:Ps),(defsLoop n acc s).1=acc++(defsLoop n [] s).1∧(defsLoop n acc s).2=(defsLoop n [] s).2
 | 0,acc,s=>⟨(List.append_nil _).symm,rfl⟩
 | n+1,acc,s=>by
  unfold defsLoop
  split
  ·obtain ⟨a1,a2⟩:=defs_snoc n (acc++[(defP s).1]) (defP s).2
   obtain ⟨b1,b2⟩:=defs_snoc n ([]++[(defP s).1]) (defP s).2
   rw [a1,a2,b1,b2]
   exact ⟨by simp,rfl⟩
  ·exact ⟨(List.append_nil _).symm,rfl⟩
theorem defs_tail:∀ (fuel fuel':Nat) (s s':Ps),(∀ n,Rl n s s')→s.T.length+s'.i=s'.T.length+s.i→s.i≤s.T.length→s'.i≤s'.T.length→s.T.length < fuel+s.i→s'.T.length < fuel'+s'.i →
 (defsLoop fuel' [] s').1=(defsLoop fuel [] s).1∧(defsLoop fuel' [] s').2.e=(defsLoop fuel [] s).2.e∧(defsLoop fuel' [] s').2.i+s.i=(defsLoop fuel [] s).2.i+s'.i
 | 0,fuel',s,s',h,hl,h1,h2,hf,hf'=>absurd hf (by omega)
 | fuel+1,0,s,s',h,hl,h1,h2,hf,hf'=>absurd hf' (by omega)
 | fuel+1,fuel'+1,s,s',h,hl,h1,h2,hf,hf'=>by
  have he:=(h 0).1
  by_cases hc:s.e=0∧s.i < s.T.length
  ·have hc':s'.e=0∧s'.i < s'.T.length:=⟨he.trans hc.1,by omega⟩
   unfold defsLoop
   rw [if_pos hc,if_pos hc']
   have g:=goes_def s
   have g':=goes_def s'
   have gi:=g.i
   have gi':=g'.i
   have gl:=g.le h1
   have gl':=g'.le h2
   obtain ⟨v,e,i⟩:=loc_def.eq ((defP s).2.i - s.i+1) s s' (h _) (by omega)
   have hr:∀ n,Rl n (defP s).2 (defP s').2:=fun n=>by
    have:=loc_def.rl (h (n+((defP s).2.i - s.i)+1)) (by omega)
    exact this.less (by omega)
   obtain ⟨a1,a2⟩:=defs_snoc fuel ([]++[(defP s).1]) (defP s).2
   obtain ⟨b1,b2⟩:=defs_snoc fuel' ([]++[(defP s').1]) (defP s').2
   rw [a1,a2,b1,b2]
   by_cases hz:(defP s).2.e=0
   ·have hm:=def_moves s hz
    have hm':=def_moves s' (e.trans hz)
    obtain ⟨q1,q2,q3⟩:=defs_tail fuel fuel' (defP s).2 (defP s').2 hr (by rw [g.T,g'.T];omega) (by rw [g.T];omega) (by rw [g'.T];omega) (by rw [g.T];omega) (by rw [g'.T];omega)
    rw [v,q1,q2]
    exact ⟨rfl,rfl,by omega⟩
   ·rw [defs_end (fun x=>hz x.1),defs_end (fun x=>hz (e.symm.trans x.1)),v]
    exact ⟨rfl,e,by simp only;omega⟩
  ·have hc':¬ (s'.e=0∧s'.i < s'.T.length):=fun x=>hc ⟨he.symm.trans x.1,by omega⟩
   rw [defs_end hc,defs_end hc']
   exact ⟨rfl,he,by simp only;omega⟩
theorem defs_head:∀ (fuel fuel':Nat) (s s':Ps),s'.i=s.i→Rl (s.T.length - s.i) s s'→s.i≤s.T.length→s.T.length≤s'.T.length→(defsLoop fuel [] s).2.e=0→s.T.length < fuel+s.i→s'.T.length < fuel'+s'.i →
 ∃ (fuel'':Nat) (s'':Ps),s''.T=s'.T∧s''.E=s'.E∧s''.e=0∧s''.i=s.T.length∧s''.T.length < fuel''+s''.i∧(defsLoop fuel' [] s').1=(defsLoop fuel [] s).1++(defsLoop fuel'' [] s'').1∧(defsLoop fuel' [] s').2=(defsLoop fuel'' [] s'').2
 | 0,fuel',s,s',hi,h,h1,h2,he,hf,hf'=>absurd hf (by omega)
 | fuel+1,0,s,s',hi,h,h1,h2,he,hf,hf'=>absurd hf' (by omega)
 | fuel+1,fuel'+1,s,s',hi,h,h1,h2,he,hf,hf'=>by
  have hse:s.e=0:=(goes_defsLoop _ _ _).back he
  by_cases hc:s.i < s.T.length
  ·have hc':s'.e=0∧s'.i < s'.T.length:=⟨h.1.trans hse,by omega⟩
   have u1:defsLoop (fuel+1) [] s=defsLoop fuel ([]++[(defP s).1]) (defP s).2:=by rw [defsLoop,if_pos ⟨hse,hc⟩]
   have u2:defsLoop (fuel'+1) [] s'=defsLoop fuel' ([]++[(defP s').1]) (defP s').2:=by rw [defsLoop,if_pos hc']
   obtain ⟨a1,a2⟩:=defs_snoc fuel ([]++[(defP s).1]) (defP s).2
   obtain ⟨b1,b2⟩:=defs_snoc fuel' ([]++[(defP s').1]) (defP s').2
   rw [u1,a2] at he
   rw [u1,u2,a1,b1,b2]
   have hz:(defP s).2.e=0:=(goes_defsLoop _ _ _).back he
   have g:=goes_def s
   have g':=goes_def s'
   have gi:=g.i
   have gl:=g.le h1
   obtain ⟨v,e,i⟩:=def_eq h hz (by omega)
   have hm:=def_moves s hz
   have hii:(defP s').2.i=(defP s).2.i:=by omega
   have hr:Rl ((defP s).2.T.length - (defP s).2.i) (defP s).2 (defP s').2:=by
    rw [g.T]
    exact (h.on (c:=(defP s).2.i - s.i) g.T g'.T (by omega) (by omega) (e.trans hz.symm)).less (by omega)
   obtain ⟨f2,s2,q1,q2,q3,q4,q5,q6,q7⟩:=defs_head fuel fuel' (defP s).2 (defP s').2 hii hr (by rw [g.T];omega) (by rw [g.T,g'.T];omega) he (by rw [g.T];omega) (by rw [g'.T];omega)
   refine ⟨f2,s2,q1.trans g'.T,q2.trans g'.E,q3,by rw [q4,g.T],q5,?_,q7⟩
   rw [v,q6];simp only [List.append_assoc]
  ·have hn:¬ (s.e=0∧s.i < s.T.length):=fun x=>hc x.2
   refine ⟨fuel'+1,s',rfl,rfl,h.1.trans hse,by omega,hf',?_,rfl⟩
   rw [defs_end hn];rfl
theorem allP_e {s s':Ps} (he:s'.e=s.e) (hi:s'.i < s'.T.length ↔ s.i < s.T.length):(allP s').e=(allP s).e:=by
 unfold allP
 by_cases hc:s.e=0∧s.i < s.T.length
 ·rw [if_pos hc,if_pos ⟨he.trans hc.1,hi.2 hc.2⟩]
  unfold failP
  rw [if_pos hc.1,if_pos (he.trans hc.1)]
 ·rw [if_neg hc,if_neg (fun x=>hc ⟨he.symm.trans x.1,hi.1 x.2⟩)]
  exact he
theorem parse_lex_err {l:Str} (h:(lexS l).2.2≠0):parseOf l=([],(lexS l).2.1,(lexS l).2.2):=by
 have e:defsP (openP l)=([],openP l):=defs_end (fun x=>h x.1) _
 rw [parseOf_is,e]
 exact all_err (z:=[]) (s:=openP l) h
theorem parse_e {l:Str}:(parseOf l).2.2=(allP (defsP (openP l)).2).e:=by
 unfold parseOf
 split
 ·rename_i h;exact h.symm
 ·rfl
theorem parse_l {l:Str} (h:(parseOf l).2.2=0):(parseOf l).1=(defsP (openP l)).1∧(defsP (openP l)).2.e=0∧¬ (defsP (openP l)).2.i < (defsP (openP l)).2.T.length:=by
 rw [parse_e] at h
 have hs:(defsP (openP l)).2.e=0:=by
  apply Classical.byContradiction;intro hn
  rw [allP_err hn] at h;exact hn h
 refine ⟨by unfold parseOf;rw [if_pos h],hs,fun hi=>?_⟩
 rw [allP_more hs hi] at h
 exact fail_ne _ _ (by decide) h
theorem parse_nil {l:Str} (h:(parseOf l).2.2≠0):(parseOf l).1=[]:=by
 rw [parse_e] at h
 unfold parseOf
 rw [if_neg h]
theorem open_le (l:Str):(openP l).i≤(openP l).T.length:=Nat.zero_le _
theorem parts_parse {a b:Str} (hl:a.length+b.length+1≤16384) (h:(parseOf a).2.2=0) :
 (parseOf (a++10::b)).2.2=(parseOf b).2.2∧((parseOf b).2.2=0→(parseOf (a++10::b)).1=(parseOf a).1++(parseOf b).1):=by
 obtain ⟨hd,hs,hi⟩:=parse_l h
 have la:(lexS a).2.2=0:=by
  have:(openP a).e=0:=(goes_defs (openP a)).back hs
  exact this
 have ea:lexS a=lexL a 0:=by unfold lexS;rw [if_neg (by omega)]
 have eb:lexS b=lexL b 0:=by unfold lexS;rw [if_neg (by omega)]
 have eab:lexS (a++10::b)=pre (lexS a).1 ((lexS b).1.map (shT (a.length+1)),(lexS b).2.1+(a.length+1),(lexS b).2.2):=by
  have:¬ 16384 < (a++10::b).length:=by rw [List.length_append,List.length_cons];omega
  rw [show lexS (a++10::b)=lexL (a++10::b) 0 from by unfold lexS;rw [if_neg this],lex_parts a.length a b 0 (Nat.le_refl _),← ea,if_pos la]
  have:=lex_shift (a.length+1) b.length b 0 (Nat.le_refl _)
  rw [show 0+a.length+1=0+(a.length+1) by omega,this,eb]
 by_cases lb:(lexS b).2.2=0
 ·have eT:(openP (a++10::b)).T=(lexS a).1++(lexS b).1.map (shT (a.length+1)):=by
   show (lexS (a++10::b)).1=_
   rw [eab];unfold pre;rw [if_pos lb]
  have ee:(openP (a++10::b)).e=0:=by
   show (lexS (a++10::b)).2.2=_
   rw [eab];unfold pre;rw [if_pos lb]
  have hrl:Rl ((openP a).T.length - (openP a).i) (openP a) (openP (a++10::b)):=by
   refine ⟨ee.trans (show (0:Int)=(lexS a).2.2 from la.symm),fun j hj=>?_⟩
   have hj':j < (lexS a).1.length:=hj
   rw [eT]
   show (((lexS a).1++(lexS b).1.map (shT (a.length+1)))[0+j]?).map tri=((lexS a).1[0+j]?).map tri
   rw [Nat.zero_add,List.getElem?_append_left hj']
  obtain ⟨f2,s2,q1,q2,q3,q4,q5,q6,q7⟩:=defs_head ((openP a).T.length+1) ((openP (a++10::b)).T.length+1) (openP a) (openP (a++10::b)) rfl hrl (open_le _) (by rw [eT,List.length_append];exact Nat.le_add_right _ _) hs (by show _ < _+0;omega) (by show _ < _+0;omega)
  have hTl:s2.T.length=(openP a).T.length+(openP b).T.length:=by rw [q1,eT,List.length_append,List.length_map];rfl
  have hr2:∀ n,Rl n (openP b) s2:=fun n=>by
   refine ⟨q3.trans (show (0:Int)=(lexS b).2.2 from lb.symm),fun j _=>?_⟩
   rw [q1,eT,q4]
   show (((lexS a).1++(lexS b).1.map (shT (a.length+1)))[(lexS a).1.length+j]?).map tri=((lexS b).1[0+j]?).map tri
   rw [List.getElem?_append_right (Nat.le_add_right _ _),Nat.add_sub_cancel_left,List.getElem?_map,Option.map_map,Nat.zero_add]
   rfl
  have hb0:(openP b).i=0:=rfl
  obtain ⟨t1,t2,t3⟩:=defs_tail ((openP b).T.length+1) f2 (openP b) s2 hr2 (by omega) (open_le _) (by omega) (by omega) q5
  have hse:(defsP (openP (a++10::b))).2=(defsLoop f2 [] s2).2:=q7
  have hTT:(defsLoop f2 [] s2).2.T=s2.T:=(goes_defsLoop _ _ _).T
  have hTb:(defsP (openP b)).2.T=(openP b).T:=(goes_defs _).T
  have t2':(defsLoop f2 [] s2).2.e=(defsP (openP b)).2.e:=t2
  have t3':(defsLoop f2 [] s2).2.i+(openP b).i=(defsP (openP b)).2.i+s2.i:=t3
  have hee:(parseOf (a++10::b)).2.2=(parseOf b).2.2:=by
   rw [parse_e,parse_e,hse]
   exact allP_e t2' (by rw [hTT,hTb];omega)
  refine ⟨hee,fun h0=>?_⟩
  rw [(parse_l (hee.trans h0)).1,(parse_l h0).1,hd]
  show (defsLoop _ [] _).1=_
  rw [q6]
  congr 1
 ·have e1:(lexS (a++10::b)).2.2=(lexS b).2.2:=by rw [eab];unfold pre;rw [if_neg lb]
  rw [parse_lex_err (l:=b) lb,parse_lex_err (l:=a++10::b) (by rw [e1];exact lb)]
  exact ⟨e1,fun h0=>absurd h0 lb⟩
theorem parse_place {l:Str} (hl:(lexS l).2.2=0) (h:(parseOf l).2.2≠0):((parseOf l).2.2=51∨(parseOf l).2.2=52)∧((parseOf l).2.1=l.length∨∃ t ∈ (lexS l).1,t.p=(parseOf l).2.1):=by
 have g:Goes (openP l) (allP (defsP (openP l)).2):=by
  refine (goes_defs _).trans ?_
  unfold allP
  split
  ·exact goes_fail _ 51 (.inl rfl)
  ·exact Goes.refl _
 have hp:parseOf l=([],(allP (defsP (openP l)).2).a,(allP (defsP (openP l)).2).e):=by
  rw [parse_e] at h
  unfold parseOf
  rw [if_neg h]
 rw [hp] at h ⊢
 rcases g.ok hl with h0|h0
 ·exact absurd h0 h
 ·exact h0
end Go.Proofs.YtonkjhmkppeagaaGreatDoor.Pz
namespace Go.Proofs.YtonkjhmkppeagaaGreatDoor.Lx
open Go Go.RowKit Ba
end Go.Proofs.YtonkjhmkppeagaaGreatDoor.Lx
namespace Go.Proofs.YtonkjhmkppeagaaGreatDoor.Pz
open Go Go.RowKit Lx
end Go.Proofs.YtonkjhmkppeagaaGreatDoor.Pz
namespace Go.Proofs.YtonkjhmkppeagaaGreatDoor.Pz
open Go Go.RowKit Lx
theorem esc_len (c:Str):(Va.esc c).length≤2 * c.length:=by
 induction c with
 | nil=>exact Nat.le_refl _
 | cons b r ih =>
  unfold Va.esc
  rw [List.length_append,List.length_cons]
  split<;>simp only [List.length_cons,List.length_nil]<;>omega
end Go.Proofs.YtonkjhmkppeagaaGreatDoor.Pz
