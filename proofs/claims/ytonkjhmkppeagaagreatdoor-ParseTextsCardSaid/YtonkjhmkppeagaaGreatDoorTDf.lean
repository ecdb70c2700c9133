/- Definitions: their text, their tokens, what is well formed; their own tokens are read back as them. No program in sight. Definitions: their text is cut into their tokens; what is read is well formed, and has a text that tells it again. No program in sight. Definitions: what is read is well formed, its text not much longer than what it was read from. No program in sight. The plain law of the reader: it looks at nothing but the tokens that it takes, and the one behind them; where they begin is all one. No program in sight. -/
import Derived.Test.YtonkjhmkppeagaaGreatDoorTQy
set_option linter.unusedVariables false
namespace Go.Proofs.YtonkjhmkppeagaaGreatDoor.Pz
open Go Go.RowKit Lx
def wAt (ws:List Str) (k:Int):Str:=ws.getD (k.toNat - 1) []
def colT (c:Str × Int):Str:=c.1++(32::(if 2≤c.2 then sText else sInt))
def scT (s:Sc):Str:=if 1≤s.k∧s.k≤5 then wAt schemeWords s.k++(32::(Lib.itoa s.f++([46,46]++Lib.itoa s.l))) else []
def inN (x:Inp):Str:=if x.k=2∨x.k=3 then Lib.itoa x.n else []
def inT (x:Inp):Str:=if 1≤x.k∧x.k≤5 then wordsT [x.a,wAt mapWords x.k,inN x,sAs,x.s] else []
def dfT0 (d:Df):Str :=
 if d.k=1 then wordsT [sSource,d.nm,40::(joinS [44,32] (d.sch.map colT)++[41]),scT d.sc]
 else if d.k=2 then wordsT [sAsset,d.nm,scT d.sc,sFrom,joinS [44,32] (d.ins.map inT),sDo,textQ d.plan]
 else wordsT [sSchedule,d.nm,Va.quotedL d.cron,sMakes,joinS [44,32] d.mks]
def dfT (d:Df):Str:=dfT0 d++[59,10]
def defsT (l:List Df):Str:=(l.map dfT).flatten
def OkSc (s:Sc):Prop:=(1≤s.k∧s.k≤5)∧(0≤s.f∧s.f≤9223372036854775807)∧(0≤s.l∧s.l≤9223372036854775807)
def OkIn (x:Inp):Prop:=WordOk x.a∧WordOk x.s∧(1≤x.k∧x.k≤5)∧(x.k=2→0≤x.n∧x.n≤9223372036854775807)∧(x.k=3→-9223372036854775807≤x.n∧x.n≤9223372036854775807)∧(x.k≠2→x.k≠3→x.n=0)
inductive OkD:Df→Prop
 | source (n:Str) (cs:List (Str × Int)) (s:Sc) (hn:WordOk n) (h0:cs≠[]) (hc:∀ c ∈ cs,WordOk c.1∧(c.2=1∨c.2=2)) (hs:OkSc s):OkD ⟨1,n,cs,s,[],zPl,[],[]⟩
 | asset (n:Str) (s:Sc) (ins:List Inp) (p:Pl) (hn:WordOk n) (hs:OkSc s) (h0:ins≠[]) (hi:∀ x ∈ ins,OkIn x) (hp:OkQ p) (hd:deepQ p≤31):OkD ⟨2,n,[],s,ins,p,[],[]⟩
 | schedule (n c:Str) (ms:List Str) (hn:WordOk n) (hc:TokOk ⟨3,c,0,0⟩) (h0:ms≠[]) (hm:∀ m ∈ ms,WordOk m):OkD ⟨3,n,[],zSc,[],zPl,c,ms⟩
end Go.Proofs.YtonkjhmkppeagaaGreatDoor.Pz
namespace Go.Proofs.YtonkjhmkppeagaaGreatDoor.Pz
open Go Go.RowKit Lx
theorem itoa_ng {n:Int} (h:n < 0):Lib.itoa n=45::Lib.itoa (-n):=by
 obtain ⟨u,rfl⟩:∃ u:Nat,n=-(u:Int):=⟨(-n).toNat,by omega⟩
 have h0:0 < u:=by omega
 rw [Int.neg_neg,Lib.itoa_nonneg]
 unfold Lib.itoa
 rw [if_pos h]
 simp
theorem parseOf_all (l:List UInt8):parseOf l=allR [] (defsP (openP l)).2 (defsP (openP l)).1:=by
 unfold parseOf allR
 rw [show (defsP (openP l)).2.E=l.length from (goes_defsLoop _ _ _).E]
end Go.Proofs.YtonkjhmkppeagaaGreatDoor.Pz
namespace Go.Proofs.YtonkjhmkppeagaaGreatDoor.Pz
open Go Go.RowKit Lx
theorem wAt_get {ws:List Str} {k:Nat}:wAt ws ((1+k:Nat):Int)=ws.getD k []:=by
 unfold wAt
 congr 1
 omega
theorem scheme_read {s:Ps} (a:AllOk s) (h:(schemeP s).2.e=0):OkSc (schemeP s).1∧(scT (schemeP s).1).length+2 * Wt (schemeP s).2≤2 * Wt s:=by
 have g1:=goes_one schemeWords s
 have g2:=g1.trans (goes_token 2 (by decide) _)
 have g3:=g2.trans (goes_want [46,46] _)
 change (tokenP 2 (wantP [46,46] (tokenP 2 (oneP schemeWords s).2).2)).2.e=0 at h
 have h3:=(goes_token 2 (by decide) _).back h
 have h2:=(goes_want [46,46] _).back h3
 have h1:=(goes_token 2 (by decide) _).back h2
 obtain ⟨k,k1,k2,w1⟩:=one_read h1
 obtain ⟨n1,n2,w2⟩:=wt_num (g1.all a) h2
 have w3:=wt_want h3
 obtain ⟨m1,m2,w4⟩:=wt_num (g3.all a) h
 change _∧(scT (schemeP s).1).length+2 * Wt (tokenP 2 (wantP [46,46] (tokenP 2 (oneP schemeWords s).2).2)).2≤_
 have e:(schemeP s).1=⟨((1+k:Nat):Int),(tokenP 2 (oneP schemeWords s).2).1.n,(tokenP 2 (wantP [46,46] (tokenP 2 (oneP schemeWords s).2).2)).1.n⟩:=by
  unfold schemeP
  rw [k2]
 rw [e]
 have k5:k < 5:=k1
 have ok:OkSc ⟨((1+k:Nat):Int),(tokenP 2 (oneP schemeWords s).2).1.n,(tokenP 2 (wantP [46,46] (tokenP 2 (oneP schemeWords s).2).2)).1.n⟩:=⟨⟨by show (1:Int)≤((1+k:Nat):Int);omega,by show ((1+k:Nat):Int)≤5;omega⟩,⟨n1,n2⟩,⟨m1,m2⟩⟩
 refine ⟨ok,?_⟩
 unfold scT
 rw [if_pos ok.1]
 simp only [wAt_get,List.length_append,List.length_cons,List.length_nil] at w3 ⊢
 omega
theorem cols_read {s:Ps} (a:AllOk s) (h:(listP colItem [] s).2.e=0):(listP colItem [] s).1≠[]∧(∀ c ∈ (listP colItem [] s).1,WordOk c.1∧(c.2=1∨c.2=2))∧(joinS [44,32] ((listP colItem [] s).1.map colT)).length+2+2 * Wt (listP colItem [] s).2≤2 * Wt s:=by
 obtain ⟨l,l0,l1,l2,l3⟩:=list_read goes_colItem (fun a x=>a++[x]) colT (fun c=>WordOk c.1∧(c.2=1∨c.2=2)) (fun acc s a h=>by
  have h1:(nameP s).2.e=0:=(goes_one [sInt,sText] _).back h
  obtain ⟨n1,w1⟩:=wt_name a h1
  obtain ⟨k,k1,k2,w2⟩:=one_read (ws:=[sInt,sText]) (s:=(nameP s).2) h
  refine ⟨((nameP s).1,((1+k:Nat):Int)),by unfold colItem;rw [k2],⟨n1,?_⟩,?_⟩
  ·have:k < 2:=k1
   show ((1+k:Nat):Int)=1∨((1+k:Nat):Int)=2
   omega
  ·show (colT ((nameP s).1,((1+k:Nat):Int))).length+2+2 * Wt (oneP [sInt,sText] (nameP s).2).2≤2 * Wt s
   have hk:(if (2:Int)≤((1+k:Nat):Int) then sText else sInt).length=([sInt,sText].getD k []).length:=by
    match k,k1 with
    | 0,_=>rfl
    | 1,_=>rfl
    | k+2,h=>exact absurd h (by show ¬ k+2 < 2;omega)
   unfold colT
   simp only [List.length_append,List.length_cons,hk]
   omega) [] s a h
 rw [l1,snoc_fold]
 exact ⟨l0,l2,l3⟩
theorem len_neg {n:Int} (h:0≤n):(Lib.itoa (-n)).length≤(Lib.itoa n).length+1:=by
 by_cases h0:n=0
 ·subst h0;exact Nat.le_succ _
 ·rw [itoa_ng (show -n < 0 by omega),Int.neg_neg];exact Nat.le_refl _
theorem map_read {s:Ps} (a:AllOk s) (h:(mappingP s).2.e=0):(1≤(mappingP s).1.1∧(mappingP s).1.1≤5)∧((mappingP s).1.1=2→0≤(mappingP s).1.2∧(mappingP s).1.2≤9223372036854775807)∧((mappingP s).1.1=3→-9223372036854775807≤(mappingP s).1.2∧(mappingP s).1.2≤9223372036854775807)∧((mappingP s).1.1≠2→(mappingP s).1.1≠3→(mappingP s).1.2=0) ∧
 (wAt mapWords (mappingP s).1.1).length+1+(if (mappingP s).1.1=2∨(mappingP s).1.1=3 then (Lib.itoa (mappingP s).1.2).length+1 else 0)+Wt (mappingP s).2≤Wt s:=by
 change (mapK (oneP mapWords s).1 (oneP mapWords s).2).2.e=0 at h
 have g1:=goes_one mapWords s
 have h1:=(goes_mapK _ _).back h
 obtain ⟨k,k1,k2,w1⟩:=one_read h1
 have k5:k < 5:=k1
 have e:mappingP s=((((1+k:Nat):Int),(mapK (1+k) (oneP mapWords s).2).1),(mapK (1+k) (oneP mapWords s).2).2):=by
  unfold mappingP
  rw [k2]
 rw [k2] at h
 rw [e]
 simp only [wAt_get]
 have a1:=g1.all a
 generalize (oneP mapWords s).2=z at h w1 a1 ⊢
 refine ⟨⟨by omega,by omega⟩,?_⟩
 unfold mapK at h ⊢
 by_cases q2:k=1
 ·rw [if_pos (by omega)] at h ⊢
  obtain ⟨n1,n2,w2⟩:=wt_num a1 h
  rw [if_pos (show (((1+k:Nat):Int)=2∨((1+k:Nat):Int)=3) from .inl (by omega))]
  exact ⟨fun _=>⟨n1,n2⟩,fun e=>absurd e (by omega),fun e=>absurd (by omega) e,by simp only;omega⟩
 ·rw [if_neg (by omega)] at h ⊢
  by_cases q3:k=2
  ·rw [if_pos (by omega)] at h ⊢
   rw [if_pos (show (((1+k:Nat):Int)=2∨((1+k:Nat):Int)=3) from .inr (by omega))]
   by_cases hx:isP z [45]=true
   ·rw [if_pos hx] at h ⊢
    obtain ⟨n1,n2,w2⟩:=wt_num ((goes_adv_is hx).all a1) h
    have w3:=wt_is hx
    have l:=len_neg n1
    simp only [List.length_cons,List.length_nil] at w3
    exact ⟨fun e=>absurd e (by omega),fun _=>⟨by simp only;omega,by simp only;omega⟩,fun _ e=>absurd (by omega) e,by simp only;omega⟩
   ·rw [if_neg hx] at h ⊢
    obtain ⟨n1,n2,w2⟩:=wt_num a1 h
    exact ⟨fun e=>absurd e (by omega),fun _=>⟨by simp only;omega,by simp only;omega⟩,fun _ e=>absurd (by omega) e,by simp only;omega⟩
  ·rw [if_neg (by omega)] at h ⊢
   rw [if_neg (show ¬ (((1+k:Nat):Int)=2∨((1+k:Nat):Int)=3) by omega)]
   exact ⟨fun e=>absurd e (by omega),fun e=>absurd e (by omega),fun _ _=>rfl,by simp only;omega⟩
theorem ins_read {s:Ps} (a:AllOk s) (h:(listP inItem [] s).2.e=0):(listP inItem [] s).1≠[]∧(∀ x ∈ (listP inItem [] s).1,OkIn x)∧(joinS [44,32] ((listP inItem [] s).1.map inT)).length+2+2 * Wt (listP inItem [] s).2≤2 * Wt s:=by
 obtain ⟨l,l0,l1,l2,l3⟩:=list_read goes_inItem (fun a x=>a++[x]) inT OkIn (fun acc s a h=>by
  change (nameP (wantP sAs (mappingP (nameP s).2).2)).2.e=0 at h
  have g1:=goes_name s
  have g2:=g1.trans (goes_mapping _)
  have g3:=g2.trans (goes_want sAs _)
  have h3:=(goes_name _).back h
  have h2:=(goes_want sAs _).back h3
  have h1:=(goes_mapping _).back h2
  obtain ⟨n1,w1⟩:=wt_name a h1
  obtain ⟨m1,m2,m3,m4,w2⟩:=map_read (g1.all a) h2
  have w3:=wt_want h3
  obtain ⟨n4,w4⟩:=wt_name (g3.all a) h
  refine ⟨⟨(nameP s).1,(mappingP (nameP s).2).1.1,(mappingP (nameP s).2).1.2,(nameP (wantP sAs (mappingP (nameP s).2).2)).1⟩,rfl,⟨n1,n4,m1,m2,m3,m4⟩,?_⟩
  change (inT ⟨(nameP s).1,(mappingP (nameP s).2).1.1,(mappingP (nameP s).2).1.2,(nameP (wantP sAs (mappingP (nameP s).2).2)).1⟩).length+2+2 * Wt (nameP (wantP sAs (mappingP (nameP s).2).2)).2≤2 * Wt s
  generalize (mappingP (nameP s).2).1.1=K at *
  generalize (mappingP (nameP s).2).1.2=N at *
  generalize (nameP (wantP sAs (mappingP (nameP s).2).2)).1=S at *
  generalize (nameP s).1=A at *
  have hw:=words_len [A,wAt mapWords K,inN ⟨A,K,N,S⟩,sAs,S]
  have hn:(inN ⟨A,K,N,S⟩).length≤(if K=2∨K=3 then (Lib.itoa N).length+1 else 0):=by
   unfold inN
   by_cases hk:K=2∨K=3
   ·rw [if_pos hk,if_pos hk];exact Nat.le_succ _
   ·rw [if_neg hk,if_neg hk];exact Nat.le_refl _
  simp only [List.map_cons,List.map_nil,List.sum_cons,List.sum_nil,show sAs.length=2 from rfl] at hw w3
  unfold inT
  rw [if_pos m1]
  simp only
  omega) [] s a h
 rw [l1,snoc_fold]
 exact ⟨l0,l2,l3⟩
theorem source_read {s:Ps} (a:AllOk s) (h:(sourceP s).2.e=0):OkD (sourceP s).1∧(dfT0 (sourceP s).1).length+2 * Wt (sourceP s).2≤14+2 * Wt s:=by
 change (schemeP (wantP [41] (listP colItem [] (wantP [40] (nameP s).2)).2)).2.e=0 at h
 have g1:=goes_name s
 have g2:=g1.trans (goes_want [40] _)
 have g3:=g2.trans (goes_list goes_colItem [] _)
 have g4:=g3.trans (goes_want [41] _)
 have h4:=(goes_scheme _).back h
 have h3:=(goes_want [41] _).back h4
 have h2:=(goes_list goes_colItem [] _).back h3
 have h1:=(goes_want [40] _).back h2
 obtain ⟨n1,w1⟩:=wt_name a h1
 have w2:=wt_want h2
 obtain ⟨c0,c1,c2⟩:=cols_read (g2.all a) h3
 have w4:=wt_want h4
 obtain ⟨o5,w5⟩:=scheme_read (g4.all a) h
 refine ⟨.source _ _ _ n1 c0 c1 o5,?_⟩
 change (wordsT [sSource,(nameP s).1,40::(joinS [44,32] ((listP colItem [] (wantP [40] (nameP s).2)).1.map colT)++[41]),scT (schemeP (wantP [41] (listP colItem [] (wantP [40] (nameP s).2)).2)).1]).length+2 * Wt (schemeP (wantP [41] (listP colItem [] (wantP [40] (nameP s).2)).2)).2≤_
 have hw:=words_len [sSource,(nameP s).1,40::(joinS [44,32] ((listP colItem [] (wantP [40] (nameP s).2)).1.map colT)++[41]),scT (schemeP (wantP [41] (listP colItem [] (wantP [40] (nameP s).2)).2)).1]
 simp only [List.map_cons,List.map_nil,List.sum_cons,List.sum_nil,List.length_cons,List.length_append,List.length_nil,show sSource.length=6 from rfl] at hw w2 w4
 omega
theorem asset_read {s:Ps} (a:AllOk s) (h:(assetP s).2.e=0):OkD (assetP s).1∧(dfT0 (assetP s).1).length+2 * Wt (assetP s).2≤14+2 * Wt s:=by
 change (topQ (wantP sDo (listP inItem [] (wantP sFrom (schemeP (nameP s).2).2)).2)).2.e=0 at h
 have g1:=goes_name s
 have g2:=g1.trans (goes_scheme _)
 have g3:=g2.trans (goes_want sFrom _)
 have g4:=g3.trans (goes_list goes_inItem [] _)
 have g5:=g4.trans (goes_want sDo _)
 have h5:=(goes_topQ _).back h
 have h4:=(goes_want sDo _).back h5
 have h3:=(goes_list goes_inItem [] _).back h4
 have h2:=(goes_want sFrom _).back h3
 have h1:=(goes_scheme _).back h2
 obtain ⟨n1,w1⟩:=wt_name a h1
 obtain ⟨o2,w2⟩:=scheme_read (g1.all a) h2
 have w3:=wt_want h3
 obtain ⟨i0,i1,i2⟩:=ins_read (g3.all a) h4
 have w5:=wt_want h5
 obtain ⟨q1,q2,q3⟩:=topQ_read (g5.all a) h
 refine ⟨.asset _ _ _ _ n1 o2 i0 i1 q1 q2,?_⟩
 change (wordsT [sAsset,(nameP s).1,scT (schemeP (nameP s).2).1,sFrom,joinS [44,32] ((listP inItem [] (wantP sFrom (schemeP (nameP s).2).2)).1.map inT),sDo,textQ (topQ (wantP sDo (listP inItem [] (wantP sFrom (schemeP (nameP s).2).2)).2)).1]).length+2 * Wt (topQ (wantP sDo (listP inItem [] (wantP sFrom (schemeP (nameP s).2).2)).2)).2≤_
 have hw:=words_len [sAsset,(nameP s).1,scT (schemeP (nameP s).2).1,sFrom,joinS [44,32] ((listP inItem [] (wantP sFrom (schemeP (nameP s).2).2)).1.map inT),sDo,textQ (topQ (wantP sDo (listP inItem [] (wantP sFrom (schemeP (nameP s).2).2)).2)).1]
 simp only [List.map_cons,List.map_nil,List.sum_cons,List.sum_nil,show sAsset.length=5 from rfl,show sFrom.length=4 from rfl,show sDo.length=2 from rfl] at hw w3 w5
 omega
theorem schedule_read {s:Ps} (a:AllOk s) (h:(scheduleP s).2.e=0):OkD (scheduleP s).1∧(dfT0 (scheduleP s).1).length+2 * Wt (scheduleP s).2≤14+2 * Wt s:=by
 change (namesP (wantP sMakes (tokenP 3 (nameP s).2).2)).2.e=0 at h
 have g1:=goes_name s
 have g2:=g1.trans (goes_token 3 (by decide) _)
 have g3:=g2.trans (goes_want sMakes _)
 have h3:=(goes_names _).back h
 have h2:=(goes_want sMakes _).back h3
 have h1:=(goes_token 3 (by decide) _).back h2
 obtain ⟨n1,w1⟩:=wt_name a h1
 obtain ⟨o2,w2⟩:=wt_text (g1.all a) h2
 have w3:=wt_want h3
 obtain ⟨m0,m1,m2⟩:=names_read (g3.all a) h
 refine ⟨.schedule _ _ _ n1 o2 m0 m1,?_⟩
 change (wordsT [sSchedule,(nameP s).1,Va.quotedL (tokenP 3 (nameP s).2).1.t,sMakes,joinS [44,32] (namesP (wantP sMakes (tokenP 3 (nameP s).2).2)).1]).length+2 * Wt (namesP (wantP sMakes (tokenP 3 (nameP s).2).2)).2≤_
 have hw:=words_len [sSchedule,(nameP s).1,Va.quotedL (tokenP 3 (nameP s).2).1.t,sMakes,joinS [44,32] (namesP (wantP sMakes (tokenP 3 (nameP s).2).2)).1]
 simp only [List.map_cons,List.map_nil,List.sum_cons,List.sum_nil,show sSchedule.length=8 from rfl,show sMakes.length=5 from rfl] at hw w3
 omega
theorem def_read {s:Ps} (a:AllOk s) (h:(defP s).2.e=0):OkD (defP s).1∧(dfT (defP s).1).length+2 * Wt (defP s).2≤2 * Wt s:=by
 change (wantP [59] (defK (oneP defWords s).1 (oneP defWords s).2).2).e=0 at h
 show OkD (defK (oneP defWords s).1 (oneP defWords s).2).1∧(dfT (defK (oneP defWords s).1 (oneP defWords s).2).1).length+2 * Wt (wantP [59] (defK (oneP defWords s).1 (oneP defWords s).2).2)≤_
 have g1:=goes_one defWords s
 have h2:=(goes_want [59] _).back h
 have h1:=(goes_defK _ _).back h2
 obtain ⟨k,k1,k2,w1⟩:=one_read h1
 have w3:=wt_want h
 have a1:=g1.all a
 rw [k2] at h h2 w3 ⊢
 generalize (oneP defWords s).2=z at *
 simp only [List.length_cons,List.length_nil] at w3
 unfold dfT
 rw [List.length_append]
 match k,k1 with
 | 0,_ =>
  change (sourceP z).2.e=0 at h2
  obtain ⟨o,w⟩:=source_read a1 h2
  have e:defK (1+0) z=sourceP z:=rfl
  rw [e] at w3 ⊢
  have hl:(defWords.getD 0 []).length=6:=rfl
  rw [hl] at w1
  refine ⟨o,?_⟩
  simp only [List.length_cons,List.length_nil]
  omega
 | 1,_ =>
  change (assetP z).2.e=0 at h2
  obtain ⟨o,w⟩:=asset_read a1 h2
  have e:defK (1+1) z=assetP z:=rfl
  rw [e] at w3 ⊢
  have hl:(defWords.getD 1 []).length=5:=rfl
  rw [hl] at w1
  refine ⟨o,?_⟩
  simp only [List.length_cons,List.length_nil]
  omega
 | 2,_ =>
  change (scheduleP z).2.e=0 at h2
  obtain ⟨o,w⟩:=schedule_read a1 h2
  have e:defK (1+2) z=scheduleP z:=rfl
  rw [e] at w3 ⊢
  have hl:(defWords.getD 2 []).length=8:=rfl
  rw [hl] at w1
  refine ⟨o,?_⟩
  simp only [List.length_cons,List.length_nil]
  omega
 | k+3,h=>exact absurd h (by show ¬ k+3 < 3;omega)
theorem defs_read:∀ (fuel:Nat) (acc:List Df) (s:Ps),AllOk s→(defsLoop fuel acc s).2.e=0→∃ ds,(defsLoop fuel acc s).1=acc++ds∧(∀ d ∈ ds,OkD d)∧(defsT ds).length+2 * Wt (defsLoop fuel acc s).2≤2 * Wt s
 | 0,acc,s,a,h=>⟨[],by rw [List.append_nil];rfl,fun d hd=>by simp at hd,by show 0+2 * Wt s≤_;omega⟩
 | fuel+1,acc,s,a,h=>by
  unfold defsLoop at h ⊢
  by_cases hc:s.e=0∧s.i < s.T.length
  ·rw [if_pos hc] at h ⊢
   have h1:=(goes_defsLoop fuel _ _).back h
   obtain ⟨o,w⟩:=def_read a h1
   obtain ⟨ds,e1,e2,e3⟩:=defs_read fuel _ _ ((goes_def s).all a) h
   refine ⟨(defP s).1::ds,by rw [e1,List.append_assoc];rfl,fun d hd=>by rcases List.mem_cons.1 hd with rfl|hd;exact o;exact e2 d hd,?_⟩
   show (dfT (defP s).1++defsT ds).length+_≤_
   rw [List.length_append];omega
  ·rw [if_neg hc] at h ⊢
   exact ⟨[],by rw [List.append_nil],fun d hd=>by simp at hd,by show 0+2 * Wt s≤_;omega⟩
theorem parseOf_ok {l:Str} (h:(parseOf l).2.2=0):(∀ d ∈ (parseOf l).1,OkD d)∧(defsT (parseOf l).1).length≤4 * l.length∧(parseOf l).2.1=l.length:=by
 rw [parseOf_all] at h ⊢
 unfold allR at h ⊢
 by_cases he:(allP (defsP (openP l)).2).e=0
 ·rw [if_pos he]
  have hs:(defsP (openP l)).2.e=0:=by
   apply Classical.byContradiction;intro hn
   rw [allP_err hn] at he;exact hn he
  obtain ⟨ds,e1,e2,e3⟩:=defs_read _ [] (openP l) (toks_bd l).2.2 hs
  have h5:=wt_open l
  have e1':(defsP (openP l)).1=ds:=e1
  rw [e1']
  refine ⟨e2,by omega,(goes_defsLoop _ _ _).E⟩
 ·rw [if_neg he] at h
  exact absurd h he
end Go.Proofs.YtonkjhmkppeagaaGreatDoor.Pz
namespace Go.Proofs.YtonkjhmkppeagaaGreatDoor.Pz
open Go Go.RowKit Lx
def Rl (n:Nat) (s s':Ps):Prop:=s'.e=s.e∧∀ j,j < n→(s'.T[s'.i+j]?).map tri=(s.T[s.i+j]?).map tri
structure Loc {α:Type} (f:Ps→α × Ps):Prop where
 go:∀ s,Goes s (f s).2
 eq:∀ n s s',Rl n s s'→(f s).2.i < s.i+n→(f s').1=(f s).1∧(f s').2.e=(f s).2.e∧(f s').2.i+s.i=(f s).2.i+s'.i
theorem Rl.less {n m:Nat} {s s':Ps} (h:Rl n s s') (hm:m≤n):Rl m s s':=⟨h.1,fun j hj=>h.2 j (by omega)⟩
theorem Rl.on {n c:Nat} {s s' t t':Ps} (h:Rl n s s') (e1:t.T=s.T) (e2:t'.T=s'.T) (e3:t.i=s.i+c) (e4:t'.i=s'.i+c) (e5:t'.e=t.e):Rl (n - c) t t' :=
 ⟨e5,fun j hj=>by rw [e1,e2,e3,e4,Nat.add_assoc,Nat.add_assoc];exact h.2 (c+j) (by omega)⟩
theorem Rl.peek {n:Nat} {s s':Ps} (h:Rl n s s') (hn:0 < n):tri (peekP s')=tri (peekP s):=by
 unfold peekP
 by_cases he:s.e=0
 ·rw [if_pos he,if_pos (h.1.trans he)]
  have h0:=h.2 0 hn
  rw [Nat.add_zero,Nat.add_zero] at h0
  rw [List.getD_eq_getElem?_getD,List.getD_eq_getElem?_getD]
  cases h1:s.T[s.i]? with
  | none =>
   cases h2:s'.T[s'.i]? with
   | none=>rfl
   | some t=>rw [h1,h2] at h0;cases h0
  | some u =>
   cases h2:s'.T[s'.i]? with
   | none=>rw [h1,h2] at h0;cases h0
   | some t=>rw [h1,h2] at h0;simpa using h0
 ·rw [if_neg he,if_neg (by rw [h.1];exact he)]
theorem Rl.k {n:Nat} {s s':Ps} (h:Rl n s s') (hn:0 < n):(peekP s').k=(peekP s).k:=congrArg (·.1) (h.peek hn)
theorem Rl.t {n:Nat} {s s':Ps} (h:Rl n s s') (hn:0 < n):(peekP s').t=(peekP s).t:=congrArg (·.2.1) (h.peek hn)
theorem Rl.n {n:Nat} {s s':Ps} (h:Rl n s s') (hn:0 < n):(peekP s').n=(peekP s).n:=congrArg (·.2.2) (h.peek hn)
theorem Rl.is {n:Nat} {s s':Ps} (h:Rl n s s') (hn:0 < n) (x:Str):isP s' x=isP s x:=by
 unfold isP
 rw [h.k hn,h.t hn]
theorem Rl.adv {n:Nat} {s s':Ps} (h:Rl n s s'):Rl (n - 1) (advP s) (advP s'):=h.on rfl rfl rfl rfl h.1
theorem Loc.rl {α:Type} {f:Ps→α × Ps} (hf:Loc f) {n:Nat} {s s':Ps} (h:Rl n s s') (hb:(f s).2.i < s.i+n):Rl (n - ((f s).2.i - s.i)) (f s).2 (f s').2:=by
 obtain ⟨_,h2,h3⟩:=hf.eq n s s' h hb
 have g1:=(hf.go s).i
 have g2:=(hf.go s').i
 exact h.on (hf.go s).T (hf.go s').T (by omega) (by omega) h2
theorem Loc.bind {α β:Type} {f:Ps→α × Ps} {g:α→Ps→β × Ps} (hf:Loc f) (hg:∀ a,Loc (g a)):Loc fun s=>g (f s).1 (f s).2 :=
 ⟨fun s=>(hf.go s).trans ((hg _).go _),fun n s s' h hb=>by
  have g1:=(hf.go s).i
  have g2:=((hg (f s).1).go (f s).2).i
  have hb1:(f s).2.i < s.i+n:=Nat.lt_of_le_of_lt g2 hb
  obtain ⟨v1,e1,i1⟩:=hf.eq n s s' h hb1
  have h2:=hf.rl h hb1
  obtain ⟨v2,e2,i2⟩:=(hg (f s).1).eq _ _ _ h2 (by omega)
  try simp only
  rw [v1]
  exact ⟨v2,e2,by omega⟩⟩
theorem Loc.map {α β:Type} {f:Ps→α × Ps} (hf:Loc f) (h:α→β):Loc fun s=>(h (f s).1,(f s).2) :=
 ⟨hf.go,fun n s s' hr hb=>by
  obtain ⟨v1,e1,i1⟩:=hf.eq n s s' hr hb
  exact ⟨congrArg h v1,e1,i1⟩⟩
theorem Loc.pure {α:Type} (a:α):Loc fun s=>(a,s):=⟨fun s=>Goes.refl s,fun n s s' h _=>⟨rfl,h.1,by simp only;omega⟩⟩
theorem fail_i (s:Ps) (e:Int):(failP s e).i=s.i:=by unfold failP;split<;>rfl
theorem fail_e (s:Ps) (e:Int):(failP s e).e=if s.e=0 then e else s.e:=by unfold failP;split<;>rfl
theorem Loc.fail {α:Type} (a:α) (e:Int) (he:e=51∨e=52):Loc fun s=>(a,failP s e) :=
 ⟨fun s=>goes_fail s e he,fun n s s' h _=>⟨rfl,by simp only;rw [fail_e,fail_e,h.1],by simp only;rw [fail_i,fail_i];omega⟩⟩
theorem Loc.is {α:Type} {f g:Ps→α × Ps} (x:Str) (hf:Loc f) (hg:Loc g):Loc fun s=>if isP s x=true then f (advP s) else g s :=
 ⟨fun s=>by
  try simp only
  split
  ·rename_i h;exact (goes_adv_is h).trans (hf.go _)
  ·exact hg.go s,fun n s s' h hb=>by
  try simp only at hb ⊢
  by_cases hx:isP s x=true
  ·rw [if_pos hx] at hb ⊢
   have gi:=(hf.go (advP s)).i
   have hn:0 < n:=by have:(advP s).i=s.i+1:=rfl;omega
   rw [if_pos (by rw [h.is hn];exact hx)]
   obtain ⟨v,e,i⟩:=hf.eq (n - 1) _ _ h.adv (by have:(advP s).i=s.i+1:=rfl;omega)
   refine ⟨v,e,?_⟩
   have i':(f (advP s')).2.i+(s.i+1)=(f (advP s)).2.i+(s'.i+1):=i
   omega
  ·rw [if_neg hx] at hb ⊢
   have gi:=(hg.go s).i
   have hn:0 < n:=by omega
   rw [if_neg (by rw [h.is hn];exact hx)]
   exact hg.eq n s s' h hb⟩
theorem Loc.see {α:Type} {f g:Ps→α × Ps} (x:Str) (hf:Loc f) (hg:Loc g):Loc fun s=>if isP s x=true then f s else g s :=
 ⟨fun s=>by
  try simp only
  split
  ·exact hf.go s
  ·exact hg.go s,fun n s s' h hb=>by
  try simp only at hb ⊢
  by_cases hx:isP s x=true
  ·rw [if_pos hx] at hb ⊢
   have gi:=(hf.go s).i
   rw [if_pos (by rw [h.is (by omega)];exact hx)]
   exact hf.eq n s s' h hb
  ·rw [if_neg hx] at hb ⊢
   have gi:=(hg.go s).i
   rw [if_neg (by rw [h.is (by omega)];exact hx)]
   exact hg.eq n s s' h hb⟩
theorem Loc.by' {α:Type} (c:Int→Str→Int→Prop) [∀ a b d,Decidable (c a b d)] {f g:Ps→α × Ps} (hf:Loc f) (hg:Loc g):Loc fun s=>if c (peekP s).k (peekP s).t (peekP s).n then f s else g s :=
 ⟨fun s=>by
  try simp only
  split
  ·exact hf.go s
  ·exact hg.go s,fun n s s' h hb=>by
  try simp only at hb ⊢
  by_cases hx:c (peekP s).k (peekP s).t (peekP s).n
  ·rw [if_pos hx] at hb ⊢
   have gi:=(hf.go s).i
   have hn:0 < n:=by omega
   rw [if_pos (by rw [h.k hn,h.t hn,h.n hn];exact hx)]
   exact hf.eq n s s' h hb
  ·rw [if_neg hx] at hb ⊢
   have gi:=(hg.go s).i
   have hn:0 < n:=by omega
   rw [if_neg (by rw [h.k hn,h.t hn,h.n hn];exact hx)]
   exact hg.eq n s s' h hb⟩
theorem Loc.take {α:Type} (c:Int→Str→Int→Prop) [∀ a b d,Decidable (c a b d)] (hc:∀ a b d,c a b d→a≠0) {f:Tk→Ps→α × Ps} {g:Ps→α × Ps} (hf:∀ t,Loc (f t)) (hg:Loc g):Loc fun s=>if c (peekP s).k (peekP s).t (peekP s).n then f (tri (peekP s)) (advP s) else g s :=
 ⟨fun s=>by
  try simp only
  split
  ·rename_i h;exact (goes_adv (hc _ _ _ h)).trans ((hf _).go _)
  ·exact hg.go s,fun n s s' h hb=>by
  try simp only at hb ⊢
  by_cases hx:c (peekP s).k (peekP s).t (peekP s).n
  ·rw [if_pos hx] at hb ⊢
   have gi:=((hf (tri (peekP s))).go (advP s)).i
   have hn:0 < n:=by have:(advP s).i=s.i+1:=rfl;omega
   rw [if_pos (by rw [h.k hn,h.t hn,h.n hn];exact hx),h.peek hn]
   obtain ⟨v,e,i⟩:=(hf (tri (peekP s))).eq (n - 1) _ _ h.adv (by have:(advP s).i=s.i+1:=rfl;omega)
   refine ⟨v,e,?_⟩
   have i':(f (tri (peekP s)) (advP s')).2.i+(s.i+1)=(f (tri (peekP s)) (advP s)).2.i+(s'.i+1):=i
   omega
  ·rw [if_neg hx] at hb ⊢
   have gi:=(hg.go s).i
   have hn:0 < n:=by omega
   rw [if_neg (by rw [h.k hn,h.t hn,h.n hn];exact hx)]
   exact hg.eq n s s' h hb⟩
theorem loc_want (x:Str):Loc fun s=>((),wantP x s):=by
 have:(fun s=>((),wantP x s))=fun s=>if isP s x=true then (fun t=>((),t)) (advP s) else ((),failP s 51):=by
  funext s;unfold wantP;split<;>rfl
 rw [this]
 exact (Loc.pure ()).is x (Loc.fail () 51 (.inl rfl))
theorem loc_maybe (x:Str):Loc fun s=>(isP s x,maybeP x s):=by
 have:(fun s=>(isP s x,maybeP x s))=fun s=>if isP s x=true then (fun t=>(true,t)) (advP s) else (false,s):=by
  funext s;unfold maybeP
  cases h:isP s x<;>simp
 rw [this]
 exact (Loc.pure true).is x (Loc.pure false)
theorem loc_token (k:Int) (hk:k≠0):Loc fun s=>(tri (tokenP k s).1,(tokenP k s).2):=by
 have:(fun s=>(tri (tokenP k s).1,(tokenP k s).2))=fun s=>if (fun a (_:Str) (_:Int)=>a=k) (peekP s).k (peekP s).t (peekP s).n then (fun t u=>(t,u)) (tri (peekP s)) (advP s) else (tri zTok,failP s 51):=by
  funext s;unfold tokenP;simp only;split<;>rfl
 rw [this]
 exact Loc.take (fun a (_:Str) (_:Int)=>a=k) (fun a _ _ h=>by rw [h];exact hk) (fun t=>Loc.pure t) (Loc.fail _ 51 (.inl rfl))
theorem loc_name:Loc nameP:=(loc_token 1 (by decide)).map (·.2.1)
theorem loc_num:Loc fun s=>((tokenP 2 s).1.n,(tokenP 2 s).2):=(loc_token 2 (by decide)).map (·.2.2)
theorem loc_text:Loc fun s=>((tokenP 3 s).1.t,(tokenP 3 s).2):=(loc_token 3 (by decide)).map (·.2.1)
theorem loc_oneFrom:∀ (ws:List Str) (n:Nat),Loc (oneFrom n ws)
 | [],n=>Loc.fail 0 51 (.inl rfl)
 | w::ws,n=>(Loc.pure n).is w (loc_oneFrom ws (n+1))
theorem loc_one (ws:List Str):Loc (oneP ws):=loc_oneFrom ws 1
theorem goes_loopL {α:Type} {f:α→Ps→α × Ps} (hf:∀ a,Loc (f a)) (n:Nat) (a:α) (s:Ps):Goes s (listLoop f n a s).2:=goes_listLoop (fun a s=>(hf a).go s) n a s
theorem loop_eq {α:Type} {f:α→Ps→α × Ps} (hf:∀ a,Loc (f a)):∀ (fuel fuel':Nat) (a:α) (n:Nat) (s s':Ps),Rl n s s'→s.T.length < fuel+s.i→s'.T.length < fuel'+s'.i→(listLoop f fuel a s).2.i < s.i+n →
 (listLoop f fuel' a s').1=(listLoop f fuel a s).1∧(listLoop f fuel' a s').2.e=(listLoop f fuel a s).2.e∧(listLoop f fuel' a s').2.i+s.i=(listLoop f fuel a s).2.i+s'.i
 | fuel,fuel',a,n,s,s',h,hf1,hf2,hb=>by
  have hn:0 < n:=by have:=(goes_loopL hf fuel a s).i;omega
  by_cases hx:isP s [44]=true
  ·have hx':isP s' [44]=true:=by rw [h.is hn];exact hx
   have l1:=(isP_some hx).2
   have l2:=(isP_some hx').2
   match fuel,fuel',hf1,hf2,hb with
   | 0,_,hf1,_,_=>omega
   | _,0,_,hf2,_=>omega
   | fuel+1,fuel'+1,hf1,hf2,hb =>
    rw [list_more hx] at hb
    rw [list_more hx,list_more hx']
    have g0:=(goes_loopL hf fuel (f a (advP s)).1 (f a (advP s)).2).i
    have g1:=(hf a).go (advP s)
    have g2:=(hf a).go (advP s')
    have g1i:s.i+1≤(f a (advP s)).2.i:=g1.i
    have g2i:s'.i+1≤(f a (advP s')).2.i:=g2.i
    have hb1:(f a (advP s)).2.i < (advP s).i+(n - 1):=by have:(advP s).i=s.i+1:=rfl;omega
    obtain ⟨v,e,i⟩:=(hf a).eq (n - 1) _ _ h.adv hb1
    have hr:=(hf a).rl h.adv hb1
    have i':(f a (advP s')).2.i+(s.i+1)=(f a (advP s)).2.i+(s'.i+1):=i
    rw [v]
    have hT1:(f a (advP s)).2.T=s.T:=g1.T
    have hT2:(f a (advP s')).2.T=s'.T:=g2.T
    obtain ⟨q1,q2,q3⟩:=loop_eq hf fuel fuel' (f a (advP s)).1 _ _ _ hr (by rw [hT1];omega) (by rw [hT2];omega) (by have:(advP s).i=s.i+1:=rfl;omega)
    exact ⟨q1,q2,by omega⟩
  ·have hx0:isP s [44]=false:=by simpa using hx
   have hx':isP s' [44]=false:=by rw [h.is hn];exact hx0
   rw [list_end hx0,list_end hx']
   exact ⟨rfl,h.1,by simp only;omega⟩
theorem Loc.list {α:Type} {f:α→Ps→α × Ps} (hf:∀ a,Loc (f a)) (a:α):Loc (listP f a) :=
 ⟨goes_list (fun a s=>(hf a).go s) a,fun n s s' h hb=>by
  unfold listP at hb ⊢
  have g0:=(goes_loopL hf (s.T.length+1) (f a s).1 (f a s).2).i
  have g1:=(hf a).go s
  have g2:=(hf a).go s'
  have g1i:=g1.i
  have g2i:=g2.i
  have hb1:(f a s).2.i < s.i+n:=by omega
  obtain ⟨v,e,i⟩:=(hf a).eq n _ _ h hb1
  have hr:=(hf a).rl h hb1
  rw [v]
  obtain ⟨q1,q2,q3⟩:=loop_eq hf (s.T.length+1) (s'.T.length+1) (f a s).1 _ _ _ hr (by rw [g1.T];omega) (by rw [g2.T];omega) (by omega)
  exact ⟨q1,q2,by omega⟩⟩
theorem Rl.first {n:Nat} {s s':Ps} (h:Rl n s s') (hn:0 < n):∀ ops,firstOp ops s'=firstOp ops s
 | []=>rfl
 | o::r=>by unfold firstOp;rw [h.is hn,h.first hn r]
theorem chain_eq {f:PE} (hf:Loc f) (ops:List Str):∀ (fuel fuel':Nat) (x:Ex) (n:Nat) (s s':Ps),Rl n s s'→s.T.length < fuel+s.i→s'.T.length < fuel'+s'.i→(chainLoop f ops fuel x s).2.i < s.i+n →
 (chainLoop f ops fuel' x s').1=(chainLoop f ops fuel x s).1∧(chainLoop f ops fuel' x s').2.e=(chainLoop f ops fuel x s).2.e∧(chainLoop f ops fuel' x s').2.i+s.i=(chainLoop f ops fuel x s).2.i+s'.i
 | fuel,fuel',x,n,s,s',h,hf1,hf2,hb=>by
  have hn:0 < n:=by have:=(goes_chainLoop hf.go ops fuel x s).i;omega
  cases hx:firstOp ops s with
  | some k =>
   have hx':firstOp ops s'=some k:=by rw [h.first hn];exact hx
   obtain ⟨o,_,ho⟩:=firstOp_is hx
   obtain ⟨o',_,ho'⟩:=firstOp_is hx'
   have l1:=(isP_some ho).2
   have l2:=(isP_some ho').2
   match fuel,fuel',hf1,hf2,hb with
   | 0,_,hf1,_,_=>omega
   | _,0,_,hf2,_=>omega
   | fuel+1,fuel'+1,hf1,hf2,hb =>
    rw [chain_more hx] at hb
    rw [chain_more hx,chain_more hx']
    have g0:=(goes_chainLoop hf.go ops fuel (binaryE (ops.getD k []) x (f (advP s)).1) (f (advP s)).2).i
    have g1:=hf.go (advP s)
    have g2:=hf.go (advP s')
    have g1i:s.i+1≤(f (advP s)).2.i:=g1.i
    have g2i:s'.i+1≤(f (advP s')).2.i:=g2.i
    have hb1:(f (advP s)).2.i < (advP s).i+(n - 1):=by have:(advP s).i=s.i+1:=rfl;omega
    obtain ⟨v,e,i⟩:=hf.eq (n - 1) _ _ h.adv hb1
    have hr:=hf.rl h.adv hb1
    have i':(f (advP s')).2.i+(s.i+1)=(f (advP s)).2.i+(s'.i+1):=i
    rw [v]
    have hT1:(f (advP s)).2.T=s.T:=g1.T
    have hT2:(f (advP s')).2.T=s'.T:=g2.T
    obtain ⟨q1,q2,q3⟩:=chain_eq hf ops fuel fuel' (binaryE (ops.getD k []) x (f (advP s)).1) _ _ _ hr (by rw [hT1];omega) (by rw [hT2];omega) (by have:(advP s).i=s.i+1:=rfl;omega)
    exact ⟨q1,q2,by omega⟩
  | none =>
   have hx':firstOp ops s'=none:=by rw [h.first hn];exact hx
   rw [chain_end hx,chain_end hx']
   exact ⟨rfl,h.1,by simp only;omega⟩
theorem Loc.chain {f:PE} (hf:Loc f) (ops:List Str):Loc (chainP f ops) :=
 ⟨goes_chain hf.go ops,fun n s s' h hb=>by
  unfold chainP at hb ⊢
  have g0:=(goes_chainLoop hf.go ops (s.T.length+1) (f s).1 (f s).2).i
  have g1:=hf.go s
  have g2:=hf.go s'
  have g1i:=g1.i
  have g2i:=g2.i
  have hb1:(f s).2.i < s.i+n:=by omega
  obtain ⟨v,e,i⟩:=hf.eq n _ _ h hb1
  have hr:=hf.rl h hb1
  rw [v]
  obtain ⟨q1,q2,q3⟩:=chain_eq hf ops (s.T.length+1) (s'.T.length+1) (f s).1 _ _ _ hr (by rw [g1.T];omega) (by rw [g2.T];omega) (by omega)
  exact ⟨q1,q2,by omega⟩⟩
theorem Loc.compare {f:PE} (hf:Loc f):Loc (compareP f) :=
 ⟨goes_compare hf.go,fun n s s' h hb=>by
  have g1:=(hf.go s).i
  have gc:(f s).2.i≤(compareP f s).2.i:=by
   unfold compareP
   cases hx:firstOp cmpOps (f s).2 with
   | none=>exact Nat.le_refl _
   | some k =>
    try simp only
    have:(advP (f s).2).i≤(f (advP (f s).2)).2.i:=(hf.go _).i
    have e:(advP (f s).2).i=(f s).2.i+1:=rfl
    omega
  have hb1:(f s).2.i < s.i+n:=by omega
  obtain ⟨v,e,i⟩:=hf.eq n _ _ h hb1
  have hr:=hf.rl h hb1
  have hfo:=hr.first (by omega) cmpOps
  unfold compareP at hb ⊢
  rw [hfo]
  cases hx:firstOp cmpOps (f s).2 with
  | none=>exact ⟨v,e,i⟩
  | some k =>
   rw [hx] at hb
   try simp only at hb ⊢
   have gi:(f s).2.i+1≤(f (advP (f s).2)).2.i:=(hf.go (advP (f s).2)).i
   obtain ⟨v2,e2,i2⟩:=hf.eq _ _ _ hr.adv (by have:(advP (f s).2).i=(f s).2.i+1:=rfl;omega)
   have i2':(f (advP (f s').2)).2.i+((f s).2.i+1)=(f (advP (f s).2)).2.i+((f s').2.i+1):=i2
   exact ⟨by rw [v,v2],e2,by omega⟩⟩
theorem Loc.not {f g:PE} (hf:Loc f) (hg:Loc g):Loc (notP f g):=(hf.map (unaryE sNot)).is sNot hg
theorem Loc.minus {f g:PE} (hf:Loc f) (hg:Loc g):Loc (minusP f g):=by
 have e:minusP f g=fun s=>if isP s [45]=true then (fun s=>if (fun a (_:Str) (m:Int)=>a=2∧0 < m) (peekP s).k (peekP s).t (peekP s).n then (fun (t:Tk) u=>(constE ⟨1,-t.2.2,[]⟩,u)) (tri (peekP s)) (advP s) else (unaryE [45] (f s).1,(f s).2)) (advP s) else g s:=by
  funext s;rfl
 rw [e]
 exact (Loc.take (fun a (_:Str) (m:Int)=>a=2∧0 < m) (fun a _ m h=>by rw [h.1];decide) (f:=fun (t:Tk) u=>(constE ⟨1,-t.2.2,[]⟩,u)) (fun t=>Loc.pure _) (hf.map (unaryE [45]))).is [45] hg
theorem Loc.arg {f:PE} (hf:Loc f) (acc:List Ex):Loc (argP f acc):=hf.map fun x=>acc++[x]
theorem Loc.ite {α:Type} (c:Prop) [Decidable c] {f g:Ps→α × Ps} (hf:Loc f) (hg:Loc g):Loc fun s=>if c then f s else g s:=by
 by_cases h:c
 ·simp only [if_pos h];exact hf
 ·simp only [if_neg h];exact hg
theorem Loc.prim {f g:PE} (hf:Loc f) (hg:Loc g):Loc (primP f g):=by
 have e:primP f g=fun s =>
  if (fun a (_:Str) (_:Int)=>a=2) (peekP s).k (peekP s).t (peekP s).n then (fun (t:Tk) u=>(constE ⟨1,t.2.2,[]⟩,u)) (tri (peekP s)) (advP s)
  else (fun s=>if (fun a (_:Str) (_:Int)=>a=3) (peekP s).k (peekP s).t (peekP s).n then (fun (t:Tk) u=>(constE ⟨2,0,t.2.1⟩,u)) (tri (peekP s)) (advP s)
  else (fun s=>if isP s sNull=true then (fun u=>(constE zV,u)) (advP s)
  else (fun s=>if isP s [40]=true then g s
  else (fun s=>if (fun a (t:Str) (_:Int)=>¬ (a≠1∨t=sAnd∨t=sOr∨t=sNot)) (peekP s).k (peekP s).t (peekP s).n then
   (fun (t:Tk) u=>if isP u [40]=true then (fun u=>(callE t.2.1 (listP (argP f) [] u).1,wantP [41] (listP (argP f) [] u).2)) (advP u) else (columnE t.2.1,u)) (tri (peekP s)) (advP s)
  else (zEx,failP s 51)) s) s) s) s:=by
  funext s
  unfold primP
  simp only [tri,ite_not]
 rw [e]
 have hcall:∀ t:Tk,Loc fun u=>(callE t.2.1 (listP (argP f) [] u).1,wantP [41] (listP (argP f) [] u).2):=fun t =>
  (Loc.list (fun acc=>hf.arg acc) []).bind fun xs=>(loc_want [41]).map fun _=>callE t.2.1 xs
 exact Loc.take (fun a (_:Str) (_:Int)=>a=2) (fun a _ _ h=>by rw [h];decide) (f:=fun (t:Tk) u=>(constE ⟨1,t.2.2,[]⟩,u)) (fun t=>Loc.pure _)
  (Loc.take (fun a (_:Str) (_:Int)=>a=3) (fun a _ _ h=>by rw [h];decide) (f:=fun (t:Tk) u=>(constE ⟨2,0,t.2.1⟩,u)) (fun t=>Loc.pure _)
  ((Loc.pure (constE zV)).is sNull (Loc.see [40] hg
  (Loc.take (fun a (t:Str) (_:Int)=>¬ (a≠1∨t=sAnd∨t=sOr∨t=sNot)) (fun a t _ h e=>h (.inl (by rw [e];decide))) (f:=fun (t:Tk) u=>if isP u [40]=true then (fun u=>(callE t.2.1 (listP (argP f) [] u).1,wantP [41] (listP (argP f) [] u).2)) (advP u) else (columnE t.2.1,u)) (fun t=>(hcall t).is [40] (Loc.pure _)) (Loc.fail _ 51 (.inl rfl))))))
theorem Loc.paren {f:PE} (hf:Loc f):Loc (parenP f):=(loc_want [40]).bind fun _=>hf.bind fun x=>(loc_want [41]).map fun _=>x
structure LocD (D:Dp):Prop where
 dor:Loc D.dor
 dnot:Loc D.dnot
 dminus:Loc D.dminus
 dparen:Loc D.dparen
section
variable {D:Dp} (h:LocD D)
include h
theorem LocD.pr:Loc (prL D):=h.dor.prim h.dparen
theorem LocD.mn:Loc (mnL D):=h.dminus.minus h.pr
theorem LocD.pd:Loc (pdL D):=h.mn.chain _
theorem LocD.sm:Loc (smL D):=h.pd.chain _
theorem LocD.cm:Loc (cmL D):=h.sm.compare
theorem LocD.nt:Loc (ntL D):=h.dnot.not h.cm
theorem LocD.an:Loc (anL D):=h.nt.chain _
theorem LocD.or:Loc (orL D):=h.an.chain _
end
theorem loc_deepN:∀ n,LocD (deepN n)
 | 0=>⟨Loc.fail _ 52 (.inr rfl),Loc.fail _ 52 (.inr rfl),Loc.fail _ 52 (.inr rfl),Loc.fail _ 52 (.inr rfl)⟩
 | n+1=>⟨(loc_deepN n).or,(loc_deepN n).nt,(loc_deepN n).mn,(loc_deepN n).or.paren⟩
theorem loc_whole:Loc wholeP:=(loc_deepN 32).dor
theorem loc_names:Loc namesP:=Loc.list (fun acc=>loc_name.map fun n=>acc++[n]) []
theorem loc_keepItem (a:List Ex × List Str):Loc (keepItem a):=loc_whole.bind fun x=>(loc_want sAs).bind fun _=>loc_name.map fun n=>(a.1++[x],a.2++[n])
theorem loc_pairItem (a:List (Str × Str)):Loc (pairItem a):=loc_name.bind fun x=>(loc_want [61]).bind fun _=>loc_name.map fun n=>a++[(x,n)]
theorem loc_aggCol:Loc aggCol:=(Loc.pure []).see [41] loc_name
theorem loc_aggItem (a:List (Str × Str × Str)):Loc (aggItem a):=(loc_one aggWords).bind fun i=>(loc_want [40]).bind fun _=>loc_aggCol.bind fun c=>(loc_want [41]).bind fun _=>(loc_want sAs).bind fun _=>loc_name.map fun n=>a++[(aggOp i,c,n)]
theorem loc_orderItem (a:List (Str × Bool)):Loc (orderItem a):=loc_name.bind fun n=>(loc_maybe sDown).map fun b=>a++[(n,b)]
theorem loc_part {dp:PQ} (h:Loc dp):Loc (partP dp):=h.see [40] (loc_name.map scanL)
theorem loc_join {dp:PQ} (h:Loc dp):Loc (joinP dp):=(loc_part h).bind fun b=>(loc_want sOn).bind fun _=>(Loc.list loc_pairItem []).map fun l=>(b,l)
theorem loc_groupNames:Loc groupNames:=(Loc.pure []).see [58] loc_names
theorem loc_groupAggs:Loc groupAggs:=Loc.by' (fun a (_:Str) (_:Int)=>a=1) (Loc.list loc_aggItem []) (Loc.pure [])
theorem loc_group:Loc groupP:=loc_groupNames.bind fun n=>(loc_want [58]).bind fun _=>loc_groupAggs.map fun g=>(n,g)
theorem loc_firstBy:Loc firstBy:=(Loc.list loc_orderItem []).is sBy (Loc.pure [])
theorem loc_first:Loc firstP:=loc_num.bind fun n=>loc_firstBy.map fun o=>(n,o)
theorem loc_stepK {dp:PQ} (h:Loc dp) (q:Pl) (i:Nat):Loc (stepK dp q i):=by
 unfold stepK
 refine Loc.ite _ (loc_whole.map fun x=>Pl.mk 2 [] [q] x [] [] [] [] [] 0) ?_
 refine Loc.ite _ ((Loc.list loc_keepItem ([],[])).map fun l=>Pl.mk 3 [] [q] zEx l.2 l.1 [] [] [] 0) ?_
 refine Loc.ite _ ((loc_join h).map fun l=>Pl.mk 4 [] [q,l.1] zEx [] [] l.2 [] [] 0) ?_
 refine Loc.ite _ ((loc_join h).map fun l=>Pl.mk 5 [] [q,l.1] zEx [] [] l.2 [] [] 0) ?_
 refine Loc.ite _ (loc_group.map fun l=>Pl.mk 6 [] [q] zEx l.1 [] [] l.2 [] 0) ?_
 refine Loc.ite _ ((loc_part h).map fun l=>Pl.mk 7 [] [q,l] zEx [] [] [] [] [] 0) ?_
 refine Loc.ite _ (Loc.pure _) ?_
 refine Loc.ite _ (loc_first.map fun l=>Pl.mk 9 [] [q] zEx [] [] [] [] l.2 l.1) ?_
 exact Loc.pure _
theorem loc_step {dp:PQ} (h:Loc dp) (q:Pl):Loc (stepP dp q):=(loc_one stepWords).bind fun i=>loc_stepK h q i
theorem query_eq {dp:PQ} (hd:Loc dp):∀ (fuel fuel':Nat) (q:Pl) (n:Nat) (s s':Ps),Rl n s s'→s.T.length < fuel+s.i→s'.T.length < fuel'+s'.i→(queryLoop dp fuel q s).2.i < s.i+n →
 (queryLoop dp fuel' q s').1=(queryLoop dp fuel q s).1∧(queryLoop dp fuel' q s').2.e=(queryLoop dp fuel q s).2.e∧(queryLoop dp fuel' q s').2.i+s.i=(queryLoop dp fuel q s).2.i+s'.i
 | fuel,fuel',q,n,s,s',h,hf1,hf2,hb=>by
  have hn:0 < n:=by have:=(goes_queryLoop hd.go fuel q s).i;omega
  by_cases hx:isP s [124]=true
  ·have hx':isP s' [124]=true:=by rw [h.is hn];exact hx
   have l1:=(isP_some hx).2
   have l2:=(isP_some hx').2
   match fuel,fuel',hf1,hf2,hb with
   | 0,_,hf1,_,_=>omega
   | _,0,_,hf2,_=>omega
   | fuel+1,fuel'+1,hf1,hf2,hb =>
    rw [query_more hx] at hb
    rw [query_more hx,query_more hx']
    have g0:=(goes_queryLoop hd.go fuel (stepP dp q (advP s)).1 (stepP dp q (advP s)).2).i
    have g1:=(loc_step hd q).go (advP s)
    have g2:=(loc_step hd q).go (advP s')
    have g1i:s.i+1≤(stepP dp q (advP s)).2.i:=g1.i
    have g2i:s'.i+1≤(stepP dp q (advP s')).2.i:=g2.i
    have hb1:(stepP dp q (advP s)).2.i < (advP s).i+(n - 1):=by have:(advP s).i=s.i+1:=rfl;omega
    obtain ⟨v,e,i⟩:=(loc_step hd q).eq (n - 1) _ _ h.adv hb1
    have hr:=(loc_step hd q).rl h.adv hb1
    have i':(stepP dp q (advP s')).2.i+(s.i+1)=(stepP dp q (advP s)).2.i+(s'.i+1):=i
    rw [v]
    have hT1:(stepP dp q (advP s)).2.T=s.T:=g1.T
    have hT2:(stepP dp q (advP s')).2.T=s'.T:=g2.T
    obtain ⟨q1,q2,q3⟩:=query_eq hd fuel fuel' (stepP dp q (advP s)).1 _ _ _ hr (by rw [hT1];omega) (by rw [hT2];omega) (by have:(advP s).i=s.i+1:=rfl;omega)
    exact ⟨q1,q2,by omega⟩
  ·have hx0:isP s [124]=false:=by simpa using hx
   have hx':isP s' [124]=false:=by rw [h.is hn];exact hx0
   rw [query_end hx0,query_end hx']
   exact ⟨rfl,h.1,by simp only;omega⟩
theorem loc_query {dp:PQ} (hd:Loc dp):Loc (queryP dp) :=
 ⟨goes_query hd.go,fun n s s' h hb=>by
  unfold queryP at hb ⊢
  have g0:=(goes_queryLoop hd.go (s.T.length+1) (partP dp s).1 (partP dp s).2).i
  have g1:=(loc_part hd).go s
  have g2:=(loc_part hd).go s'
  have g1i:=g1.i
  have g2i:=g2.i
  have hb1:(partP dp s).2.i < s.i+n:=by omega
  obtain ⟨v,e,i⟩:=(loc_part hd).eq n _ _ h hb1
  have hr:=(loc_part hd).rl h hb1
  rw [v]
  obtain ⟨q1,q2,q3⟩:=query_eq hd (s.T.length+1) (s'.T.length+1) (partP dp s).1 _ _ _ hr (by rw [g1.T];omega) (by rw [g2.T];omega) (by omega)
  exact ⟨q1,q2,by omega⟩⟩
theorem loc_parenQ {q:PQ} (h:Loc q):Loc (parenQ q):=(loc_want [40]).bind fun _=>h.bind fun x=>(loc_want [41]).map fun _=>x
theorem loc_dparN:∀ n,Loc (dparN n)
 | 0=>Loc.fail _ 52 (.inr rfl)
 | n+1=>loc_parenQ (loc_query (loc_dparN n))
theorem loc_topQ:Loc topQ:=loc_query (loc_dparN 31)
theorem loc_scheme:Loc schemeP:=(loc_one schemeWords).bind fun k=>loc_num.bind fun f=>(loc_want [46,46]).bind fun _=>loc_num.map fun l=>(⟨(k:Int),f,l⟩:Sc)
theorem loc_colItem (a:List (Str × Int)):Loc (colItem a):=loc_name.bind fun n=>(loc_one [sInt,sText]).map fun k=>a++[(n,(k:Int))]
theorem loc_source:Loc sourceP:=loc_name.bind fun n=>(loc_want [40]).bind fun _=>(Loc.list loc_colItem []).bind fun cs=>(loc_want [41]).bind fun _=>loc_scheme.map fun sc=>(⟨1,n,cs,sc,[],zPl,[],[]⟩:Df)
theorem loc_mapK (i:Nat):Loc (mapK i):=by
 unfold mapK
 refine Loc.ite _ loc_num (Loc.ite _ ?_ (Loc.pure 0))
 exact (loc_num.map fun n=>-n).is [45] loc_num
theorem loc_mapping:Loc mappingP:=(loc_one mapWords).bind fun k=>(loc_mapK k).map fun n=>((k:Int),n)
theorem loc_inItem (a:List Inp):Loc (inItem a):=loc_name.bind fun x=>loc_mapping.bind fun m=>(loc_want sAs).bind fun _=>loc_name.map fun n=>a++[(⟨x,m.1,m.2,n⟩:Inp)]
theorem loc_asset:Loc assetP:=loc_name.bind fun n=>loc_scheme.bind fun c=>(loc_want sFrom).bind fun _=>(Loc.list loc_inItem []).bind fun l=>(loc_want sDo).bind fun _=>loc_topQ.map fun q=>(⟨2,n,[],c,l,q,[],[]⟩:Df)
theorem loc_schedule:Loc scheduleP:=loc_name.bind fun n=>loc_text.bind fun c=>(loc_want sMakes).bind fun _=>loc_names.map fun m=>(⟨3,n,[],zSc,[],zPl,c,m⟩:Df)
theorem loc_defK (i:Nat):Loc (defK i):=Loc.ite _ loc_source (Loc.ite _ loc_asset (Loc.ite _ loc_schedule (Loc.pure _)))
theorem loc_defB:Loc fun s=>defK (oneP defWords s).1 (oneP defWords s).2:=(loc_one defWords).bind fun i=>loc_defK i
theorem loc_def:Loc defP:=loc_defB.bind fun d=>(loc_want [59]).map fun _=>d
theorem def_eq {n:Nat} {s s':Ps} (h:Rl n s s') (he:(defP s).2.e=0) (hb:(defP s).2.i≤s.i+n):(defP s').1=(defP s).1∧(defP s').2.e=0∧(defP s').2.i+s.i=(defP s).2.i+s'.i:=by
 obtain ⟨x,hx⟩:∃ x,defK (oneP defWords s).1 (oneP defWords s).2=x:=⟨_,rfl⟩
 have e1:defP s=(x.1,wantP [59] x.2):=by unfold defP;rw [hx]
 rw [e1] at he hb ⊢
 simp only at he hb ⊢
 obtain ⟨w1,w2⟩:=want_ok he
 rw [w2] at hb ⊢
 have hb':x.2.i+1≤s.i+n:=hb
 obtain ⟨v,e,i⟩:=loc_defB.eq n s s' h (by rw [hx];omega)
 have hr:=loc_defB.rl h (by rw [hx];omega)
 have gi:=(loc_defB.go s).i
 simp only [hx] at v e i hr gi
 obtain ⟨x',hx'⟩:∃ x',defK (oneP defWords s').1 (oneP defWords s').2=x':=⟨_,rfl⟩
 have e2:defP s'=(x'.1,wantP [59] x'.2):=by unfold defP;rw [hx']
 rw [hx'] at v e i hr
 have hw':isP x'.2 [59]=true:=by rw [hr.is (by omega)];exact w1
 rw [e2]
 try simp only
 unfold wantP
 rw [if_pos hw']
 refine ⟨v,?_,?_⟩
 ·show x'.2.e=0
  rw [e];exact (isP_some w1).1
 ·show x'.2.i+1+s.i=x.2.i+1+s'.i
  omega
end Go.Proofs.YtonkjhmkppeagaaGreatDoor.Pz
