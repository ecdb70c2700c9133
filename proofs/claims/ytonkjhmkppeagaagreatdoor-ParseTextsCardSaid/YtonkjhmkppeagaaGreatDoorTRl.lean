/- Rows of tokens, read in later worlds. Walks: the document's signs and texts between quotes. -/
import Derived.Test.YtonkjhmkppeagaaGreatDoorTLexB
set_option linter.unusedVariables false
set_option linter.unusedSimpArgs false
namespace Go.Proofs.YtonkjhmkppeagaaGreatDoor.Lx
open Go.RowKit Go Ba Va
theorem row_shape {w:World} {base size:Nat} {e:TypeId} {v:Value} {n:Nat} {xs:List Value} (h:w.ownsRow base e size v n xs) (hn:0 < n) :
 ∃ g cap,v=.slice (some ⟨g,0,none⟩) n cap∧base≤g∧n≤cap∧cap≤maxLen∧g < w.heap.size∧∀ j,j < n * size→w.cell? ⟨g,j,none⟩=xs[j]?:=by
 have h0:=h
 rcases h.2 with ⟨rfl,h2⟩|⟨g,cap,cur,rfl,hg,hh,h3,h4,h5,h6⟩
 ·omega
 ·exact ⟨g,cap,rfl,hg,h3,h4,(h0.lt g rfl).2,fun j hj=>h0.cellAt j hj⟩
def TokAt (W:World) (v:Value) (ts:List Tok):Prop :=
 (v=.slice none 0 0∧ts=[])∨∃ g cap,v=.slice (some ⟨g,0,none⟩) ts.length cap∧g < W.heap.size∧ts.length≤cap∧cap≤maxLen∧∀ i t,ts[i]?=some t→∀ j,j < 4→W.cell? ⟨g,i * 4+j,none⟩=(tokCells t)[j]?
theorem TokAt.of {w:World} {base:Nat} {e:TypeId} {v:Value} {ts:List Tok} (h:w.ownsRow base e 4 v ts.length (cellsT ts)):TokAt w v ts:=by
 by_cases hn:ts=[]
 ·subst hn
  rcases h.2 with ⟨rfl,_⟩|⟨g,cap,cur,rfl,hg,hh,h3,h4,h5,h6⟩
  ·exact .inl ⟨rfl,rfl⟩
  ·refine .inr ⟨g,cap,rfl,(h.lt g rfl).2,h3,h4,fun i t ht=>by simp at ht⟩
 ·have hpos:0 < ts.length:=by cases ts with|nil=>exact absurd rfl hn|cons _ _=>simp
  obtain ⟨g,cap,rfl,h1,h2,h3,h4,h5⟩:=row_shape h hpos
  refine .inr ⟨g,cap,rfl,h4,h2,h3,fun i t ht j hj=>?_⟩
  have hi:i < ts.length:=(List.getElem?_eq_some_iff.1 ht).1
  rw [h5 _ (by omega)]
  exact cellsT_at ts i t ht j hj
theorem TokAt.below {W W':World} {v:Value} {ts:List Tok} (h:TokAt W v ts) (hb:Below W.heap.size W W'):TokAt W' v ts:=by
 rcases h with h|⟨g,cap,h1,h2,h3,h4,h5⟩
 ·exact .inl h
 ·exact .inr ⟨g,cap,h1,Nat.lt_of_lt_of_le h2 hb.size,h3,h4,fun i t ht j hj=>(hb.cell (by exact h2)).trans (h5 i t ht j hj)⟩
theorem TokAt.len {W:World} {v:Value} {ts:List Tok} (h:TokAt W v ts):∃ ao cap,v=.slice ao ts.length cap:=by
 rcases h with ⟨h,h2⟩|⟨g,cap,h1,_⟩
 ·subst h2;exact ⟨_,_,h⟩
 ·exact ⟨_,_,h1⟩
theorem TokAt.pos {W:World} {v:Value} {ts:List Tok} (h:TokAt W v ts) (hn:ts≠[]):∃ g cap,v=.slice (some ⟨g,0,none⟩) ts.length cap∧g < W.heap.size∧ts.length≤cap∧cap≤maxLen∧∀ i t,ts[i]?=some t→∀ j,j < 4→W.cell? ⟨g,i * 4+j,none⟩=(tokCells t)[j]?:=by
 rcases h with ⟨h,h2⟩|h
 ·exact absurd h2 hn
 ·exact h
theorem tok4 {W:World} {g i:Nat} {t:Tok} (h:∀ j,j < 4→W.cell? ⟨g,i * 4+j,none⟩=(tokCells t)[j]?):W.cell? ⟨g,i * 4,none⟩=some (.int .i64 t.k)∧W.cell? ⟨g,i * 4+1,none⟩=some (.string ⟨t.t.toArray⟩)∧W.cell? ⟨g,i * 4+2,none⟩=some (.int .i64 t.n)∧W.cell? ⟨g,i * 4+3,none⟩=some (.int .i64 (t.p:Int)) :=
 ⟨h 0 (by decide),h 1 (by decide),h 2 (by decide),h 3 (by decide)⟩
end Go.Proofs.YtonkjhmkppeagaaGreatDoor.Lx
namespace Go.Proofs.YtonkjhmkppeagaaGreatDoor.Lx
open Go.RowKit Go Ba Va
def allB:ByteArray:=⟨#[40,41,44,59,58,124,43,45,42,47,37,61,60,62]⟩
theorem allB_at:∀ k:Nat,k < 14→allB.data.toList[k]?=some (sign1L.getD k 0):=by decide
theorem sign1_mem {c:UInt8} (h:∀ k:Nat,k < 14→sign1L.getD k 0≠c):c ∉ sign1L:=by
 intro hm
 obtain ⟨i,hi,he⟩:=List.getElem_of_mem hm
 have hi':i < 14:=hi
 exact h i hi' (by simp [List.getD,hi,he])
theorem sign1_of {c:UInt8} {k:Nat} (hk:k < 14) (h:sign1L.getD k 0=c):c ∈ sign1L:=by
 subst h
 have hi:k < sign1L.length:=hk
 simp only [List.getD,List.getElem?_eq_getElem hi,Option.getD_some]
 exact List.getElem_mem hi
theorem two_str {s:ByteArray} {a:Nat} {x y:UInt8} (hx:s.data.toList[a]?=some x) (hy:s.data.toList[a+1]?=some y):s.extract a (a+2)=⟨#[x,y]⟩:=by
 rw [take_is,drop_at _ a x hx,drop_at _ (a+1) y hy];rfl
theorem one_str {s:ByteArray} {a:Nat} {x:UInt8} (hx:s.data.toList[a]?=some x):s.extract a (a+1)=⟨#[x]⟩:=by
 rw [take_is,drop_at _ a x hx];rfl
theorem str_eq (x y a b:UInt8):(((⟨#[x,y]⟩:ByteArray).toList) == [a,b])=(x == a && y == b):=by
 rw [Lib.toList_data]
 show ([x,y] == [a,b])=_
 simp
set_option maxHeartbeats 1600000 in
theorem refSign_two (s:ByteArray) (a:Nat) (w:World) (hs:s.size≤20000) (x y:UInt8) (hx:s.data.toList[a]?=some x) (hy:s.data.toList[a+1]?=some y) (h2:sign2B x y=true) :
 Calls Tryz.prog 66 #[.string s,.int .i64 (a:Int)] w fun e w'=>e=.returned (.string ⟨#[x,y]⟩)∧w=w':=by
 have hsz:a+1 < s.size:=by
  obtain ⟨h,_⟩:=List.getElem?_eq_some_iff.1 hy
  rw [size_list];exact h
 have hts:=two_str hx hy
 obtain ⟨X,hX⟩:∃ X:ByteArray,(⟨#[x,y]⟩:ByteArray)=X:=⟨_,rfl⟩
 have t1:=str_eq x y 33 61
 have t2:=str_eq x y 60 61
 have t3:=str_eq x y 62 61
 have t4:=str_eq x y 46 46
 rw [hX] at hts t1 t2 t3 t4 ⊢
 unfold sign2B at h2
 simp only [decide_eq_true_eq] at h2
 clear hx hy hX
 rcases h2 with ⟨rfl,rfl⟩|⟨rfl,rfl⟩|⟨rfl,rfl⟩|⟨rfl,rfl⟩
 all_goals
  simp only [show ((33:UInt8) == 33 && (61:UInt8) == 61)=true by decide,show ((60:UInt8) == 33 && (61:UInt8) == 61)=false by decide,show ((60:UInt8) == 60 && (61:UInt8) == 61)=true by decide,show ((62:UInt8) == 33 && (61:UInt8) == 61)=false by decide,show ((62:UInt8) == 60 && (61:UInt8) == 61)=false by decide,show ((62:UInt8) == 62 && (61:UInt8) == 61)=true by decide,show ((46:UInt8) == 33 && (46:UInt8) == 61)=false by decide,show ((46:UInt8) == 60 && (46:UInt8) == 61)=false by decide,show ((46:UInt8) == 62 && (46:UInt8) == 61)=false by decide,show ((46:UInt8) == 46 && (46:UInt8) == 46)=true by decide] at t1 t2 t3 t4
  go_enter Tryz.func66,Tryz.ntmps66
  go_wp2_with fail
  go_ret
  first|exact ⟨rfl,rfl⟩|exact ⟨ret_str hts,rfl⟩
def NoTwo (s:ByteArray) (a:Nat):Prop:=s.size≤a+1∨(a+1 < s.size∧((s.extract a (a+2)).toList == [33,61])=false∧((s.extract a (a+2)).toList == [60,61])=false∧((s.extract a (a+2)).toList == [62,61])=false∧((s.extract a (a+2)).toList == [46,46])=false)
theorem noTwo_of {s:ByteArray} {a:Nat} {x:UInt8} (hx:s.data.toList[a]?=some x) (h:∀ y,s.data.toList[a+1]?=some y→sign2B x y=false):NoTwo s a:=by
 by_cases hsz:a+1 < s.size
 ·obtain ⟨y,hy⟩:=bat s (a+1) hsz
  have h2:=h y hy
  right
  rw [two_str hx hy]
  simp only [str_eq]
  unfold sign2B at h2
  simp only [decide_eq_false_iff_not,not_or,not_and] at h2
  obtain ⟨n1,n2,n3,n4⟩:=h2
  refine ⟨hsz,?_,?_,?_,?_⟩
  ·by_cases e:x=33
   ·have:=n1 e;simp [this]
   ·simp [e]
  ·by_cases e:x=60
   ·have:=n2 e;simp [this]
   ·simp [e]
  ·by_cases e:x=62
   ·have:=n3 e;simp [this]
   ·simp [e]
  ·by_cases e:x=46
   ·have:=n4 e;simp [this]
   ·simp [e]
 ·exact .inl (by omega)
set_option maxHeartbeats 3200000 in
theorem refSign_one (s:ByteArray) (a:Nat) (w:World) (ha:a < s.size) (hs:s.size≤20000) (x:UInt8) (hx:s.data.toList[a]?=some x) (h2:NoTwo s a) :
 Calls Tryz.prog 66 #[.string s,.int .i64 (a:Int)] w fun e w'=>e=.returned (.string ⟨(if x ∈ sign1L then [x] else []).toArray⟩)∧Below w.heap.size w w':=by
 have hat:=str_at ha hx
 have hbx:=byte_lt x
 obtain ⟨R,hR⟩:∃ R:ByteArray,(⟨(if x ∈ sign1L then [x] else []).toArray⟩:ByteArray)=R:=⟨_,rfl⟩
 rw [hR]
 have HR:=Lib.hid hR
 have hal:(⟨#[40,41,44,59,58,124,43,45,42,47,37,61,60,62]⟩:ByteArray)=allB:=rfl
 have has:allB.size=14:=rfl
 clear hR hx
 rcases h2 with h2|⟨h2,t1,t2,t3,t4⟩
 all_goals
  go_enter Tryz.func66,Tryz.ntmps66
  go_wp2_with fail
  try clear t1 t2 t3 t4
  go_loopw [7] (fun i wr=>∃ k:Nat,k≤14∧i=.int .i64 k∧Below w.heap.size w wr∧Hid (∀ j:Nat,j < k→sign1L.getD j 0≠x)) (fun i _=>14 - (intOf i).toNat)
  case atStart=>exact ⟨0,by omega,rfl,Below.refl _ _,fun j hj=>by omega⟩
  case round =>
   obtain ⟨k,hk,rfl,bw,HN⟩:=hrel
   by_cases hlt:k < 14
   ·obtain ⟨b,hb⟩:∃ b,sign1L.getD k 0=b:=⟨_,rfl⟩
    have hab:=allB_at k hlt
    rw [hb] at hab
    have hat2:allB[k]'(by rw [has];exact hlt)=b:=str_at (by rw [has];exact hlt) hab
    have hex:=one_str hab
    have HB:=Lib.hid hb
    clear hb hab
    by_cases hbx:b=x
    ·subst hbx
     have HRR:Hid ((⟨#[b]⟩:ByteArray)=R):=by
      show (⟨#[b]⟩:ByteArray)=R
      rw [← HR.out,if_pos (sign1_of hlt HB.out)]
     go_wp2_with fail
     go_quiet (fail)
     go_wp2_with fail
     go_ret
     exact ⟨by first|exact ret_str HRR.out|exact ret_str (hex.trans HRR.out),Below.drewN bw _⟩
    ·have HNN:Hid (∀ j:Nat,j < k+1→sign1L.getD j 0≠x):=fun j hj=>by
      by_cases e:j=k
      ·subst e;rw [HB.out];exact hbx
      ·exact HN.out j (by omega)
     have tb:((b.toNat:Int) == (x.toNat:Int))=false:=by
      rw [beq_eq_false_iff_ne]
      exact fun e=>hbx (byte_eq e)
     go_wp2_with fail
     go_quiet (fail)
     go_wp2_with fail
     go_roundw
     case rel=>exact ⟨k+1,by omega,by go_num,Below.drewN bw _,HNN⟩
     case measure=>simp [intOf];omega
   ·have HRR:Hid ((⟨#[]⟩:ByteArray)=R):=by
     show (⟨#[]⟩:ByteArray)=R
     rw [← HR.out,if_neg (sign1_mem fun j hj=>HN.out j (by omega))]
    go_wp2_with fail
    go_ret
    exact ⟨by rw [← HRR.out];rfl,bw⟩
theorem refSign_is (s:ByteArray) (a:Nat) (w:World) (ha:a < s.size) (hs:s.size≤20000) :
 Calls Tryz.prog 66 #[.string s,.int .i64 (a:Int)] w fun e w'=>e=.returned (.string ⟨((s.data.toList.drop a).take (signN (s.data.toList.drop a))).toArray⟩)∧Below w.heap.size w w':=by
 obtain ⟨x,hx⟩:=bat s a ha
 have hd:=drop_at _ a x hx
 cases hd1:s.data.toList.drop (a+1) with
 | nil =>
  have hno:s.data.toList[a+1]?=none:=by
   rw [← List.head?_drop,hd1];rfl
  have:=refSign_one s a w ha hs x hx (noTwo_of hx fun y hy=>by rw [hno] at hy;cases hy)
  rw [hd,hd1,sg_one]
  by_cases hm:x ∈ sign1L
  ·rw [if_pos hm] at this ⊢;exact this
  ·rw [if_neg hm] at this ⊢;exact this
 | cons y r =>
  have hy:s.data.toList[a+1]?=some y:=by
   rw [← List.head?_drop,hd1];rfl
  rw [hd,hd1,sg_two]
  by_cases h2:sign2B x y=true
  ·rw [if_pos h2]
   exact (refSign_two s a w hs x y hx hy h2).mono fun e w' ⟨he,hw⟩=>⟨he,hw ▸ Below.refl _ _⟩
  ·rw [if_neg h2]
   have:=refSign_one s a w ha hs x hx (noTwo_of hx fun y' hy'=>by rw [hy] at hy';injection hy' with e;subst e;simpa using h2)
   by_cases hm:x ∈ sign1L
   ·rw [if_pos hm] at this ⊢;exact this
   ·rw [if_neg hm] at this ⊢;exact this
def refQ (u:List UInt8) (k:Nat) (o:Option (List UInt8 × Nat)):Value:=match o with
 | some (t,n)=>if (u++t).length≤64 then .tuple #[.string ⟨(u++t).toArray⟩,.int .i64 ((k+n:Nat):Int)] else .tuple #[.string ⟨#[]⟩,.int .i64 (-1)]
 | none=>.tuple #[.string ⟨#[]⟩,.int .i64 (-1)]
theorem refQ_end {L u:List UInt8} {k:Nat} (h:L[k]?=some 34):refQ u k (rdQ (L.drop k))=if u.length≤64 then .tuple #[.string ⟨u.toArray⟩,.int .i64 ((k+1:Nat):Int)] else .tuple #[.string ⟨#[]⟩,.int .i64 (-1)]:=by
 rw [drop_at L k 34 h,rdQ_cons,if_pos rfl]
 show (if (u++[]).length≤64 then _ else _)=_
 rw [List.append_nil]
theorem refQ_bad {L u:List UInt8} {k:Nat} {c:UInt8} (h:L[k]?=some c) (hc:c.toNat < 32∨126 < c.toNat):refQ u k (rdQ (L.drop k))=.tuple #[.string ⟨#[]⟩,.int .i64 (-1)]:=by
 rw [drop_at L k c h,rdQ_cons,if_neg (by rintro rfl;revert hc;decide),if_pos hc];rfl
theorem refQ_one {L u:List UInt8} {k:Nat} {c:UInt8} (h:L[k]?=some c) (h34:c≠34) (h92:c≠92) (hc:¬ (c.toNat < 32∨126 < c.toNat)):refQ u k (rdQ (L.drop k))=refQ (u++[c]) (k+1) (rdQ (L.drop (k+1))):=by
 rw [drop_at L k c h,rdQ_cons,if_neg h34,if_neg hc,if_neg h92]
 cases rdQ (L.drop (k+1)) with
 | none=>rfl
 | some x =>
  obtain ⟨t,n⟩:=x
  show (if (u++c::t).length≤64 then _ else _)=(if ((u++[c])++t).length≤64 then _ else _)
  rw [show (u++[c])++t=u++c::t by simp,show k+(n+1)=k+1+n by omega]
theorem refQ_esc {L u:List UInt8} {k:Nat} {d:UInt8} (h:L[k]?=some 92) (h2:L[k+1]?=some d) (hd:d=34∨d=92):refQ u k (rdQ (L.drop k))=refQ (u++[d]) (k+2) (rdQ (L.drop (k+2))):=by
 rw [drop_at L k 92 h,drop_at L (k+1) d h2,rdQ_cons,if_neg (by decide),if_neg (by decide),if_pos rfl]
 simp only
 rw [if_pos hd]
 cases rdQ (L.drop (k+1+1)) with
 | none=>rfl
 | some x =>
  obtain ⟨t,n⟩:=x
  show (if (u++d::t).length≤64 then _ else _)=(if ((u++[d])++t).length≤64 then _ else _)
  rw [show (u++[d])++t=u++d::t by simp,show k+(n+2)=k+2+n by omega]
theorem refQ_noesc {L u:List UInt8} {k:Nat} (h:L[k]?=some 92) (h2:L.length≤k+1∨∃ d,L[k+1]?=some d∧¬ (d=34∨d=92)):refQ u k (rdQ (L.drop k))=.tuple #[.string ⟨#[]⟩,.int .i64 (-1)]:=by
 rw [drop_at L k 92 h,rdQ_cons,if_neg (by decide),if_neg (by decide),if_pos rfl]
 rcases h2 with h2|⟨d,h2,h3⟩
 ·rw [List.drop_eq_nil_of_le h2];rfl
 ·rw [drop_at L (k+1) d h2]
  simp only
  rw [if_neg h3];rfl
theorem refQ_fin {L u:List UInt8} {k:Nat} (h:L.length≤k):refQ u k (rdQ (L.drop k))=.tuple #[.string ⟨#[]⟩,.int .i64 (-1)]:=by
 rw [List.drop_eq_nil_of_le h,rdQ_nil];rfl
set_option maxHeartbeats 3200000 in
theorem refQuoted_any (s:ByteArray) (a:Nat) (w:World) (ha:a < s.size) (hs:s.size≤20000) :
 Calls Tryz.prog 65 #[.string s,.int .i64 (a:Int)] w fun e w'=>e=.returned (refQ [] (a+1) (rdQ (s.data.toList.drop (a+1))))∧w=w':=by
 obtain ⟨R,hR⟩:∃ R,refQ [] (a+1) (rdQ (s.data.toList.drop (a+1)))=R:=⟨_,rfl⟩
 rw [hR]
 have HR:=Lib.hid hR
 clear hR
 go_enter Tryz.func65,Tryz.ntmps65
 go_wp2_with fail
 go_loop [6,7] (fun t i=>∃ (k:Nat) (x:ByteArray),k≤s.size∧i=.int .i64 k∧t=.string x∧x.size≤k∧Hid (refQ x.data.toList k (rdQ (s.data.toList.drop k))=R)) (fun _ i=>s.size+1 - (intOf i).toNat)
 case atStart=>exact ⟨a+1,⟨#[]⟩,by omega,by go_num,rfl,Nat.zero_le _,HR⟩
 case round =>
  clear HR
  obtain ⟨k,x,hk,rfl,rfl,hx,HR⟩:=hrel
  by_cases hlt:k < s.size
  ·obtain ⟨b,hbk⟩:=bat s k hlt
   have hat:=str_at hlt hbk
   have hb8:=byte_lt b
   by_cases h34:b=34
   ·subst h34
    have he:=(refQ_end hbk).symm.trans HR.out
    rw [← size_list] at he
    by_cases h64:64 < x.size
    ·rw [if_neg (by omega)] at he
     have HE:=Lib.hid he
     clear he hbk HR
     go_wp2_with fail
     refine bodyPost_ret (v:=.tuple #[.string ⟨#[]⟩,.int .i64 (-1)]) (by simp [results,Tryz.results65,go_sem]) rfl ?_
     exact ⟨by rw [HE.out],rfl⟩
    ·rw [if_pos (by omega)] at he
     have HE:=Lib.hid he
     clear he hbk HR
     go_wp2_with fail
     refine bodyPost_ret (v:=.tuple #[.string x,.int .i64 ((k+1:Nat):Int)]) (by simp [results,Tryz.results65,go_sem]) rfl ?_
     exact ⟨by rw [← HE.out],rfl⟩
   by_cases hc:b.toNat < 32∨126 < b.toNat
   ·have HE:=Lib.hid ((refQ_bad hbk hc).symm.trans HR.out)
    have t34:((b.toNat:Int) == 34)=false:=bne_byte (n:=34) (by decide) h34
    clear hbk HR
    rcases hc with hc|hc
    ·have hc':(b.toNat:Int) < 32:=by omega
     go_wp2_with fail
     refine bodyPost_ret (v:=.tuple #[.string ⟨#[]⟩,.int .i64 (-1)]) (by simp [results,Tryz.results65,go_sem]) rfl ?_
     exact ⟨by rw [HE.out],rfl⟩
    ·have hc':126 < (b.toNat:Int):=by omega
     go_wp2_with fail
     refine bodyPost_ret (v:=.tuple #[.string ⟨#[]⟩,.int .i64 (-1)]) (by simp [results,Tryz.results65,go_sem]) rfl ?_
     exact ⟨by rw [HE.out],rfl⟩
   have hc1:¬ (b.toNat:Int) < 32:=by omega
   have hc2:¬ 126 < (b.toNat:Int):=by omega
   by_cases h92:b=92
   ·subst h92
    by_cases hl2:k+1 < s.size
    ·obtain ⟨d,hdk⟩:=bat s (k+1) hl2
     have hat2:=str_at hl2 hdk
     have hd8:=byte_lt d
     have hle:((k:Int)+1 == (s.size:Int))=false:=by rw [beq_eq_false_iff_ne];omega
     have hle2:(k+1 == s.size)=false:=by rw [beq_eq_false_iff_ne];omega
     by_cases hd:d=34∨d=92
     ·have HE:=Lib.hid ((refQ_esc hbk hdk hd).symm.trans HR.out)
      have hon:=one_str hdk
      clear hbk hdk HR h34 hc
      have HX:Hid ((x++⟨#[d]⟩).data.toList=x.data.toList++[d]):=by show (x++⟨#[d]⟩).data.toList=_;rw [add_data]
      have hsx:(x++(⟨#[d]⟩:ByteArray)).size≤k+1:=by rw [size_list,HX.out,List.length_append,← size_list];simp;exact hx
      have hs1:(⟨#[d]⟩:ByteArray).size=1:=rfl
      rcases hd with rfl|rfl
      all_goals
       go_wp2_with fail
       go_round
       case rel=>exact ⟨k+2,_,by omega,by go_num,rfl,by omega,by rw [HX.out];exact HE⟩
       case measure=>simp [intOf];omega
     ·have HE:=Lib.hid ((refQ_noesc hbk (.inr ⟨d,hdk,hd⟩)).symm.trans HR.out)
      simp only [not_or] at hd
      have s1:((d.toNat:Int) == 34)=false:=bne_byte (n:=34) (by decide) hd.1
      have s2:((d.toNat:Int) == 92)=false:=bne_byte (n:=92) (by decide) hd.2
      have s3:((d.toNat:Int) != 34)=true:=by simpa using s1
      have s4:((d.toNat:Int) != 92)=true:=by simpa using s2
      clear hbk hdk HR hd h34 hc
      go_wp2_with fail
      refine bodyPost_ret (v:=.tuple #[.string ⟨#[]⟩,.int .i64 (-1)]) (by simp [results,Tryz.results65,go_sem]) rfl ?_
      exact ⟨by rw [HE.out],rfl⟩
    ·have ek:k+1=s.size:=by omega
     have hle:((k:Int)+1 == (s.size:Int))=true:=by rw [beq_iff_eq];omega
     have HE:=Lib.hid ((refQ_noesc hbk (.inl (by rw [← size_list];omega))).symm.trans HR.out)
     clear hbk HR ek h34 hc
     go_wp2_with fail
     refine bodyPost_ret (v:=.tuple #[.string ⟨#[]⟩,.int .i64 (-1)]) (by simp [results,Tryz.results65,go_sem]) rfl ?_
     exact ⟨by rw [HE.out],rfl⟩
   ·have HE:=Lib.hid ((refQ_one hbk h34 h92 hc).symm.trans HR.out)
    have t34:((b.toNat:Int) == 34)=false:=bne_byte (n:=34) (by decide) h34
    have t92:((b.toNat:Int) == 92)=false:=bne_byte (n:=92) (by decide) h92
    have hon:=one_str hbk
    clear hbk HR h34 h92 hc
    have HX:Hid ((x++⟨#[b]⟩).data.toList=x.data.toList++[b]):=by show (x++⟨#[b]⟩).data.toList=_;rw [add_data]
    have hsx:(x++(⟨#[b]⟩:ByteArray)).size≤k+1:=by rw [size_list,HX.out,List.length_append,← size_list];simp;exact hx
    have hs1:(⟨#[b]⟩:ByteArray).size=1:=rfl
    go_wp2_with fail
    go_round
    case rel=>exact ⟨k+1,_,by omega,by go_num,rfl,by omega,by rw [HX.out];exact HE⟩
    case measure=>simp [intOf];omega
  ·have HE:=Lib.hid ((refQ_fin (by rw [← size_list];omega)).symm.trans HR.out)
   clear HR
   go_wp2_with fail
   refine bodyPost_ret (v:=.tuple #[.string ⟨#[]⟩,.int .i64 (-1)]) (by simp [results,Tryz.results65,go_sem]) rfl ?_
   exact ⟨by rw [HE.out],rfl⟩
end Go.Proofs.YtonkjhmkppeagaaGreatDoor.Lx
