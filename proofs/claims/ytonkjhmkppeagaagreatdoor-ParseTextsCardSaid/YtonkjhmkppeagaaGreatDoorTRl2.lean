/- Walks: the document's tokens of a text. -/
import Derived.Test.YtonkjhmkppeagaaGreatDoorTRl
set_option linter.unusedVariables false
set_option linter.unusedSimpArgs false
namespace Go.Proofs.YtonkjhmkppeagaaGreatDoor.Lx
open Go.RowKit Go Ba Va
theorem step_ws {L:List UInt8} {acc:List Tok} {k:Nat} {c:UInt8} (hc:L[k]?=some c) (hb:wsB c=true) (h:lexL L 0=pre acc (lexL (L.drop k) k)):lexL L 0=pre acc (lexL (L.drop (k+1)) (k+1)):=by
 rw [h,drop_at L k c hc,lex_ws hb]
theorem step_rem {L:List UInt8} {acc:List Tok} {k:Nat} (hc:L[k]?=some 35) (h:lexL L 0=pre acc (lexL (L.drop k) k)):lexL L 0=pre acc (lexL (L.drop (k+runN notNl (L.drop k))) (k+runN notNl (L.drop k))):=by
 rw [h,drop_at L k 35 hc,lex_rem,runN_cons,if_pos (by decide),List.drop_drop,show k+1+runN notNl (L.drop (k+1))=k+(runN notNl (L.drop (k+1))+1) by omega]
theorem step_tok {L:List UInt8} {acc:List Tok} {k:Nat} {c:UInt8} {kk:Int} {t:List UInt8} {n:Int} {m:Nat} (hc:L[k]?=some c) (hb:tokB c=true) (ht:tok1 (L.drop k)=.ok kk t n m)
 (h:lexL L 0=pre acc (lexL (L.drop k) k)):lexL L 0=pre (acc++[⟨kk,t,n,k⟩]) (lexL (L.drop (k+m)) (k+m)):=by
 have hd:=drop_at L k c hc
 have ht':=ht
 rw [hd] at ht'
 have hm:=tok1_facts.1 kk t n m ht'
 rw [h,hd,lex_ok hb ht' hm.1,pre_pre,← hd,List.drop_drop]
theorem tok1_at {L:List UInt8} {k:Nat} {c:UInt8} (hc:L[k]?=some c):tok1 (L.drop k)=if letB c=true then (if runN wordB (L.drop k) > 16 then .err 50 else .ok 1 ((L.drop k).take (runN wordB (L.drop k))) 0 (runN wordB (L.drop k)))
 else if digB c=true then (if c=48∧runN digB (L.drop k) > 1 then .err 50 else if decV 0 ((L.drop k).take (runN digB (L.drop k)))≤9223372036854775807 then .ok 2 [] (decV 0 ((L.drop k).take (runN digB (L.drop k)))) (runN digB (L.drop k)) else .err 10)
 else if c=34 then (match qTok (L.drop (k+1)) with|some (t,n)=>.ok 3 t 0 n|none=>.err 50)
 else if signN (L.drop k)=0 then .err 50 else .ok 4 ((L.drop k).take (signN (L.drop k))) 0 (signN (L.drop k)):=by
 rw [drop_at L k c hc];exact tok1_cons c _
def OverOk (ov:Bool) (q D:Nat):Prop:=if ov=true then 9223372036854775807 < D else D=q
theorem dec_take {l:List UInt8} {j:Nat} {b:UInt8} (h:l[j]?=some b):decV 0 (l.take (j+1))=decV 0 (l.take j) * 10+(b.toNat - 48):=by
 rw [take_one l j b h,decV_app,decV_cons,decV_nil]
theorem over_step {ov:Bool} {q D d:Nat} (h:OverOk ov q D) (hq:q≤9223372036854775807) (hd:d≤9) :
 (ov=true→OverOk true q (D * 10+d))∧(ov=false→(922337203685477580 < q∨(q=922337203685477580∧7 < d))→OverOk true q (D * 10+d))∧(ov=false→¬ (922337203685477580 < q∨(q=922337203685477580∧7 < d))→OverOk false (q * 10+d) (D * 10+d)∧q * 10+d≤9223372036854775807):=by
 unfold OverOk at h ⊢
 refine ⟨fun e=>?_,fun e c=>?_,fun e c=>?_⟩
 ·subst e
  rw [if_pos rfl] at h ⊢
  omega
 ·subst e
  rw [if_neg (by decide)] at h
  rw [if_pos rfl]
  omega
 ·subst e
  rw [if_neg (by decide)] at h
  rw [if_neg (by decide)]
  omega
theorem own_set {ww wr:World} {base sz:Nat} {e:TypeId} {v:Value} {n:Nat} {xs:List Value} (ho:ww.ownsRow base e sz v n xs) (h0:wr.ownsRow base e sz v n xs) (i:Nat) (x:Value):(ww.setCell ⟨wr.heap.size,i,none⟩ x).ownsRow base e sz v n xs :=
 own_of_block ho fun k hk=>((Below.refl wr.heap.size ww).setCell (p:=⟨wr.heap.size,i,none⟩) (Nat.le_refl _) x).block k (h0.lt k hk).2
theorem own_setB {ww:World} {base sz B:Nat} {e:TypeId} {v:Value} {n:Nat} {xs:List Value} (ho:ww.ownsRow base e sz v n xs) (h0:∀ k,v.ownBlock=some k→k < B) (i:Nat) (x:Value):(ww.setCell ⟨B,i,none⟩ x).ownsRow base e sz v n xs :=
 own_of_block ho fun k hk=>((Below.refl B ww).setCell (p:=⟨B,i,none⟩) (Nat.le_refl _) x).block k (h0 k hk)
theorem lexTo_err {x:List Tok × Nat × Int} {k:Nat} {e:Int} {T:TypeId} {w w':World} (h:x=([],k,e)) (hb:Below w.heap.size w w'):LexTo x T w (.returned (.tuple #[.slice none 0 0,.int .i64 (k:Int),.int .i64 e])) w':=by
 subst h
 exact ⟨_,rfl,World.ownsRow_nil _ _ _ _,hb⟩
set_option maxRecDepth 100000 in
set_option maxHeartbeats 30000000 in
theorem refLex_any (s:ByteArray) (w:World) (hs:s.size≤20000) :
 Calls Tryz.prog 33 #[.string s] w (LexTo (lexS s.data.toList) 81 w):=by
 by_cases h16:16384 < s.size
 ·have HX:Hid (lexS s.data.toList=([],0,31)):=by
   show lexS s.data.toList=_
   unfold lexS
   rw [if_pos (by rw [← size_list];exact h16)]
  go_enter Tryz.func33,Tryz.ntmps33
  go_wp2_with fail
  refine bodyPost_ret (v:=.tuple #[.slice none 0 0,.int .i64 0,.int .i64 31]) (by simp [results,Tryz.results33,go_sem]) rfl ?_
  rw [HX.out]
  exact ⟨_,rfl,World.ownsRow_nil _ _ _ _,Below.refl _ _⟩
 have HX:Hid (lexS s.data.toList=lexL s.data.toList 0):=by
  show lexS s.data.toList=_
  unfold lexS
  rw [if_neg (by rw [← size_list];exact h16)]
 obtain ⟨i0,hi,hz0,hz1,hz2⟩:=info_parts infoRef
 have hls:s.data.toList.length=s.size:=(size_list s).symm
 have HST:Hid (lexL s.data.toList 0=pre [] (lexL (s.data.toList.drop 0) 0)):=by
  rw [List.drop_zero,pre_lex];rfl
 have HLS:=Lib.hid hls
 clear hls
 go_enter Tryz.func33,Tryz.ntmps33
 go_wp2_with fail
 go_loopw [5,6] (fun v i wr=>∃ (k:Nat) (acc:List Tok),k≤s.size∧i=.int .i64 k∧wr.ownsRow w.heap.size 81 4 v acc.length (cellsT acc)∧Below w.heap.size w wr∧Hid (lexL s.data.toList 0=pre acc (lexL (s.data.toList.drop k) k))∧acc.length≤k) (fun _ i _=>s.size - (intOf i).toNat)
 case atStart=>exact ⟨0,[],Nat.zero_le _,rfl,World.ownsRow_nil _ _ _ _,Below.refl _ _,HST,Nat.zero_le _⟩
 case round =>
  clear HST
  obtain ⟨k,acc,hk,rfl,hown,hbel,HST,hacc⟩:=hrel
  have HOWN:=Lib.hid hown
  clear hown
  by_cases hlt:k < s.size
  ·obtain ⟨c,hc⟩:=bat s k hlt
   have hat:=str_at hlt hc
   have hb8:=byte_lt c
   rcases byte_cases c with hw|rfl|hb
   ·have HSO:=Lib.hid (step_ws hc hw HST.out)
    have hw':c=32∨c=9∨c=10:=by unfold wsB at hw;exact of_decide_eq_true hw
    clear hc hw HST
    rcases hw' with rfl|rfl|rfl
    all_goals
     go_wp2_with fail
     go_roundw
     case rel=>exact ⟨k+1,acc,by omega,by go_num,HOWN.out,hbel,HSO,by omega⟩
     case measure=>simp [intOf];omega
   ·have HSO:=Lib.hid (step_rem hc HST.out)
    have hrb:=run_bd notNl s.data.toList k (by rw [HLS.out];omega)
    rw [HLS.out] at hrb
    have hpos:=run_pos hc
    obtain ⟨z,hz⟩:∃ z,k+runN notNl (s.data.toList.drop k)=z:=⟨_,rfl⟩
    have HRW:Hid (z=k+runN notNl (s.data.toList.drop k)):=hz.symm
    rw [hz] at HSO hrb
    have hkz:k < z:=by omega
    clear hc hz HST hpos
    go_wp2_with fail
    go_loop [6] (fun i=>∃ j:Nat,k≤j∧j≤s.size∧i=.int .i64 j∧Hid (z=j+runN notNl (s.data.toList.drop j))) (fun i=>s.size - (intOf i).toNat)
    case atStart=>exact ⟨k,by omega,by omega,rfl,HRW⟩
    case round =>
     clear HRW
     obtain ⟨j,hkj,hj,rfl,HRW⟩:=hrel
     by_cases hjl:j < s.size
     ·obtain ⟨b,hbj⟩:=bat s j hjl
      have hatj:=str_at hjl hbj
      by_cases hf:b=10
      ·have ez:=run_no (f:=notNl) hbj (by rw [hf];decide) HRW.out
       subst ez hf
       clear hbj HRW
       go_wp2_with fail
       go_roundw
       case rel=>exact ⟨z,acc,by omega,rfl,HOWN.out,hbel,HSO,by omega⟩
       case measure=>simp [intOf];omega
      ·have HRW2:=Lib.hid (run_yes (f:=notNl) hbj (by unfold notNl;exact decide_eq_true hf) HRW.out)
       have t10:((b.toNat:Int) == 10)=false:=bne_byte (n:=10) (by decide) hf
       have t11:((b.toNat:Int) != 10)=true:=by simpa using t10
       clear hbj hf HRW
       go_wp2_with fail
       go_round
       case rel=>exact ⟨j+1,by omega,by omega,by go_num,HRW2⟩
       case measure=>simp [intOf];omega
     ·have ez:=run_end (by rw [HLS.out];omega) HRW.out
      subst ez
      clear HRW
      go_wp2_with fail
      go_roundw
      case rel=>exact ⟨z,acc,by omega,rfl,HOWN.out,hbel,HSO,by omega⟩
      case measure=>simp [intOf];omega
   ·have HTB:=Lib.hid hb
    obtain ⟨t1,t2,t3,t4⟩:=tok_ne hb
    clear hb
    by_cases hl:letB c=true
    ·as_aux_lemma =>
      have HL:=Lib.hid (fun W=>by have:=refLetter_any c W;rw [hl] at this;exact this)
      have hrb:=run_bd wordB s.data.toList k (by rw [HLS.out];omega)
      rw [HLS.out] at hrb
      have hpos:=run_one (f:=wordB) hc (let_word hl)
      have hx:=take_is s k (runN wordB (s.data.toList.drop k))
      have ht:=tok1_at hc
      rw [if_pos hl] at ht
      obtain ⟨m,hm⟩:∃ m,runN wordB (s.data.toList.drop k)=m:=⟨_,rfl⟩
      rw [hm] at hrb hpos hx ht
      obtain ⟨z,hz⟩:∃ z,k+m=z:=⟨_,rfl⟩
      have HRW:Hid (z=k+runN wordB (s.data.toList.drop k)):=by show z=_;omega
      have B0:Below w.heap.size w (wr.alloc (.cells #[.int .i64 0,.string ⟨#[]⟩,.int .i64 0,.int .i64 (k:Int)] 81)):=hbel.alloc hbel.size _
      have HO1:=Lib.hid (HOWN.out.alloc (.cells #[.int .i64 1,.string (s.extract k z),.int .i64 0,.int .i64 (k:Int)] 81))
      have hbw:=hbel.alloc hbel.size (.cells #[.int .i64 1,.string (s.extract k z),.int .i64 0,.int .i64 (k:Int)] 81)
      by_cases h16:m > 16
      ·rw [if_pos h16] at ht
       have HSE:=Lib.hid (step_err hc (HTB.out) ht HST.out).1
       have hz16:k+16 < z:=by omega
       clear ht hc HST hx hm hl
       as_aux_lemma =>
        go_wp2_with (go_at_call 63;refine (HL.out _).mono ?_;rintro e w' ⟨rfl,rfl⟩)
        go_loop [9] (fun i=>∃ j:Nat,k≤j∧j≤s.size∧i=.int .i64 j∧Hid (z=j+runN wordB (s.data.toList.drop j))) (fun i=>s.size - (intOf i).toNat)
        case atStart=>exact ⟨k,by omega,by omega,rfl,HRW⟩
        case round =>
         clear HRW
         obtain ⟨j,hkj,hj,rfl,HRW⟩:=hrel
         by_cases hjl:j < s.size
         ·obtain ⟨b,hbj⟩:=bat s j hjl
          have hatj:=str_at hjl hbj
          cases hf:wordB b
          ·have ez:=run_no hbj hf HRW.out
           subst ez
           have hwl:letB b=false∧digB b=false∧b≠95:=by
            unfold wordB at hf
            simp only [Bool.or_eq_false_iff,decide_eq_false_iff_not] at hf
            exact ⟨hf.1.1,hf.1.2,hf.2⟩
           have HL2:=Lib.hid (fun W=>by have:=refLetter_any b W;rw [hwl.1] at this;exact this)
           have HD2:=Lib.hid (fun W=>by have:=refDigit_any b W;rw [hwl.2.1] at this;exact this)
           have t95:((b.toNat:Int) == 95)=false:=bne_byte (n:=95) (by decide) hwl.2.2
           clear hbj hf HRW hwl
           go_wp2_with (first|(go_at_call 63;refine (HL2.out _).mono ?_;rintro e w' ⟨rfl,rfl⟩)|(go_at_call 64;refine (HD2.out _).mono ?_;rintro e w' ⟨rfl,rfl⟩))
           try simp only [Exit.inBlock,Exit.then]
           refine bodyPost_ret (v:=.tuple #[.slice none 0 0,.int .i64 (k:Int),.int .i64 50]) (by simp [results,Tryz.results33,go_sem]) rfl ?_
           rw [HX.out]
           exact lexTo_err HSE.out B0
          ·have HRW2:=Lib.hid (run_yes hbj hf HRW.out)
           by_cases g1:letB b=true
           ·have HL2:=Lib.hid (fun W=>by have:=refLetter_any b W;rw [g1] at this;exact this)
            clear hbj hf HRW g1
            go_wp2_with (go_at_call 63;refine (HL2.out _).mono ?_;rintro e w' ⟨rfl,rfl⟩)
            go_round
            case rel=>exact ⟨j+1,by omega,by omega,by go_num,HRW2⟩
            case measure=>simp [intOf];omega
           have g1':letB b=false:=by simpa using g1
           have HL2:=Lib.hid (fun W=>by have:=refLetter_any b W;rw [g1'] at this;exact this)
           by_cases g2:digB b=true
           ·have HD2:=Lib.hid (fun W=>by have:=refDigit_any b W;rw [g2] at this;exact this)
            clear hbj hf HRW g1 g1' g2
            go_wp2_with (first|(go_at_call 63;refine (HL2.out _).mono ?_;rintro e w' ⟨rfl,rfl⟩)|(go_at_call 64;refine (HD2.out _).mono ?_;rintro e w' ⟨rfl,rfl⟩))
            go_round
            case rel=>exact ⟨j+1,by omega,by omega,by go_num,HRW2⟩
            case measure=>simp [intOf];omega
           have g2':digB b=false:=by simpa using g2
           have HD2:=Lib.hid (fun W=>by have:=refDigit_any b W;rw [g2'] at this;exact this)
           have g3:b=95:=by
            unfold wordB at hf
            rw [g1',g2'] at hf
            simpa using hf
           subst g3
           clear hbj hf HRW g1 g1' g2 g2'
           go_wp2_with (first|(go_at_call 63;refine (HL2.out _).mono ?_;rintro e w' ⟨rfl,rfl⟩)|(go_at_call 64;refine (HD2.out _).mono ?_;rintro e w' ⟨rfl,rfl⟩))
           go_round
           case rel=>exact ⟨j+1,by omega,by omega,by go_num,HRW2⟩
           case measure=>simp [intOf];omega
         ·have ez:=run_end (by rw [HLS.out];omega) HRW.out
          subst ez
          clear HRW
          go_wp2_with fail
          try simp only [Exit.inBlock,Exit.then]
          refine bodyPost_ret (v:=.tuple #[.slice none 0 0,.int .i64 (k:Int),.int .i64 50]) (by simp [results,Tryz.results33,go_sem]) rfl ?_
          rw [HX.out]
          exact lexTo_err HSE.out B0
      ·rw [if_neg h16] at ht
       have HSO:=Lib.hid (step_tok hc (HTB.out) ht HST.out)
       rw [hz] at HSO hx
       have hz16:z≤k+16:=by omega
       have HTC:Hid ([Value.int .i64 1,.string (s.extract k z),.int .i64 0,.int .i64 (k:Int)]=tokCells ⟨1,(s.data.toList.drop k).take m,0,k⟩):=by
        show [Value.int .i64 1,.string (s.extract k z),.int .i64 0,.int .i64 (k:Int)]=_
        rw [hx];rfl
       clear ht hc HST hx hm hl
       as_aux_lemma =>
        go_wp2_with (go_at_call 63;refine (HL.out _).mono ?_;rintro e w' ⟨rfl,rfl⟩)
        go_loop [9] (fun i=>∃ j:Nat,k≤j∧j≤s.size∧i=.int .i64 j∧Hid (z=j+runN wordB (s.data.toList.drop j))) (fun i=>s.size - (intOf i).toNat)
        case atStart=>exact ⟨k,by omega,by omega,rfl,HRW⟩
        case round =>
         clear HRW
         obtain ⟨j,hkj,hj,rfl,HRW⟩:=hrel
         by_cases hjl:j < s.size
         ·obtain ⟨b,hbj⟩:=bat s j hjl
          have hatj:=str_at hjl hbj
          cases hf:wordB b
          ·have ez:=run_no hbj hf HRW.out
           subst ez
           have hwl:letB b=false∧digB b=false∧b≠95:=by
            unfold wordB at hf
            simp only [Bool.or_eq_false_iff,decide_eq_false_iff_not] at hf
            exact ⟨hf.1.1,hf.1.2,hf.2⟩
           have HL2:=Lib.hid (fun W=>by have:=refLetter_any b W;rw [hwl.1] at this;exact this)
           have HD2:=Lib.hid (fun W=>by have:=refDigit_any b W;rw [hwl.2.1] at this;exact this)
           have t95:((b.toNat:Int) == 95)=false:=bne_byte (n:=95) (by decide) hwl.2.2
           clear hbj hf HRW hwl
           go_wp2_with (first|(go_at_call 63;refine (HL2.out _).mono ?_;rintro e w' ⟨rfl,rfl⟩)|(go_at_call 64;refine (HD2.out _).mono ?_;rintro e w' ⟨rfl,rfl⟩)|(at_builtin;refine app_tok rfl (.tmp 166) (.tmp 168) 77 81 rfl Tryz.underlying77 hi hz0 hz1 hz2 w.heap.size u5 acc ⟨1,(s.data.toList.drop k).take m,0,k⟩ _ _ _ _ HTC.out ?_ ?_ ?_ ?_ ?_ ?_;rfl;exact HO1.out;(show Value.slice (some ⟨wr.heap.size+1,0,none⟩) 1 1=_;rw [World.size_alloc]);omega;exact hbw.size;intro v1 w9 hown1 hg1))
           go_roundw
           case rel=>exact ⟨z,acc++[⟨1,(s.data.toList.drop k).take m,0,k⟩],by omega,rfl,hown1,grown_below hbw HO1.out hg1 (Nat.le_refl _) hbw.size,HSO,by rw [List.length_append];simp only [List.length_singleton];omega⟩
           case measure=>simp [intOf];omega
          ·have HRW2:=Lib.hid (run_yes hbj hf HRW.out)
           by_cases g1:letB b=true
           ·have HL2:=Lib.hid (fun W=>by have:=refLetter_any b W;rw [g1] at this;exact this)
            clear hbj hf HRW g1
            go_wp2_with (go_at_call 63;refine (HL2.out _).mono ?_;rintro e w' ⟨rfl,rfl⟩)
            go_round
            case rel=>exact ⟨j+1,by omega,by omega,by go_num,HRW2⟩
            case measure=>simp [intOf];omega
           have g1':letB b=false:=by simpa using g1
           have HL2:=Lib.hid (fun W=>by have:=refLetter_any b W;rw [g1'] at this;exact this)
           by_cases g2:digB b=true
           ·have HD2:=Lib.hid (fun W=>by have:=refDigit_any b W;rw [g2] at this;exact this)
            clear hbj hf HRW g1 g1' g2
            go_wp2_with (first|(go_at_call 63;refine (HL2.out _).mono ?_;rintro e w' ⟨rfl,rfl⟩)|(go_at_call 64;refine (HD2.out _).mono ?_;rintro e w' ⟨rfl,rfl⟩))
            go_round
            case rel=>exact ⟨j+1,by omega,by omega,by go_num,HRW2⟩
            case measure=>simp [intOf];omega
           have g2':digB b=false:=by simpa using g2
           have HD2:=Lib.hid (fun W=>by have:=refDigit_any b W;rw [g2'] at this;exact this)
           have g3:b=95:=by
            unfold wordB at hf
            rw [g1',g2'] at hf
            simpa using hf
           subst g3
           clear hbj hf HRW g1 g1' g2 g2'
           go_wp2_with (first|(go_at_call 63;refine (HL2.out _).mono ?_;rintro e w' ⟨rfl,rfl⟩)|(go_at_call 64;refine (HD2.out _).mono ?_;rintro e w' ⟨rfl,rfl⟩))
           go_round
           case rel=>exact ⟨j+1,by omega,by omega,by go_num,HRW2⟩
           case measure=>simp [intOf];omega
         ·have ez:=run_end (by rw [HLS.out];omega) HRW.out
          subst ez
          clear HRW
          go_wp2_with (at_builtin;refine app_tok rfl (.tmp 166) (.tmp 168) 77 81 rfl Tryz.underlying77 hi hz0 hz1 hz2 w.heap.size u5 acc ⟨1,(s.data.toList.drop k).take m,0,k⟩ _ _ _ _ HTC.out ?_ ?_ ?_ ?_ ?_ ?_;rfl;exact HO1.out;(show Value.slice (some ⟨wr.heap.size+1,0,none⟩) 1 1=_;rw [World.size_alloc]);omega;exact hbw.size;intro v1 w9 hown1 hg1)
          go_roundw
          case rel=>exact ⟨z,acc++[⟨1,(s.data.toList.drop k).take m,0,k⟩],by omega,rfl,hown1,grown_below hbw HO1.out hg1 (Nat.le_refl _) hbw.size,HSO,by rw [List.length_append];simp only [List.length_singleton];omega⟩
          case measure=>simp [intOf];omega
    have hl':letB c=false:=by simpa using hl
    by_cases hd:digB c=true
    ·as_aux_lemma =>
      have HL:=Lib.hid (fun W=>by have:=refLetter_any c W;rw [hl'] at this;exact this)
      have HD:=Lib.hid (fun W=>by have:=refDigit_any c W;rw [hd] at this;exact this)
      have hrb:=run_bd digB s.data.toList k (by rw [HLS.out];omega)
      rw [HLS.out] at hrb
      have hpos:=run_one (f:=digB) hc hd
      have ht:=tok1_at hc
      rw [if_neg hl,if_pos hd] at ht
      obtain ⟨m,hm⟩:∃ m,runN digB (s.data.toList.drop k)=m:=⟨_,rfl⟩
      rw [hm] at hrb hpos ht
      obtain ⟨z,hz⟩:∃ z,k+m=z:=⟨_,rfl⟩
      have HRW:Hid (z=k+runN digB (s.data.toList.drop k)):=by show z=_;omega
      have hkz:k < z:=by omega
      have V:=Box.new wr [.int .i64 0,.string ⟨#[]⟩,.int .i64 (((0:Nat):Int):Int),.int .i64 (k:Int)] 81
      have bw0:=hbel.alloc hbel.size (.cells #[.int .i64 0,.string ⟨#[]⟩,.int .i64 (((0:Nat):Int):Int),.int .i64 (k:Int)] 81)
      have ho0:=HOWN.out.alloc (.cells #[.int .i64 0,.string ⟨#[]⟩,.int .i64 (((0:Nat):Int):Int),.int .i64 (k:Int)] 81)
      rw [show ((0:Nat):Int)=0 from rfl] at V bw0 ho0
      have HT:=Lib.hid ht
      have HCC:=Lib.hid hc
      have HZ:Hid (k+m=z):=hz
      have hzsz:z≤s.size:=by omega
      have t48:∃ f48:Bool,decide (c=48)=f48:=⟨_,rfl⟩
      obtain ⟨f48,h48⟩:=t48
      have h48':((c.toNat:Int) == 48)=f48:=by
       rw [← h48,Bool.eq_iff_iff]
       simp only [beq_iff_eq,decide_eq_true_eq]
       constructor
       ·intro e;exact byte_eq (by rw [e];rfl)
       ·intro e;subst e;rfl
      have H48:=Lib.hid h48
      clear ht hc hd hl hl' hm hz h48
      go_wp2_with (first|(go_at_call 63;refine (HL.out _).mono ?_;rintro e w' ⟨rfl,rfl⟩)|(go_at_call 64;refine (HD.out _).mono ?_;rintro e w' ⟨rfl,rfl⟩))
      have hwB:w.heap.size≤wr.heap.size:=hbel.size
      have HLT:Hid (∀ k,u5.ownBlock=some k→k < wr.heap.size):=fun k hk=>(HOWN.out.lt k hk).2
      generalize wr.alloc (.cells #[.int .i64 0,.string ⟨#[]⟩,.int .i64 0,.int .i64 (k:Int)] 81)=W0 at *
      generalize wr.heap.size=B at *
      clear HOWN hbel
      go_loopw [9,10] (fun i v ww=>∃ (j q:Nat) (ov:Bool),k≤j∧j≤z∧i=.int .i64 j∧v=.bool ov∧q≤9223372036854775807∧Box ww B [.int .i64 0,.string ⟨#[]⟩,.int .i64 (q:Int),.int .i64 (k:Int)]∧Below w.heap.size w ww∧ww.ownsRow w.heap.size 81 4 u5 acc.length (cellsT acc)∧Hid (OverOk ov q (decV 0 ((s.data.toList.drop k).take (j - k))))∧Hid (z=j+runN digB (s.data.toList.drop j))) (fun i _ _=>z - (intOf i).toNat)
      case atStart=>exact ⟨k,0,false,by omega,by omega,rfl,rfl,by omega,V,bw0,ho0,by rw [Nat.sub_self];rfl,HRW⟩
      case round =>
       clear V bw0 ho0 HRW
       obtain ⟨j,q,ov,hkj,hjz,rfl,rfl,hq,V,bw,ho,HOV,HRW⟩:=hrel
       have HOW:=Lib.hid ho
       clear ho
       obtain ⟨v0,v1,v2,v3,g0,g1,g2,g3⟩:=four V
       by_cases hjl:j < z
       ·as_aux_lemma =>
         obtain ⟨b,hbj⟩:=bat s j (by omega)
         have hatj:=str_at (by omega) hbj
         have hb8:=byte_lt b
         cases hf:digB b
         ·have ez:=run_no hbj hf HRW.out
          omega
         ·have HRW2:=Lib.hid (run_yes hbj hf HRW.out)
          have HD2:=Lib.hid (fun W=>by have:=refDigit_any b W;rw [hf] at this;exact this)
          have hdig:48≤b.toNat∧b.toNat≤57:=by unfold digB at hf;exact of_decide_eq_true hf
          have hjd:(s.data.toList.drop k)[j - k]?=some b:=by rw [List.getElem?_drop,show k+(j - k)=j by omega];exact hbj
          have hdt:=dec_take hjd
          rw [show j - k+1=j+1 - k by omega] at hdt
          obtain ⟨d,hdd⟩:∃ d:Nat,b.toNat - 48=d:=⟨_,rfl⟩
          rw [hdd] at hdt
          have hd9:d≤9:=by omega
          obtain ⟨o1,o2,o3⟩:=over_step HOV.out hq hd9
          rw [← hdt] at o1 o2 o3
          obtain ⟨bn,hbn⟩:∃ bn:Nat,b.toNat=bn:=⟨_,rfl⟩
          have hbd:(b.toNat:Int)=(d:Int)+48:=by omega
          have O1:=Lib.hid o1
          have O2:=Lib.hid o2
          have O3:=Lib.hid o3
          have HDD:=Lib.hid hbd
          have hb1:48≤(b.toNat:Int):=by omega
          have hb2:(b.toNat:Int)≤57:=by omega
          clear hbj hf HRW hdig hjd hdt hdd o1 o2 o3 HOV hbn hbd
          cases ov
          ·by_cases g:922337203685477580 < q
           ·have gi:(922337203685477580:Int) < (q:Int):=by omega
            have O21:=Lib.hid (O2.out rfl (.inl g))
            go_wp2_with (go_at_call 64;refine (HD2.out _).mono ?_;rintro e w' ⟨rfl,rfl⟩)
            go_roundw
            case rel=>exact ⟨j+1,q,true,by omega,by omega,by go_num,rfl,hq,V,bw,HOW.out,O21.out,HRW2⟩
            case measure=>simp [intOf];omega
           by_cases g2:q=922337203685477580∧7 < d
           ·have O22:=Lib.hid (O2.out rfl (.inr g2))
            obtain ⟨rfl,g3⟩:=g2
            have gi:7 < (b.toNat:Int) - 48:=by have:=HDD.out;omega
            go_wp2_with (go_at_call 64;refine (HD2.out _).mono ?_;rintro e w' ⟨rfl,rfl⟩)
            go_roundw
            case rel=>exact ⟨j+1,_,true,by omega,by omega,by go_num,rfl,hq,V,bw,HOW.out,O22.out,HRW2⟩
            case measure=>simp [intOf];omega
           ·obtain ⟨o4,o5⟩:=O3.out rfl (fun h=>h.elim g g2)
            have O4:=Lib.hid o4
            clear o4
            have HEQ:Hid ((q:Int) * 10+((b.toNat:Int) - 48)=((q * 10+d:Nat):Int)):=by
             show (q:Int) * 10+((b.toNat:Int) - 48)=((q * 10+d:Nat):Int)
             have:=HDD.out
             omega
            have V':Box (wr.setCell ⟨B,2,none⟩ (.int .i64 ((q:Int) * 10+((b.toNat:Int) - 48)))) B [.int .i64 0,.string ⟨#[]⟩,.int .i64 ((q:Int) * 10+((b.toNat:Int) - 48)),.int .i64 (k:Int)]:=V.put 2 _
            have bw':=bw.setCell (p:=⟨B,2,none⟩) (show w.heap.size≤B from hwB) (.int .i64 ((q:Int) * 10+((b.toNat:Int) - 48)))
            have o6:(q:Int) * 10+((b.toNat:Int) - 48)≤9223372036854775807:=by rw [HEQ.out];omega
            by_cases g3:q=922337203685477580
            ·have g4:¬ 7 < (b.toNat:Int) - 48:=by have:=HDD.out;intro h;exact g2 ⟨g3,by omega⟩
             subst g3
             go_wp2_with (go_at_call 64;refine (HD2.out _).mono ?_;rintro e w' ⟨rfl,rfl⟩)
             go_roundw
             case rel=>exact ⟨j+1,922337203685477580 * 10+d,false,by omega,by omega,by go_num,rfl,o5,by rw [← HEQ.out];exact V',bw',own_setB HOW.out HLT.out 2 _,O4.out,HRW2⟩
             case measure=>simp [intOf];omega
            ·have g4:((q:Int) == 922337203685477580)=false:=by rw [beq_eq_false_iff_ne];omega
             clear g3
             go_wp2_with (go_at_call 64;refine (HD2.out _).mono ?_;rintro e w' ⟨rfl,rfl⟩)
             go_roundw
             case rel=>exact ⟨j+1,q * 10+d,false,by omega,by omega,by go_num,rfl,o5,by rw [← HEQ.out];exact V',bw',own_setB HOW.out HLT.out 2 _,O4.out,HRW2⟩
             case measure=>simp [intOf];omega
          ·have O11:=Lib.hid (O1.out rfl)
           by_cases g:922337203685477580 < q
           ·have gi:(922337203685477580:Int) < (q:Int):=by omega
            go_wp2_with (go_at_call 64;refine (HD2.out _).mono ?_;rintro e w' ⟨rfl,rfl⟩)
            go_roundw
            case rel=>exact ⟨j+1,q,true,by omega,by omega,by go_num,rfl,hq,V,bw,HOW.out,O11.out,HRW2⟩
            case measure=>simp [intOf];omega
           by_cases g2:q=922337203685477580
           ·by_cases g3:7 < (b.toNat:Int) - 48
            ·subst g2
             go_wp2_with (go_at_call 64;refine (HD2.out _).mono ?_;rintro e w' ⟨rfl,rfl⟩)
             go_roundw
             case rel=>exact ⟨j+1,_,true,by omega,by omega,by go_num,rfl,hq,V,bw,HOW.out,O11.out,HRW2⟩
             case measure=>simp [intOf];omega
            ·subst g2
             go_wp2_with (go_at_call 64;refine (HD2.out _).mono ?_;rintro e w' ⟨rfl,rfl⟩)
             go_roundw
             case rel=>exact ⟨j+1,_,true,by omega,by omega,by go_num,rfl,hq,V,bw,HOW.out,O11.out,HRW2⟩
             case measure=>simp [intOf];omega
           ·have g4:((q:Int) == 922337203685477580)=false:=by rw [beq_eq_false_iff_ne];omega
            clear g2
            go_wp2_with (go_at_call 64;refine (HD2.out _).mono ?_;rintro e w' ⟨rfl,rfl⟩)
            go_roundw
            case rel=>exact ⟨j+1,q,true,by omega,by omega,by go_num,rfl,hq,V,bw,HOW.out,O11.out,HRW2⟩
            case measure=>simp [intOf];omega
       ·obtain rfl:z=j:=by omega
        by_cases hzl:z < s.size
        ·skip
         cases f48
         ·cases ov
          ·as_aux_lemma =>
            obtain ⟨b,hbj⟩:=bat s z hzl
            have hatj:=str_at hzl hbj
            have hfb:digB b=false:=by
             cases hf:digB b
             ·rfl
             ·have:=run_yes hbj hf HRW.out
              omega
            have HD2:=Lib.hid (fun W=>by have:=refDigit_any b W;rw [hfb] at this;exact this)
            clear hbj hfb
            have hov:=HOV.out
            unfold OverOk at hov
            rw [if_neg (by decide),show z - k=m by have:=HZ.out;omega] at hov
            have HSO:=Lib.hid (step_tok HCC.out HTB.out (by rw [HT.out,if_neg (fun h=>absurd h.1 (of_decide_eq_false H48.out)),if_pos (by omega),hov]) HST.out)
            rw [HZ.out] at HSO
            have V':Box (wr.setCell ⟨B,0,none⟩ (.int .i64 2)) B [.int .i64 2,.string ⟨#[]⟩,.int .i64 (q:Int),.int .i64 (k:Int)]:=V.put 0 (.int .i64 2)
            have bw':=bw.setCell (p:=⟨B,0,none⟩) (show w.heap.size≤B from hwB) (.int .i64 2)
            have HO1:=Lib.hid (own_setB HOW.out HLT.out 0 (.int .i64 2))
            have HTC:Hid ([Value.int .i64 2,.string ⟨#[]⟩,.int .i64 (q:Int),.int .i64 (k:Int)]=tokCells ⟨2,[],(q:Int),k⟩):=rfl
            clear HRW hov
            go_wp2_with (first|(go_at_call 64;refine (HD2.out _).mono ?_;rintro e w' ⟨rfl,rfl⟩)|(at_builtin;refine app_tok rfl (.tmp 166) (.tmp 168) 77 81 rfl Tryz.underlying77 hi hz0 hz1 hz2 w.heap.size u5 acc ⟨2,[],(q:Int),k⟩ _ _ _ _ HTC.out ?_ ?_ ?_ ?_ ?_ ?_;rfl;exact HO1.out;(show Value.slice (some ⟨wr.heap.size,0,none⟩) 1 1=_;rw [World.size_setCell]);omega;exact bw'.size;intro v1 w9 hown1 hg1))
            go_roundw
            case rel=>exact ⟨z,acc++[⟨2,[],(q:Int),k⟩],by omega,rfl,hown1,grown_below bw' HO1.out hg1 (Nat.le_refl _) bw'.size,HSO,by rw [List.length_append];simp only [List.length_singleton];omega⟩
            case measure=>simp [intOf];omega
          ·as_aux_lemma =>
            obtain ⟨b,hbj⟩:=bat s z hzl
            have hatj:=str_at hzl hbj
            have hfb:digB b=false:=by
             cases hf:digB b
             ·rfl
             ·have:=run_yes hbj hf HRW.out
              omega
            have HD2:=Lib.hid (fun W=>by have:=refDigit_any b W;rw [hfb] at this;exact this)
            clear hbj hfb
            have hov:=HOV.out
            unfold OverOk at hov
            rw [if_pos rfl,show z - k=m by have:=HZ.out;omega] at hov
            have HSE:=Lib.hid (step_err HCC.out HTB.out (by rw [HT.out,if_neg (fun h=>absurd h.1 (of_decide_eq_false H48.out)),if_neg (by omega)]) HST.out).1
            clear HRW hov
            go_wp2_with (go_at_call 64;refine (HD2.out _).mono ?_;rintro e w' ⟨rfl,rfl⟩)
            try simp only [Exit.inBlock,Exit.then]
            refine bodyPost_ret (v:=.tuple #[.slice none 0 0,.int .i64 (k:Int),.int .i64 10]) (by simp [results,Tryz.results33,go_sem]) rfl ?_
            rw [HX.out]
            exact lexTo_err HSE.out bw
         ·by_cases hk1z:k+1 < z
          ·as_aux_lemma =>
            obtain ⟨b,hbj⟩:=bat s z hzl
            have hatj:=str_at hzl hbj
            have hfb:digB b=false:=by
             cases hf:digB b
             ·rfl
             ·have:=run_yes hbj hf HRW.out
              omega
            have HD2:=Lib.hid (fun W=>by have:=refDigit_any b W;rw [hfb] at this;exact this)
            clear hbj hfb
            have HSE:=Lib.hid (step_err HCC.out HTB.out (by have:=HZ.out;rw [HT.out,if_pos ⟨of_decide_eq_true H48.out,by omega⟩]) HST.out).1
            clear HRW
            go_wp2_with (go_at_call 64;refine (HD2.out _).mono ?_;rintro e w' ⟨rfl,rfl⟩)
            try simp only [Exit.inBlock,Exit.then]
            refine bodyPost_ret (v:=.tuple #[.slice none 0 0,.int .i64 (k:Int),.int .i64 50]) (by simp [results,Tryz.results33,go_sem]) rfl ?_
            rw [HX.out]
            exact lexTo_err HSE.out bw
          ·cases ov
           ·as_aux_lemma =>
             obtain ⟨b,hbj⟩:=bat s z hzl
             have hatj:=str_at hzl hbj
             have hfb:digB b=false:=by
              cases hf:digB b
              ·rfl
              ·have:=run_yes hbj hf HRW.out
               omega
             have HD2:=Lib.hid (fun W=>by have:=refDigit_any b W;rw [hfb] at this;exact this)
             clear hbj hfb
             have hov:=HOV.out
             unfold OverOk at hov
             rw [if_neg (by decide),show z - k=m by have:=HZ.out;omega] at hov
             have HSO:=Lib.hid (step_tok HCC.out HTB.out (by rw [HT.out,if_neg (fun h=>by have:=HZ.out;omega),if_pos (by omega),hov]) HST.out)
             rw [HZ.out] at HSO
             have V':Box (wr.setCell ⟨B,0,none⟩ (.int .i64 2)) B [.int .i64 2,.string ⟨#[]⟩,.int .i64 (q:Int),.int .i64 (k:Int)]:=V.put 0 (.int .i64 2)
             have bw':=bw.setCell (p:=⟨B,0,none⟩) (show w.heap.size≤B from hwB) (.int .i64 2)
             have HO1:=Lib.hid (own_setB HOW.out HLT.out 0 (.int .i64 2))
             have HTC:Hid ([Value.int .i64 2,.string ⟨#[]⟩,.int .i64 (q:Int),.int .i64 (k:Int)]=tokCells ⟨2,[],(q:Int),k⟩):=rfl
             clear HRW hov
             go_wp2_with (first|(go_at_call 64;refine (HD2.out _).mono ?_;rintro e w' ⟨rfl,rfl⟩)|(at_builtin;refine app_tok rfl (.tmp 166) (.tmp 168) 77 81 rfl Tryz.underlying77 hi hz0 hz1 hz2 w.heap.size u5 acc ⟨2,[],(q:Int),k⟩ _ _ _ _ HTC.out ?_ ?_ ?_ ?_ ?_ ?_;rfl;exact HO1.out;(show Value.slice (some ⟨wr.heap.size,0,none⟩) 1 1=_;rw [World.size_setCell]);omega;exact bw'.size;intro v1 w9 hown1 hg1))
             go_roundw
             case rel=>exact ⟨z,acc++[⟨2,[],(q:Int),k⟩],by omega,rfl,hown1,grown_below bw' HO1.out hg1 (Nat.le_refl _) bw'.size,HSO,by rw [List.length_append];simp only [List.length_singleton];omega⟩
             case measure=>simp [intOf];omega
           ·as_aux_lemma =>
             obtain ⟨b,hbj⟩:=bat s z hzl
             have hatj:=str_at hzl hbj
             have hfb:digB b=false:=by
              cases hf:digB b
              ·rfl
              ·have:=run_yes hbj hf HRW.out
               omega
             have HD2:=Lib.hid (fun W=>by have:=refDigit_any b W;rw [hfb] at this;exact this)
             clear hbj hfb
             have hov:=HOV.out
             unfold OverOk at hov
             rw [if_pos rfl,show z - k=m by have:=HZ.out;omega] at hov
             have HSE:=Lib.hid (step_err HCC.out HTB.out (by rw [HT.out,if_neg (fun h=>by have:=HZ.out;omega),if_neg (by omega)]) HST.out).1
             clear HRW hov
             go_wp2_with (go_at_call 64;refine (HD2.out _).mono ?_;rintro e w' ⟨rfl,rfl⟩)
             try simp only [Exit.inBlock,Exit.then]
             refine bodyPost_ret (v:=.tuple #[.slice none 0 0,.int .i64 (k:Int),.int .i64 10]) (by simp [results,Tryz.results33,go_sem]) rfl ?_
             rw [HX.out]
             exact lexTo_err HSE.out bw
        ·skip
         cases f48
         ·cases ov
          ·as_aux_lemma =>
            have hov:=HOV.out
            unfold OverOk at hov
            rw [if_neg (by decide),show z - k=m by have:=HZ.out;omega] at hov
            have HSO:=Lib.hid (step_tok HCC.out HTB.out (by rw [HT.out,if_neg (fun h=>absurd h.1 (of_decide_eq_false H48.out)),if_pos (by omega),hov]) HST.out)
            rw [HZ.out] at HSO
            have V':Box (wr.setCell ⟨B,0,none⟩ (.int .i64 2)) B [.int .i64 2,.string ⟨#[]⟩,.int .i64 (q:Int),.int .i64 (k:Int)]:=V.put 0 (.int .i64 2)
            have bw':=bw.setCell (p:=⟨B,0,none⟩) (show w.heap.size≤B from hwB) (.int .i64 2)
            have HO1:=Lib.hid (own_setB HOW.out HLT.out 0 (.int .i64 2))
            have HTC:Hid ([Value.int .i64 2,.string ⟨#[]⟩,.int .i64 (q:Int),.int .i64 (k:Int)]=tokCells ⟨2,[],(q:Int),k⟩):=rfl
            clear HRW hov
            go_wp2_with (at_builtin;refine app_tok rfl (.tmp 166) (.tmp 168) 77 81 rfl Tryz.underlying77 hi hz0 hz1 hz2 w.heap.size u5 acc ⟨2,[],(q:Int),k⟩ _ _ _ _ HTC.out ?_ ?_ ?_ ?_ ?_ ?_;rfl;exact HO1.out;(show Value.slice (some ⟨wr.heap.size,0,none⟩) 1 1=_;rw [World.size_setCell]);omega;exact bw'.size;intro v1 w9 hown1 hg1)
            go_roundw
            case rel=>exact ⟨z,acc++[⟨2,[],(q:Int),k⟩],by omega,rfl,hown1,grown_below bw' HO1.out hg1 (Nat.le_refl _) bw'.size,HSO,by rw [List.length_append];simp only [List.length_singleton];omega⟩
            case measure=>simp [intOf];omega
          ·as_aux_lemma =>
            have hov:=HOV.out
            unfold OverOk at hov
            rw [if_pos rfl,show z - k=m by have:=HZ.out;omega] at hov
            have HSE:=Lib.hid (step_err HCC.out HTB.out (by rw [HT.out,if_neg (fun h=>absurd h.1 (of_decide_eq_false H48.out)),if_neg (by omega)]) HST.out).1
            clear HRW hov
            go_wp2_with fail
            try simp only [Exit.inBlock,Exit.then]
            refine bodyPost_ret (v:=.tuple #[.slice none 0 0,.int .i64 (k:Int),.int .i64 10]) (by simp [results,Tryz.results33,go_sem]) rfl ?_
            rw [HX.out]
            exact lexTo_err HSE.out bw
         ·by_cases hk1z:k+1 < z
          ·as_aux_lemma =>
            have HSE:=Lib.hid (step_err HCC.out HTB.out (by have:=HZ.out;rw [HT.out,if_pos ⟨of_decide_eq_true H48.out,by omega⟩]) HST.out).1
            clear HRW
            go_wp2_with fail
            try simp only [Exit.inBlock,Exit.then]
            refine bodyPost_ret (v:=.tuple #[.slice none 0 0,.int .i64 (k:Int),.int .i64 50]) (by simp [results,Tryz.results33,go_sem]) rfl ?_
            rw [HX.out]
            exact lexTo_err HSE.out bw
          ·cases ov
           ·as_aux_lemma =>
             have hov:=HOV.out
             unfold OverOk at hov
             rw [if_neg (by decide),show z - k=m by have:=HZ.out;omega] at hov
             have HSO:=Lib.hid (step_tok HCC.out HTB.out (by rw [HT.out,if_neg (fun h=>by have:=HZ.out;omega),if_pos (by omega),hov]) HST.out)
             rw [HZ.out] at HSO
             have V':Box (wr.setCell ⟨B,0,none⟩ (.int .i64 2)) B [.int .i64 2,.string ⟨#[]⟩,.int .i64 (q:Int),.int .i64 (k:Int)]:=V.put 0 (.int .i64 2)
             have bw':=bw.setCell (p:=⟨B,0,none⟩) (show w.heap.size≤B from hwB) (.int .i64 2)
             have HO1:=Lib.hid (own_setB HOW.out HLT.out 0 (.int .i64 2))
             have HTC:Hid ([Value.int .i64 2,.string ⟨#[]⟩,.int .i64 (q:Int),.int .i64 (k:Int)]=tokCells ⟨2,[],(q:Int),k⟩):=rfl
             clear HRW hov
             go_wp2_with (at_builtin;refine app_tok rfl (.tmp 166) (.tmp 168) 77 81 rfl Tryz.underlying77 hi hz0 hz1 hz2 w.heap.size u5 acc ⟨2,[],(q:Int),k⟩ _ _ _ _ HTC.out ?_ ?_ ?_ ?_ ?_ ?_;rfl;exact HO1.out;(show Value.slice (some ⟨wr.heap.size,0,none⟩) 1 1=_;rw [World.size_setCell]);omega;exact bw'.size;intro v1 w9 hown1 hg1)
             go_roundw
             case rel=>exact ⟨z,acc++[⟨2,[],(q:Int),k⟩],by omega,rfl,hown1,grown_below bw' HO1.out hg1 (Nat.le_refl _) bw'.size,HSO,by rw [List.length_append];simp only [List.length_singleton];omega⟩
             case measure=>simp [intOf];omega
           ·as_aux_lemma =>
             have hov:=HOV.out
             unfold OverOk at hov
             rw [if_pos rfl,show z - k=m by have:=HZ.out;omega] at hov
             have HSE:=Lib.hid (step_err HCC.out HTB.out (by rw [HT.out,if_neg (fun h=>by have:=HZ.out;omega),if_neg (by omega)]) HST.out).1
             clear HRW hov
             go_wp2_with fail
             try simp only [Exit.inBlock,Exit.then]
             refine bodyPost_ret (v:=.tuple #[.slice none 0 0,.int .i64 (k:Int),.int .i64 10]) (by simp [results,Tryz.results33,go_sem]) rfl ?_
             rw [HX.out]
             exact lexTo_err HSE.out bw
    by_cases h34:c=34
    ·as_aux_lemma =>
      have HL:=Lib.hid (fun W=>by have:=refLetter_any c W;rw [hl'] at this;exact this)
      have hd':digB c=false:=by simpa using hd
      have HD:=Lib.hid (fun W=>by have:=refDigit_any c W;rw [hd'] at this;exact this)
      have ht:=tok1_at hc
      rw [if_neg hl,if_neg hd] at ht
      subst h34
      rw [if_pos rfl] at ht
      have hq:=fun W=>refQuoted_any s k W hlt hs
      have B0:=hbel.alloc hbel.size (.cells #[.int .i64 3,.string ⟨#[]⟩,.int .i64 0,.int .i64 (k:Int)] 81)
      have HCC:=Lib.hid hc
      cases hr:rdQ (s.data.toList.drop (k+1)) with
      | none =>
       rw [hr] at hq
       have HQ:=Lib.hid hq
       have HSE:=Lib.hid (step_err HCC.out HTB.out (by rw [ht];unfold qTok;rw [hr]) HST.out).1
       unfold refQ at HQ
       dsimp only at HQ
       clear ht hc hd hd' hl hl' hq hr
       go_wp2_with (first|(go_at_call 63;refine (HL.out _).mono ?_;rintro e w' ⟨rfl,rfl⟩)|(go_at_call 64;refine (HD.out _).mono ?_;rintro e w' ⟨rfl,rfl⟩)|(go_at_call 65;refine (HQ.out _).mono ?_;rintro e w' ⟨rfl,rfl⟩))
       try simp only [Exit.inBlock,Exit.then]
       refine bodyPost_ret (v:=.tuple #[.slice none 0 0,.int .i64 (k:Int),.int .i64 50]) (by simp [results,Tryz.results33,go_sem]) rfl ?_
       rw [HX.out]
       exact lexTo_err HSE.out B0
      | some x =>
       obtain ⟨t,n⟩:=x
       have hn:=(rdQ_scan _ _ t n (Nat.le_refl _) hr).2.1
       rw [List.length_drop,HLS.out] at hn
       rw [hr] at hq
       unfold refQ at hq
       simp only [List.nil_append] at hq
       by_cases h64:t.length≤64
       ·rw [if_pos h64] at hq
        obtain ⟨z,hz⟩:∃ z,k+1+n=z:=⟨_,rfl⟩
        have ht2:tok1 (s.data.toList.drop k)=.ok 3 t 0 (n+1):=by rw [ht];unfold qTok;rw [hr];simp only;rw [if_pos h64]
        have HSO:=Lib.hid (step_tok HCC.out HTB.out ht2 HST.out)
        rw [show k+(n+1)=z by omega] at HSO
        rw [hz] at hq
        obtain ⟨X,hX⟩:∃ X:ByteArray,(⟨t.toArray⟩:ByteArray)=X:=⟨_,rfl⟩
        rw [hX] at hq
        have HQ:=Lib.hid hq
        have HTC:Hid ([Value.int .i64 3,.string X,.int .i64 0,.int .i64 (k:Int)]=tokCells ⟨3,t,0,k⟩):=by
         show [Value.int .i64 3,.string X,.int .i64 0,.int .i64 (k:Int)]=_
         rw [← hX];rfl
        have hkz:k < z:=by omega
        have hzs:z≤s.size:=by omega
        have HO1:=Lib.hid (HOWN.out.alloc (.cells #[.int .i64 3,.string X,.int .i64 0,.int .i64 (k:Int)] 81))
        have hbw:=hbel.alloc hbel.size (.cells #[.int .i64 3,.string X,.int .i64 0,.int .i64 (k:Int)] 81)
        clear ht ht2 hc hd hd' hl hl' hq hr hz hX h64 hn B0
        go_wp2_with (first|(go_at_call 63;refine (HL.out _).mono ?_;rintro e w' ⟨rfl,rfl⟩)|(go_at_call 64;refine (HD.out _).mono ?_;rintro e w' ⟨rfl,rfl⟩)|(go_at_call 65;refine (HQ.out _).mono ?_;rintro e w' ⟨rfl,rfl⟩)|(at_builtin;refine app_tok rfl (.tmp 166) (.tmp 168) 77 81 rfl Tryz.underlying77 hi hz0 hz1 hz2 w.heap.size u5 acc ⟨3,t,0,k⟩ _ _ _ _ HTC.out ?_ ?_ ?_ ?_ ?_ ?_;rfl;exact HO1.out;(show Value.slice (some ⟨wr.heap.size+1,0,none⟩) 1 1=_;rw [World.size_alloc]);omega;exact hbw.size;intro v1 w9 hown1 hg1))
        go_roundw
        case rel=>exact ⟨z,acc++[⟨3,t,0,k⟩],by omega,rfl,hown1,grown_below hbw HO1.out hg1 (Nat.le_refl _) hbw.size,HSO,by rw [List.length_append];simp only [List.length_singleton];omega⟩
        case measure=>simp [intOf];omega
       ·rw [if_neg h64] at hq
        have HQ:=Lib.hid hq
        have HSE:=Lib.hid (step_err HCC.out HTB.out (by rw [ht];unfold qTok;rw [hr];simp only;rw [if_neg h64]) HST.out).1
        clear ht hc hd hd' hl hl' hq hr h64 hn
        go_wp2_with (first|(go_at_call 63;refine (HL.out _).mono ?_;rintro e w' ⟨rfl,rfl⟩)|(go_at_call 64;refine (HD.out _).mono ?_;rintro e w' ⟨rfl,rfl⟩)|(go_at_call 65;refine (HQ.out _).mono ?_;rintro e w' ⟨rfl,rfl⟩))
        try simp only [Exit.inBlock,Exit.then]
        refine bodyPost_ret (v:=.tuple #[.slice none 0 0,.int .i64 (k:Int),.int .i64 50]) (by simp [results,Tryz.results33,go_sem]) rfl ?_
        rw [HX.out]
        exact lexTo_err HSE.out B0
    ·as_aux_lemma =>
      have HL:=Lib.hid (fun W=>by have:=refLetter_any c W;rw [hl'] at this;exact this)
      have hd':digB c=false:=by simpa using hd
      have HD:=Lib.hid (fun W=>by have:=refDigit_any c W;rw [hd'] at this;exact this)
      have ht:=tok1_at hc
      rw [if_neg hl,if_neg hd] at ht
      rw [if_neg h34] at ht
      have t34:((c.toNat:Int) == 34)=false:=bne_byte (n:=34) (by decide) h34
      have hs0:=fun W=>refSign_is s k W hlt hs
      have hsl:=signN_len (s.data.toList.drop k)
      rw [List.length_drop,HLS.out] at hsl
      have hs2:=(signN_le (s.data.toList.drop k)).2
      obtain ⟨m,hm⟩:∃ m,signN (s.data.toList.drop k)=m:=⟨_,rfl⟩
      have hml:((s.data.toList.drop k).take m).length=m:=by rw [List.length_take,List.length_drop,HLS.out];omega
      rw [hm] at ht hs0 hsl hs2
      have HCC:=Lib.hid hc
      by_cases h0:m=0
      ·rw [if_pos h0] at ht
       subst h0
       rw [List.take_zero] at hs0
       have HS:=Lib.hid hs0
       have HSE:=Lib.hid (step_err HCC.out HTB.out ht HST.out).1
       clear ht hc hd hd' hl hl' h34 hs0 hm hml
       go_wp2_with (first|(go_at_call 63;refine (HL.out _).mono ?_;rintro e w' ⟨rfl,rfl⟩)|(go_at_call 64;refine (HD.out _).mono ?_;rintro e w' ⟨rfl,rfl⟩)|(go_at_call 66;refine (HS.out _).mono ?_;rintro e w1 ⟨rfl,hb⟩;have V:=(Box.new wr [.int .i64 4,.string ⟨#[]⟩,.int .i64 0,.int .i64 (k:Int)] 81).next hb;have bw:=two hbel ((by go_grown:Below wr.heap.size wr (wr.alloc (.cells #[.int .i64 4,.string ⟨#[]⟩,.int .i64 0,.int .i64 (k:Int)] 81))).trans (hb.mono (by simp)));have HO0:=Lib.hid (own_below (HOWN.out.alloc (.cells #[.int .i64 4,.string ⟨#[]⟩,.int .i64 0,.int .i64 (k:Int)] 81)) hb (Nat.le_refl _));clear hb;obtain ⟨v0,v1,v2,v3,g0,g1,g2,g3⟩:=four V;have bw':=bw.setCell (p:=⟨wr.heap.size,1,none⟩) (show w.heap.size≤wr.heap.size from hbel.size) (.string ⟨#[]⟩)))
       try simp only [Exit.inBlock,Exit.then]
       refine bodyPost_ret (v:=.tuple #[.slice none 0 0,.int .i64 (k:Int),.int .i64 50]) (by simp [results,Tryz.results33,go_sem]) rfl ?_
       rw [HX.out]
       exact lexTo_err HSE.out bw'
      ·rw [if_neg h0] at ht
       have HSO:=Lib.hid (step_tok HCC.out HTB.out ht HST.out)
       obtain ⟨X,hX⟩:∃ X:ByteArray,(⟨((s.data.toList.drop k).take m).toArray⟩:ByteArray)=X:=⟨_,rfl⟩
       have hXs:X.size=m:=by rw [← hX,str_size,hml]
       have hXs1:1≤X.size:=by omega
       have hXs2:X.size≤2:=by omega
       have HTC:Hid ([Value.int .i64 4,.string X,.int .i64 0,.int .i64 (k:Int)]=tokCells ⟨4,(s.data.toList.drop k).take m,0,k⟩):=by
        show [Value.int .i64 4,.string X,.int .i64 0,.int .i64 (k:Int)]=_
        rw [← hX];rfl
       rw [hX] at hs0
       have HS:=Lib.hid hs0
       have hXe:X.toList.isEmpty=false:=by
        rw [Lib.toList_data]
        cases hx:X.data.toList with
        | nil=>rw [size_list,hx] at hXs1;simp at hXs1
        | cons _ _=>rfl
       have hXe2:(X.toList == [])=false:=by
        rw [Lib.toList_data]
        cases hx:X.data.toList with
        | nil=>rw [size_list,hx] at hXs1;simp at hXs1
        | cons _ _=>rfl
       have HXS:=Lib.hid hXs
       clear ht hc hd hd' hl hl' h34 hs0 hm hml hX hXs
       obtain ⟨z,hz⟩:∃ z,k+m=z:=⟨_,rfl⟩
       rw [hz] at HSO
       have HZX:Hid (z=k+X.size):=by show z=k+X.size;have:=HXS.out;omega
       have hmz:z≤s.size:=by omega
       have hkz:k < z:=by omega
       clear hz
       go_wp2_with (first|(go_at_call 63;refine (HL.out _).mono ?_;rintro e w' ⟨rfl,rfl⟩)|(go_at_call 64;refine (HD.out _).mono ?_;rintro e w' ⟨rfl,rfl⟩)|(go_at_call 66;refine (HS.out _).mono ?_;rintro e w1 ⟨rfl,hb⟩;have V:=(Box.new wr [.int .i64 4,.string ⟨#[]⟩,.int .i64 0,.int .i64 (k:Int)] 81).next hb;have bw:=two hbel ((by go_grown:Below wr.heap.size wr (wr.alloc (.cells #[.int .i64 4,.string ⟨#[]⟩,.int .i64 0,.int .i64 (k:Int)] 81))).trans (hb.mono (by simp)));have HO0:=Lib.hid (own_below (HOWN.out.alloc (.cells #[.int .i64 4,.string ⟨#[]⟩,.int .i64 0,.int .i64 (k:Int)] 81)) hb (Nat.le_refl _));clear hb;obtain ⟨v0,v1,v2,v3,g0,g1,g2,g3⟩:=four V;have bw':=bw.setCell (p:=⟨wr.heap.size,1,none⟩) (show w.heap.size≤wr.heap.size from hbel.size) (.string X);have HO1:=Lib.hid (own_set HO0.out HOWN.out 1 (.string X)))|(at_builtin;refine app_tok rfl (.tmp 166) (.tmp 168) 77 81 rfl Tryz.underlying77 hi hz0 hz1 hz2 w.heap.size u5 acc ⟨4,(s.data.toList.drop k).take m,0,k⟩ _ _ _ _ HTC.out ?_ ?_ ?_ ?_ ?_ ?_;rfl;exact HO1.out;(show Value.slice (some ⟨w1.heap.size,0,none⟩) 1 1=_;rw [World.size_setCell]);omega;exact bw'.size;intro v1 w9 hown1 hg1))
       go_roundw
       case rel=>exact ⟨z,acc++[⟨4,(s.data.toList.drop k).take m,0,k⟩],by omega,by rw [HZX.out];go_num,hown1,grown_below bw' HO1.out hg1 (Nat.le_refl _) bw'.size,HSO,by rw [List.length_append];simp only [List.length_singleton];omega⟩
       case measure=>have:=HZX.out;simp [intOf];omega
  ·have HEND:=Lib.hid (step_end (by rw [HLS.out];omega) HST.out)
   clear HST
   go_wp2_with fail
   try simp only [Exit.inBlock,Exit.then]
   refine bodyPost_ret (by simp [results,Tryz.results33,go_sem];try rfl) rfl ?_
   rw [HX.out,HEND.out]
   exact ⟨_,rfl,HOWN.out,hbel⟩
end Go.Proofs.YtonkjhmkppeagaaGreatDoor.Lx
