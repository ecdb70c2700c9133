/- Pieces of walks: slices written out, owned; a step's plan in memory. -/
import Derived.Test.YtonkjhmkppeagaaGreatDoorWSqMath
import Derived.Test.YtonkjhmkppeagaaGreatDoorWCp
import Derived.Test.YtonkjhmkppeagaaGreatDoorWLp
set_option linter.unusedVariables false
set_option linter.unusedSimpArgs false
namespace Go.Proofs.YtonkjhmkppeagaaGreatDoor.Pz
open Go.Proofs.Tryz
open Go.RowKit Go Go.Sort Ba Lx
theorem St.o_part {P:Program} {o:Oper} {a:Act} {Q:Exit→Act→World→Prop} {S:Nat→Prop} {w0 w:World} {L:List Bx} {D:List (List Dat×List Value)} {O:List Ow} (H:St S w0 w L D O) {K:Act→World→Prop} {ty:TypeId} {x y:Operand} (ho:o.op=.store ty x y) {C off:Nat} (hx:a.eval x=.pointer (some ⟨C,off,none⟩)) {ca:Array Value} (hy:a.eval y=.agg ca) (i:Nat) {us vs:List Value} (hv:ca.toList=vs) (hi:L[i]?=some (C,us))
 (hl:off+vs.length≤us.length) (hs:(P.info? ty).map (·.size)=some vs.length) (h1:∀ v∈vs,v.oneCell'=true)
 (h:∀ w':World,w'.heap.size=w.heap.size→Kept (fun b=>b=C) w w'→St S w0 w' (L.set i (C,Pz.splice us off vs)) D O→K (a.put o.dst undef) w'):o.wp P a w K Q:=by
 subst hv;have hb:=H.at hi;refine wp_store_mid ty x y ho C off ca hx hy ?_ (by simpa using hs) (by simpa using all_oneCell_toArray h1) (h _ ?_ ?_ (H.splice hi off _))
 ·intro j hj;have hj':off+j<us.length:=by simp at hl;omega
  have:=ze0 hb (off+j) hj';rw[Nat.zero_add]at this;exact this
 ·rw[za9,zcW]
 ·rw[za9];exact Kept.setN (S:=fun b=>b=C) (.inl rfl) _ off (Kept.refl _ w)
theorem zrw {W:World} {ok:Nat→Prop} {cur:Pl} {n m:Str} {N:Int} {s0 sl:Value} (ha:Rep W ok (.sl 16 [plD cur]) s0) (hc:XArgs W ok sl [zax n,zam ⟨1,N,[]⟩]):Row W ok (plD (sqPl 2 n m N cur)) (plC (sqPl 2 n m N cur) s0 sl (.slice none 0 0) (.slice none 0 0) (.slice none 0 0) (.slice none 0 0) (.slice none 0 0)) :=
 zb6 ⟨by rw[zaZ];exact ha,hc,Rep.nil _ _ _,zaN _ _,Rep.nil _ _ _,Rep.nil _ _ _,Rep.nil _ _ _⟩
theorem zrv {W:World} {ok:Nat→Prop} {cur:Pl} {n m:Str} {N:Int} {s0 sl sm:Value} (ha:Rep W ok (.sl 16 [plD cur]) s0) (hc:Rep W ok (.sl 1 [strD n,strD m]) sl) (hd:Rep W ok (.sl 7 [exD (zax m),exD (zat sNot (zax n))]) sm):Row W ok (plD (sqPl 3 n m N cur)) (plC (sqPl 3 n m N cur) s0 (.slice none 0 0) sl sm (.slice none 0 0) (.slice none 0 0) (.slice none 0 0)) :=
 zb6 ⟨by rw[zaZ];exact ha,zaN _ _,hc,by unfold sqPl;show Rep W ok (.sl 7 (exDs [zax m,zat sNot (zax n)])) sm;rw[zdh];exact hd,Rep.nil _ _ _,Rep.nil _ _ _,Rep.nil _ _ _⟩
theorem zru {W:World} {ok:Nat→Prop} {cur:Pl} {n m:Str} {N:Int} {s0 sl:Value} (ha:Rep W ok (.sl 16 [plD cur,plD (scanL m)]) s0) (hc:Rep W ok (.sl 2 [pairD (n,m),pairD (m,n)]) sl):Row W ok (plD (sqPl 4 n m N cur)) (plC (sqPl 4 n m N cur) s0 (.slice none 0 0) (.slice none 0 0) (.slice none 0 0) sl (.slice none 0 0) (.slice none 0 0)) :=
 zb6 ⟨by rw[zaZ];exact ha,zaN _ _,Rep.nil _ _ _,zaN _ _,hc,Rep.nil _ _ _,Rep.nil _ _ _⟩
theorem zrt {W:World} {ok:Nat→Prop} {cur:Pl} {n m:Str} {N:Int} {s0 sl:Value} (ha:Rep W ok (.sl 16 [plD cur,plD (distL m)]) s0) (hc:Rep W ok (.sl 2 [pairD (n,m)]) sl):Row W ok (plD (sqPl 5 n m N cur)) (plC (sqPl 5 n m N cur) s0 (.slice none 0 0) (.slice none 0 0) (.slice none 0 0) sl (.slice none 0 0) (.slice none 0 0)) :=
 zb6 ⟨by rw[zaZ];exact ha,zaN _ _,Rep.nil _ _ _,zaN _ _,hc,Rep.nil _ _ _,Rep.nil _ _ _⟩
theorem zrs {W:World} {ok:Nat→Prop} {cur:Pl} {n m:Str} {N:Int} {s0 sl sm:Value} (ha:Rep W ok (.sl 16 [plD cur]) s0) (hc:Rep W ok (.sl 1 [strD n]) sl) (hd:Rep W ok (.sl 3 [aggD (zdS,[],m),aggD (sSum,m,n)]) sm):Row W ok (plD (sqPl 6 n m N cur)) (plC (sqPl 6 n m N cur) s0 (.slice none 0 0) sl (.slice none 0 0) (.slice none 0 0) sm (.slice none 0 0)) :=
 zb6 ⟨by rw[zaZ];exact ha,zaN _ _,hc,zaN _ _,Rep.nil _ _ _,hd,Rep.nil _ _ _⟩
theorem zrr {W:World} {ok:Nat→Prop} {cur:Pl} {n m:Str} {N:Int} {s0:Value} (ha:Rep W ok (.sl 16 [plD cur,plD (scanL m)]) s0):Row W ok (plD (sqPl 7 n m N cur)) (plC (sqPl 7 n m N cur) s0 (.slice none 0 0) (.slice none 0 0) (.slice none 0 0) (.slice none 0 0) (.slice none 0 0) (.slice none 0 0)) :=
 zb6 ⟨by rw[zaZ];exact ha,zaN _ _,Rep.nil _ _ _,zaN _ _,Rep.nil _ _ _,Rep.nil _ _ _,Rep.nil _ _ _⟩
theorem zrq {W:World} {ok:Nat→Prop} {cur:Pl} {n m:Str} {N:Int} {s0:Value} (ha:Rep W ok (.sl 16 [plD cur]) s0):Row W ok (plD (sqPl 8 n m N cur)) (plC (sqPl 8 n m N cur) s0 (.slice none 0 0) (.slice none 0 0) (.slice none 0 0) (.slice none 0 0) (.slice none 0 0) (.slice none 0 0)) :=
 zb6 ⟨by rw[zaZ];exact ha,zaN _ _,Rep.nil _ _ _,zaN _ _,Rep.nil _ _ _,Rep.nil _ _ _,Rep.nil _ _ _⟩
theorem zrp {W:World} {ok:Nat→Prop} {cur:Pl} {n m:Str} {N:Int} {s0 sl:Value} (ha:Rep W ok (.sl 16 [plD cur]) s0) (hc:Rep W ok (.sl 2 [ordD (n,true),ordD (m,false)]) sl):Row W ok (plD (sqPl 9 n m N cur)) (plC (sqPl 9 n m N cur) s0 (.slice none 0 0) (.slice none 0 0) (.slice none 0 0) (.slice none 0 0) (.slice none 0 0) sl) :=
 zb6 ⟨by rw[zaZ];exact ha,zaN _ _,Rep.nil _ _ _,zaN _ _,Rep.nil _ _ _,Rep.nil _ _ _,hc⟩
theorem zfx {W:World} {ok:Nat→Prop} {x:Ex} {sl:Value} (h:Row W ok (exD x) (exC x sl)):XArgs W ok sl x.xs:=by
 obtain ⟨s2,e,h2⟩:=zkY h;simp only[exC,List.cons.injEq,and_true,true_and]at e;rw[e];exact h2
theorem zhl (Y:Str) (w:World):Calls Tryz.prog 25 #[.string ⟨Y.toArray⟩] w (ExNew (zax Y) w) :=
 (zhm Y w (fun b=>w.heap.size≤b)).mono fun e w' ⟨ao,cp,he,hx,hb⟩=>⟨ao,cp,he,hx.weak (fun b _ h=>by rcases h with h|h<;>exact h),hb⟩
theorem zoy (k n:Int) (Y:Str) (w:World):Calls Tryz.prog 26 #[.agg #[.int .i64 k,.int .i64 n,.string ⟨Y.toArray⟩]] w (ExNew (zam ⟨k,n,Y⟩) w) :=
 (zd0 k n Y w (fun b=>w.heap.size≤b)).mono fun e w' ⟨ao,cp,he,hx,hb⟩=>⟨ao,cp,he,hx.weak (fun b _ h=>by rcases h with h|h<;>exact h),hb⟩
theorem of_any (n:Int) (w:World):Calls Tryz.prog 27 #[.int .i64 n] w fun e w'=>e=.returned (.agg #[.int .i64 1,.int .i64 n,.string ⟨#[]⟩])∧Below w.heap.size w w':=by
 go_enter func27,ntmps27
 go_wp2_with fail
 go_returns
 exact ⟨rfl,by go_grown⟩
