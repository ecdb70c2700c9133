/- Walks: awake, the law of an expression's text. -/
import Derived.Test.YtonkjhmkppeagaaGreatDoorCRfB
set_option linter.unusedVariables false
set_option linter.unusedSimpArgs false
namespace Go.Proofs.YtonkjhmkppeagaaGreatDoor.Pz
open Go.Proofs.Tryz
open Go.Lib (hid)
open Go.RowKit Go Go.Sort Ba Lx
def awX:Ex:=zag [42] (zag [43] (zaz [97]) (zaz [98])) (zaz [99])
theorem zli:(zbO [40,97,43,98,41,42,40,99,41]).2.2=0:=by kernel_rfl
theorem zrt:(zbO [40,97,43,98,41,42,40,99,41]).1=awX:=by kernel_rfl
theorem zru:textE awX=[40,97,32,43,32,98,41,32,42,32,99]:=by kernel_rfl
theorem zsf {s:ByteArray} (hl:s.data.toList.length≤8192) (h:(zbO s.data.toList).2.2=0):∃ (x:Ex) (at0:Nat),zbO s.data.toList=(x,at0,0)∧OkE x∧(textE x).length≤16384∧showE x=(textE x,0)∧zbO (textE x)=(x,(textE x).length,0):=by
 have h2:=zik h;have h3:=zil hl h;obtain ⟨r,hr⟩:∃ r,zbO s.data.toList=r:=⟨_,rfl⟩;rw[hr]at h h2 h3;obtain ⟨x,a,e⟩:=r;obtain ⟨k1,k2,k3,k4⟩:=h2;simp only at h h3 k1 k3;subst h;exact ⟨x,a,hr,k1,by omega,zol h3,h3⟩
theorem zqD (x:Ex) (T:ByteArray) (hT:(⟨(textE x).toArray⟩:ByteArray)=T) (hx:OkE x) (hs:showE x=(textE x,0)) (hlen:(textE x).length≤16384) (sa:Option Addr) (ca:Nat) (w:World) (ok:Nat→Prop) (hA:XArgs w ok (.slice sa x.xs.length ca) x.xs) (hE:EnvX w) :
 Calls Tryz.prog 16 #[exV x (.slice sa x.xs.length ca)] w fun e w'=>e=.returned (.tuple #[.string T,.int .i64 0])∧Below w.heap.size w w':=by
 have:=zlE x sa ca w ok hA hE (zml x hx) (Nat.le_trans (m:=1000000) (by omega) (LimE_ge x));unfold ziC at this;rw[hs,hT]at this;exact this
set_option maxRecDepth 100000 in
set_option maxHeartbeats 3200000 in
theorem znL (w:World) (hE:EnvX w):Calls Tryz.prog 14 #[] w fun e w'=>e=.returned (.bool true)∧Below w.heap.size w w':=by
 obtain ⟨x,at0,e1,hx,hlen,hs,_⟩:=zsf (s:=⟨#[40,97,43,98,41,42,40,99,41]⟩) (by decide) zli;have hxa:x=awX:=by
  have:=zrt;rw[show ([40,97,43,98,41,42,40,99,41]:Str)=(⟨#[40,97,43,98,41,42,40,99,41]⟩:ByteArray).data.toList from rfl,e1]at this;exact this
 have hT:(⟨(textE x).toArray⟩:ByteArray)=⟨#[40,97,32,43,32,98,41,32,42,32,99]⟩:=by rw[hxa,zru]
 have hP:=zkc ⟨#[40,97,43,98,41,42,40,99,41]⟩ w hE.l;rw[e1]at hP;have HP:=hid hP;have HS:=hid (fun sa ca W (ok:Nat→Prop) (hA:XArgs W ok (.slice sa x.xs.length ca) x.xs) (hb:Below w.heap.size w W)=>zqD x _ hT hx hs hlen sa ca W ok hA (hE.below hb));clear hP hxa hT hs hlen hx e1;go_enter func14,ntmps14
 go_wp2_with (first|(go_at_call 15;refine HP.out.mono ?_;rintro e w1 ⟨ya,yc,rfl,hY,hb1⟩;have bwX:=(Below.refl w1.heap.size w1).alloc (Nat.le_refl _) (.cells #[.int .i64 x.k,.string ⟨x.nm.toArray⟩,.int .i64 x.v.k,.int .i64 x.v.n,.string ⟨x.v.t.toArray⟩,.string ⟨x.op.toArray⟩,.slice ya x.xs.length yc] 27))|(go_at_call 16;refine (HS.out ya yc _ _ (hY.below bwX) (two hb1 bwX)).mono ?_;rintro e w2 ⟨rfl,hb2⟩))
 go_ret
 exact ⟨rfl,two (two hb1 bwX) hb2⟩
end Go.Proofs.YtonkjhmkppeagaaGreatDoor.Pz
