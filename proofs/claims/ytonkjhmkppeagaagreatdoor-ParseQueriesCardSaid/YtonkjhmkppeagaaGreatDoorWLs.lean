/- Walks of layer 14's laws: schedules. -/
import Derived.Test.YtonkjhmkppeagaaGreatDoorWL14
import Derived.Test.YtonkjhmkppeagaaGreatDoorWAw
import Derived.Test.YtonkjhmkppeagaaGreatDoorWNm
import Derived.Test.YtonkjhmkppeagaaGreatDoorWRfA
set_option linter.unusedVariables false
set_option linter.unusedSimpArgs false
namespace Go.Proofs.YtonkjhmkppeagaaGreatDoor.Pz
open Go.Proofs.Tryz
open Go.RowKit Go Go.Sort Ba Lx
theorem zqr (l:Str) (c:UInt8):(⟨(l++[c]).toArray⟩:ByteArray).extract 0 l.length=⟨l.toArray⟩:=by
 apply ByteArray.ext;rw[ByteArray.data_extract];show (l++[c]).toArray.extract 0 l.length=l.toArray
 apply Array.toList_inj.1;rw[Array.toList_extract];simp[List.extract]
theorem zjL (t:Str) (d:Df) (h:zaJ (t++[59])=([d],t.length+1,0)∧zaJ t=([],t.length,51)) (hl:t.length≤10000) (T:ByteArray) (hT:T=⟨(t++[59]).toArray⟩) (s0 s1 s2:Value) (ps:List Value) (w:World) (ok:Nat→Prop) (hA:DfAt w ok d s0 s1 s2 ps) (hE:EnvL w) :
 Calls Tryz.prog 36 #[.string T,dfV d s0 s1 s2 ps] w (EqTo w true):=by
 subst hT;have hsz:(⟨(t++[59]).toArray⟩:ByteArray).size=t.length+1:=by rw[szm,yA];rfl
 refine zpI _ ⟨t.toArray⟩ d ?_ ?_ ?_ ?_ ?_ s0 s1 s2 ps w ok hA hE
 ·rw[hsz];exact h.1
 ·rw[hsz,Nat.add_sub_cancel];exact zqr t 59
 ·rw[szm];exact h.2
 ·rw[hsz,szm]
 ·rw[hsz];omega
