/- The plain law of definitions put together: two texts that are definitions are so together; errors are told at a token or at the end. No program in sight. The plain law of a definition's text that is cut off: it is read as no definition. No program in sight. The plain law of sources, assets and schedules as they may be written: what they are read as, and that nothing is read without the last ';'. No program in sight. -/
import Derived.Test.YtonkjhmkppeagaaGreatDoorVDf
import Derived.Test.YtonkjhmkppeagaaGreatDoorVQg
import Derived.Lib.ItoaLen
set_option linter.unusedVariables false
namespace Go.Proofs.YtonkjhmkppeagaaGreatDoor.Pz
open Go.Proofs.Tryz
open Go Go.RowKit Lx
end Go.Proofs.YtonkjhmkppeagaaGreatDoor.Pz
namespace Go.Proofs.YtonkjhmkppeagaaGreatDoor.Lx
open Go.Proofs.Tryz
open Go Go.RowKit Ba
end Go.Proofs.YtonkjhmkppeagaaGreatDoor.Lx
namespace Go.Proofs.YtonkjhmkppeagaaGreatDoor.Pz
open Go.Proofs.Tryz
open Go Go.RowKit Lx
end Go.Proofs.YtonkjhmkppeagaaGreatDoor.Pz
namespace Go.Proofs.YtonkjhmkppeagaaGreatDoor.Pz
open Go.Proofs.Tryz
open Go Go.RowKit Lx
theorem zfC {k:Int} (h:1≤k∧k≤5):(wAt zax k).length≤7∧(wAt zaf k).length≤6:=by
 have:k=1∨k=2∨k=3∨k=4∨k=5:=by omega
 rcases this with rfl|rfl|rfl|rfl|rfl<;>decide
def scT2 (s:Sc):Str:=wAt zax s.k++(32::(Lib.itoa s.f++(32::46::46::32::Lib.itoa s.l)))
def inM (x:Inp):Str:=if x.k=2∨x.k=3 then 32::Lib.itoa x.n else []
def inT2 (x:Inp):Str:=x.a++(32::(wAt zaf x.k++(inM x++([32,97,115,32]++x.s))))
def distL (n:Str):Pl:=.mk 8 [] [scanL n] zEx [] [] [] [] [] 0
def assT0 (n:Str) (s:Sc) (ins:List Inp) (m:Str):Str:=zbr++(32::(n++(32::(scT2 s++(10::(sFrom++(32::(joinS [44,32] (ins.map inT2)++(10::(sDo++(32::(m++([32,124,32]++zaE)))))))))))))
end Go.Proofs.YtonkjhmkppeagaaGreatDoor.Pz
