/- Walks: names (schema.Name), words (the law's word and words). -/
import Derived.Test.YtonkjhmkppeagaaGreatDoorVEq
set_option maxRecDepth 100000
set_option maxHeartbeats 1600000
set_option linter.unusedVariables false
set_option linter.unusedSimpArgs false
namespace Go.Proofs.YtonkjhmkppeagaaGreatDoor.Nm
open Go.Proofs.Tryz
open Go.Lib (hid)
open Go.RowKit Go Ba Va
def letterB (b:UInt8):Bool:=decide (97≤(b.toNat:Int)∧(b.toNat:Int)≤122)
def innerB (b:UInt8):Bool:=letterB b || decide ((b.toNat:Int)=95∨(48≤(b.toNat:Int)∧(b.toNat:Int)≤57))
def nameL (l:List UInt8):Bool:=(match l with|[]=>false|b::_=>letterB b) && l.all innerB && decide (l.length≤16)
def nameB (s:ByteArray):Bool:=nameL s.data.toList
end Go.Proofs.YtonkjhmkppeagaaGreatDoor.Nm
namespace Go.Proofs.YtonkjhmkppeagaaGreatDoor.Pz
open Go.Proofs.Tryz
open Go.Lib (hid)
open Go.RowKit Go Go.Sort Ba Lx
def wordQ (s:Str):Bool:=Nm.nameL s && (decide (s≠sAnd) && (decide (s≠sOr) && (decide (s≠sNot) && decide (s≠sNull))))
def zdQ (l:List Str):Bool:=l.all wordQ && decide (0<l.length∧l.length≤20)
