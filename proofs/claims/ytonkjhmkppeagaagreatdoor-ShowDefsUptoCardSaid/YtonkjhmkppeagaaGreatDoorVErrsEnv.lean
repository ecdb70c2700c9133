/- From the listed errors of the library to what the walks lean on. -/
import Derived.Test.YtonkjhmkppeagaaGreatDoorVVal
import Derived.Test.YtonkjhmkppeagaaGreatDoorVFrame
set_option linter.unusedVariables false
namespace Go.Proofs.YtonkjhmkppeagaaGreatDoor.Ba
open Go.Proofs.Tryz
open Go.RowKit Go
theorem star: "*"++ "errors.errorString"= "*errors.errorString":=by decide
theorem rowES (u:TypeId) (h:Tryz.prog.typeName? 3 u=some "*errors.errorString"):u=224 :=
 typeName_ptr_named (nm:= "errors.errorString") (by rw[star];kernel_rfl) (by kernel_rfl) (by decide) u (by rw[star];exact h)
theorem zoC:Tryz.prog.cellsOf 226=1:=by kernel_rfl
theorem zk4:Tryz.prog.cellsOf 9=1:=by kernel_rfl
theorem Errs.of {r:List (String×DataW Unit)} {W:World} (h:laidMet Tryz.prog (("strconv.ErrRange",Rows.laid_strconv_ErrRange)::("strconv.ErrSyntax",Rows.laid_strconv_ErrSyntax)::r) W):Errs W:=by
 obtain ⟨a0,s0,hv0,_⟩:=laid_sentinel h (g:=5) (ti:=149) (by kernel_rfl) (by kernel_rfl) underlying149 rowES underlying224 underlying226 rfl rfl underlying9 zoC zk4;obtain ⟨a1,s1,hv1,_⟩:=laid_sentinel h.tail (g:=4) (ti:=149) (by kernel_rfl) (by kernel_rfl) underlying149 rowES underlying224 underlying226 rfl rfl underlying9 zoC zk4;exact ⟨⟨_,_,hv1⟩,⟨_,_,hv0⟩⟩
