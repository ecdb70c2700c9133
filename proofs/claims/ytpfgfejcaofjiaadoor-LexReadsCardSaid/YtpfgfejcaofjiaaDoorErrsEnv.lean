/- From the listed errors of the library to what the walks lean on. -/
import Derived.Test.YtpfgfejcaofjiaaDoorAtoi
import Derived.Test.YtpfgfejcaofjiaaDoorFrame
import Derived.Stop.LaidErr
set_option linter.unusedVariables false
namespace Go.Proofs.YtpfgfejcaofjiaaDoor.Ba
open Go.RowKit Go

theorem star : "*" ++ "errors.errorString" = "*errors.errorString" := by decide
theorem rowES (u : TypeId) (h : Tryd.prog.typeName? 3 u = some "*errors.errorString") : u = 97 :=
  typeName_ptr_named (nm := "errors.errorString") (by rw [star]; kernel_rfl) (by kernel_rfl) (by decide) u (by rw [star]; exact h)
theorem cellsES : Tryd.prog.cellsOf 99 = 1 := by kernel_rfl
theorem cellsStr : Tryd.prog.cellsOf 9 = 1 := by kernel_rfl
theorem Errs.of {r : List (String × DataW Unit)} {W : World} (h : laidMet Tryd.prog (("strconv.ErrRange", Rows.laid_strconv_ErrRange) :: ("strconv.ErrSyntax", Rows.laid_strconv_ErrSyntax) :: r) W) : Errs W := by
  obtain ⟨a0, s0, hv0, _⟩ := laid_sentinel h (g := 3) (ti := 56) (by kernel_rfl) (by kernel_rfl) Tryd.underlying56 rowES Tryd.underlying97 Tryd.underlying99 rfl rfl Tryd.underlying9 cellsES cellsStr
  obtain ⟨a1, s1, hv1, _⟩ := laid_sentinel h.tail (g := 2) (ti := 56) (by kernel_rfl) (by kernel_rfl) Tryd.underlying56 rowES Tryd.underlying97 Tryd.underlying99 rfl rfl Tryd.underlying9 cellsES cellsStr
  exact ⟨⟨_, _, hv1⟩, ⟨_, _, hv0⟩⟩
end Go.Proofs.YtpfgfejcaofjiaaDoor.Ba
