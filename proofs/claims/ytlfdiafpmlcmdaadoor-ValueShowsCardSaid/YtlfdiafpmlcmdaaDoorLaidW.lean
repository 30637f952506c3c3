/-
  What strconv's laid variables hold. No walk.
-/
import Derived.Test.YtlfdiafpmlcmdaaDoorLaid01
import Derived.Test.YtlfdiafpmlcmdaaDoorRead
import Derived.Stop.LaidErr
import Derived.LaidLaws
namespace Go.Proofs.YtlfdiafpmlcmdaaDoor
open Go.RowKit Go.ChangeShapes Go.WideShapes Go.ChangeAt

theorem gPow : Tryd.prog.globalNamed "internal/strconv.uint64pow10" = some 3 := by kernel_rfl
theorem gSyn : Tryd.prog.globalNamed "strconv.ErrSyntax" = some 1 := by kernel_rfl
theorem gRan : Tryd.prog.globalNamed "strconv.ErrRange" = some 2 := by kernel_rfl
theorem star : "*" ++ "errors.errorString" = "*errors.errorString" := by decide
theorem rowErr (u : TypeId) (h : Tryd.prog.typeName? 3 u = some "*errors.errorString") : u = 81 :=
  typeName_ptr_named (nm := "errors.errorString") (by rw [star]; kernel_rfl) (by kernel_rfl) (by decide) u (by rw [star]; exact h)
theorem pows_of_laid {W : World} (h : laidMet Tryd.prog [("math/bits.deBruijn32tab", Rows.laid_math_bits_deBruijn32tab), ("math/bits.deBruijn64tab", Rows.laid_math_bits_deBruijn64tab), ("internal/strconv.uint64pow10", Rows.laid_internal_strconv_uint64pow10), ("strconv.ErrRange", Rows.laid_strconv_ErrRange), ("strconv.ErrSyntax", Rows.laid_strconv_ErrSyntax), ("ratline/value.digits", Rows.laid_ratline_value_digits)] W) : Pows W := by
  have h2 := h.tail.tail
  rw [show (Rows.laid_internal_strconv_uint64pow10 : DataW Unit) = Lib.tabData .u64 Lib.pow10Tab from rfl] at h2
  exact Lib.tabIs_of_head gPow (t := 75) (by kernel_rfl) Tryd.underlying75 Tryd.underlying50 (by kernel_rfl) (by kernel_rfl) h2
theorem errs_of_laid {W : World} (h : laidMet Tryd.prog [("math/bits.deBruijn32tab", Rows.laid_math_bits_deBruijn32tab), ("math/bits.deBruijn64tab", Rows.laid_math_bits_deBruijn64tab), ("internal/strconv.uint64pow10", Rows.laid_internal_strconv_uint64pow10), ("strconv.ErrRange", Rows.laid_strconv_ErrRange), ("strconv.ErrSyntax", Rows.laid_strconv_ErrSyntax), ("ratline/value.digits", Rows.laid_ratline_value_digits)] W) : Errs W := by
  have h3 := h.tail.tail.tail
  have h4 := h3.tail
  obtain ⟨a1, s1, hv1, _⟩ := laid_sentinel h3 gRan (ti := 41) (by kernel_rfl) Tryd.underlying41 rowErr Tryd.underlying81 Tryd.underlying83 rfl rfl Tryd.underlying9 (by kernel_rfl) (by kernel_rfl)
  obtain ⟨a2, s2, hv2, _⟩ := laid_sentinel h4 gSyn (ti := 41) (by kernel_rfl) Tryd.underlying41 rowErr Tryd.underlying81 Tryd.underlying83 rfl rfl Tryd.underlying9 (by kernel_rfl) (by kernel_rfl)
  have c1 := World.var?_cell gRan hv1 0
  have c2 := World.var?_cell gSyn hv2 0
  exact ⟨⟨_, _, by simpa using c2⟩, _, _, by simpa using c1⟩
end Go.Proofs.YtlfdiafpmlcmdaaDoor
