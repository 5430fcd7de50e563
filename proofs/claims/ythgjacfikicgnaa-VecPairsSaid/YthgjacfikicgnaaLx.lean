/-
  Plain maths of the laws of layer 2 on matrices.
-/
import Derived.Test.YthgjacfikicgnaaLm
import Derived.Test.YthgjacfikicgnaaMa
import Derived.Test.YthgjacfikicgnaaLt
namespace Go.Proofs.Ythgjacfikicgnaa
open Go Go.Proofs.Ythgjacfikicgnaa.K
set_option linter.unusedVariables false

theorem rAdd_eq (a b : Int) : rAdd a b = clamp (clamp a + clamp b) := by
  have h1 := clamp_lo a; have h2 := clamp_hi a; have h3 := clamp_lo b; have h4 := clamp_hi b
  unfold rAdd
  rw [rClamp_eq, rClamp_eq, rClamp_eq, w64_in (by omega) (by omega)]

theorem rMul_f (a b : Int) : rMul a b = fMul a b := by rw [rMul_eq, fMul_eq]
theorem rAdd_f (a b : Int) : rAdd a b = fAdd a b := by rw [rAdd_eq, fAdd_eq]
theorem fAdd0 (a b : Int) : fAdd 0 (fMul a b) = fMul a b := by
  rw [fAdd_eq, fMul_eq, clamp_clamp]
  have : clamp 0 = 0 := by decide
  rw [this, Int.zero_add, clamp_clamp]

theorem dot_eq (a b c d e f g h : Int) : vDot a b c d e f g h = rDot0 a b c d e f g h := by
  unfold vDot rDot0
  simp only [vMul_0, vMul_1, vMul_2, vMul_3, vEachMul_0, vEachMul_1, vEachMul_2, vEachMul_3, rMul_f, rAdd_f, fAdd0]

end Go.Proofs.Ythgjacfikicgnaa
