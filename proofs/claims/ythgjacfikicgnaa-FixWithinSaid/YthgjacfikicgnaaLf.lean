/-
  Plain maths of the laws of layer 1 (first part).
-/
import Derived.Test.YthgjacfikicgnaaMa
import Derived.Test.YthgjacfikicgnaaNa
import Derived.Test.YthgjacfikicgnaaLe
namespace Go.Proofs.Ythgjacfikicgnaa
open Go Go.Proofs.Ythgjacfikicgnaa.K

theorem FixWithin_true (x0 : Int) (a0 : IntKind.min .i64 ≤ x0) (b0 : x0 ≤ IntKind.max .i64) (x1 : Int) (a1 : IntKind.min .i64 ≤ x1) (b1 : x1 ≤ IntKind.max .i64) : lFixWithin x0 x1 = true := by
  rw [min_i64] at a0 a1
  rw [max_i64] at b0 b1
  unfold lFixWithin fWithin
  simp only [mx_eq, mn_eq, cond_eq_ite, decide_eq_true_eq, beq_iff_eq]
  by_cases h : x1 < -1152921504606846976
  · rw [if_pos h]
  · rw [w64_in (n := 0 - x1) (by omega) (by omega)]
    repeat' split
    all_goals first | rfl | (exfalso; omega)

end Go.Proofs.Ythgjacfikicgnaa
