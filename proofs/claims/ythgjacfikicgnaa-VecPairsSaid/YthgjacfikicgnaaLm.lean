/-
  Plain maths of the laws of layer 1 on sums and quotients.
-/
import Derived.Test.YthgjacfikicgnaaLi
import Derived.Test.YthgjacfikicgnaaLh
namespace Go.Proofs.Ythgjacfikicgnaa
open Go Go.Proofs.Ythgjacfikicgnaa.K
set_option linter.unusedVariables false

theorem clamp_clamp (n : Int) : clamp (clamp n) = clamp n := clamp_id (clamp_lo n) (clamp_hi n)

theorem rMul_eq (a b : Int) : rMul a b = clamp (clamp a * clamp b / 65536) := by
  have h := clamp_mul a b
  unfold rMul
  rw [rClamp_eq, rClamp_eq, rClamp_eq, w64_in (by omega) (by omega), rFloor_eq (by omega) (by omega) (by omega) (by omega), Int.fdiv_eq_ediv_of_nonneg _ (by omega)]

theorem FixSums_true (x0 : Int) (a0 : IntKind.min .i64 ≤ x0) (b0 : x0 ≤ IntKind.max .i64) (x1 : Int) (a1 : IntKind.min .i64 ≤ x1) (b1 : x1 ≤ IntKind.max .i64) (x2 : Int) (a2 : IntKind.min .i32 ≤ x2) (b2 : x2 ≤ IntKind.max .i32) (x3 : Int) (a3 : IntKind.min .i32 ≤ x3) (b3 : x3 ≤ IntKind.max .i32) :
    lFixSums x0 x1 x2 x3 = true := by
  rw [min_i32] at a2 a3
  rw [max_i32] at b2 b3
  unfold lFixSums
  rw [w64_in (n := x2) (by omega) (by omega), w64_in (n := x3) (by omega) (by omega)]
  have one : ∀ x y : Int, fClamp x = rClamp x ∧ fAdd x y = rClamp (IntKind.wrap .i64 (rClamp x + rClamp y)) ∧ fSub x y = rClamp (IntKind.wrap .i64 (rClamp x - rClamp y)) ∧ fMul x y = rMul (rClamp x) (rClamp y) := by
    intro x y
    have h1 := clamp_lo x; have h2 := clamp_hi x; have h3 := clamp_lo y; have h4 := clamp_hi y
    refine ⟨by rw [fClamp_eq, rClamp_eq], ?_, ?_, ?_⟩
    · rw [fAdd_eq, rClamp_eq, rClamp_eq, rClamp_eq, w64_in (by omega) (by omega)]
    · rw [fSub_eq, rClamp_eq, rClamp_eq, rClamp_eq, w64_in (by omega) (by omega)]
    · rw [fMul_eq, rMul_eq, rClamp_eq, rClamp_eq, clamp_clamp, clamp_clamp]
  obtain ⟨p1, p2, p3, p4⟩ := one x0 x1
  obtain ⟨q1, q2, q3, q4⟩ := one x2 x3
  simp [p1, p2, p3, p4, q1, q2, q3, q4]

end Go.Proofs.Ythgjacfikicgnaa
