/-
  Plain maths of the law of layer 2 on orders.
-/
import Derived.Test.YthgjacfikicgnaaNb
import Derived.Test.YthgjacfikicgnaaLuC
namespace Go.Proofs.Ythgjacfikicgnaa
open Go Go.Proofs.Ythgjacfikicgnaa.K
set_option linter.unusedVariables false

theorem vMin1_eq (a b : Int) : vMin1 a b = min (clamp a) (clamp b) := by
  unfold vMin1; rw [fClamp_eq, fClamp_eq, mn_eq]
theorem vMax1_eq (a b : Int) : vMax1 a b = max (clamp a) (clamp b) := by
  unfold vMax1; rw [fClamp_eq, fClamp_eq, mx_eq]

theorem ord1 (a b : Int) : (vMin1 a b > vMax1 a b) = False := by rw [vMin1_eq, vMax1_eq]; simp; omega
theorem ord2 (a b : Int) : (fAdd (vMin1 a b) (vMax1 a b) == fAdd a b) = true := by
  rw [vMin1_eq, vMax1_eq, fAdd_eq, fAdd_eq]; simp; congr 1; unfold clamp; omega
theorem ord3 (a b : Int) : (vMin1 a b == vMin1 b a) = true := by rw [vMin1_eq, vMin1_eq]; simp; omega
theorem ord4 (a b : Int) : (vMax1 a b == vMax1 b a) = true := by rw [vMax1_eq, vMax1_eq]; simp; omega
theorem ord5 (a b : Int) : (vMin1 (vMin1 a b) (vMax1 a b) == vMin1 a b) = true := by rw [vMin1_eq, vMin1_eq, vMax1_eq]; simp; unfold clamp; omega
theorem ord6 (a b : Int) : (fAdd a b == fAdd b a) = true := by rw [fAdd_eq, fAdd_eq, Int.add_comm]; simp
theorem fMul_comm (a b : Int) : fMul a b = fMul b a := by rw [fMul_eq, fMul_eq, Int.mul_comm]
theorem ord8 {x : Int} (h1 : -536870912 ≤ x) (h2 : x ≤ 536870911) : (fSub x x == 0) = true := by rw [fSub_eq]; simp; unfold clamp; omega
theorem ord9 {x : Int} (h1 : -536870912 ≤ x) (h2 : x ≤ 536870911) : (fSub (fAdd x x) x == fWithin x 2147483647) = true := by
  rw [fSub_eq, fAdd_eq, fWithin_eq (by omega) (by omega)]; simp; unfold clamp; omega

theorem quarter {x : Int} (h1 : -2147483648 ≤ x) (h2 : x ≤ 2147483647) : -536870912 ≤ IntKind.wrap .i64 (Int.tdiv (IntKind.wrap .i64 x) 4) ∧ IntKind.wrap .i64 (Int.tdiv (IntKind.wrap .i64 x) 4) ≤ 536870911 := by
  rw [w64_in (n := x) (by omega) (by omega)]
  have q0 : -536870912 ≤ Int.tdiv x 4 ∧ Int.tdiv x 4 ≤ 536870911 := by
    rcases Int.le_total 0 x with h | h
    · rw [Int.tdiv_eq_ediv_of_nonneg h]; omega
    · have : Int.tdiv x 4 = -((-x) / 4) := by rw [← Int.tdiv_eq_ediv_of_nonneg (by omega), Int.neg_tdiv]; omega
      omega
  rw [w64_in (by omega) (by omega)]; exact q0

theorem VecOrders_true (x0_0 : Int) (a0_0 : IntKind.min .i64 ≤ x0_0) (b0_0 : x0_0 ≤ IntKind.max .i64) (x0_1 : Int) (a0_1 : IntKind.min .i64 ≤ x0_1) (b0_1 : x0_1 ≤ IntKind.max .i64) (x0_2 : Int) (a0_2 : IntKind.min .i64 ≤ x0_2) (b0_2 : x0_2 ≤ IntKind.max .i64) (x0_3 : Int) (a0_3 : IntKind.min .i64 ≤ x0_3) (b0_3 : x0_3 ≤ IntKind.max .i64)
    (x1_0 : Int) (a1_0 : IntKind.min .i64 ≤ x1_0) (b1_0 : x1_0 ≤ IntKind.max .i64) (x1_1 : Int) (a1_1 : IntKind.min .i64 ≤ x1_1) (b1_1 : x1_1 ≤ IntKind.max .i64) (x1_2 : Int) (a1_2 : IntKind.min .i64 ≤ x1_2) (b1_2 : x1_2 ≤ IntKind.max .i64) (x1_3 : Int) (a1_3 : IntKind.min .i64 ≤ x1_3) (b1_3 : x1_3 ≤ IntKind.max .i64)
    (x2_0 : Int) (a2_0 : IntKind.min .i32 ≤ x2_0) (b2_0 : x2_0 ≤ IntKind.max .i32) (x2_1 : Int) (a2_1 : IntKind.min .i32 ≤ x2_1) (b2_1 : x2_1 ≤ IntKind.max .i32) (x2_2 : Int) (a2_2 : IntKind.min .i32 ≤ x2_2) (b2_2 : x2_2 ≤ IntKind.max .i32) (x2_3 : Int) (a2_3 : IntKind.min .i32 ≤ x2_3) (b2_3 : x2_3 ≤ IntKind.max .i32) :
    lVecOrders x0_0 x0_1 x0_2 x0_3 x1_0 x1_1 x1_2 x1_3 x2_0 x2_1 x2_2 x2_3 = true := by
  rw [min_i32] at a2_0 a2_1 a2_2 a2_3
  rw [max_i32] at b2_0 b2_1 b2_2 b2_3
  unfold lVecOrders
  obtain ⟨p0, q0⟩ := quarter a2_0 b2_0
  obtain ⟨p1, q1⟩ := quarter a2_1 b2_1
  obtain ⟨p2, q2⟩ := quarter a2_2 b2_2
  obtain ⟨p3, q3⟩ := quarter a2_3 b2_3
  generalize IntKind.wrap .i64 (Int.tdiv (IntKind.wrap .i64 x2_0) 4) = y0 at *
  generalize IntKind.wrap .i64 (Int.tdiv (IntKind.wrap .i64 x2_1) 4) = y1 at *
  generalize IntKind.wrap .i64 (Int.tdiv (IntKind.wrap .i64 x2_2) 4) = y2 at *
  generalize IntKind.wrap .i64 (Int.tdiv (IntKind.wrap .i64 x2_3) 4) = y3 at *
  simp only [Bool.cond_decide]
  simp only [vMin_0, vMin_1, vMin_2, vMin_3, vMax_0, vMax_1, vMax_2, vMax_3, vAdd_0, vAdd_1, vAdd_2, vAdd_3, vSub_0, vSub_1, vSub_2, vSub_3, vEachMin_0, vEachMin_1, vEachMin_2, vEachMin_3, vEachMax_0, vEachMax_1, vEachMax_2, vEachMax_3,
    vEachAdd_0, vEachAdd_1, vEachAdd_2, vEachAdd_3, vEachSub_0, vEachSub_1, vEachSub_2, vEachSub_3, vWithin_0, vWithin_1, vWithin_2, vWithin_3]
  have hd : (vDot x0_0 x0_1 x0_2 x0_3 x1_0 x1_1 x1_2 x1_3 == vDot x1_0 x1_1 x1_2 x1_3 x0_0 x0_1 x0_2 x0_3) = true := by
    simp only [vDot, vMul_0, vMul_1, vMul_2, vMul_3, vEachMul_0, vEachMul_1, vEachMul_2, vEachMul_3]
    rw [fMul_comm x0_0, fMul_comm x0_1, fMul_comm x0_2, fMul_comm x0_3]
    simp
  simp only [ord1, if_false, ord2, ord3, ord4, ord5, ord6, hd, ord8 p0 q0, ord8 p1 q1, ord8 p2 q2, ord8 p3 q3, ord9 p0 q0, ord9 p1 q1, ord9 p2 q2, ord9 p3 q3, Bool.and_self, cond_true]

end Go.Proofs.Ythgjacfikicgnaa
