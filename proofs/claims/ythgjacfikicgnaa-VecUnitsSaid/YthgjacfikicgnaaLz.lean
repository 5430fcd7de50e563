/-
  Plain maths of the law of layer 2 on the unit.
-/
import Derived.Test.YthgjacfikicgnaaLx
import Derived.Test.YthgjacfikicgnaaLuB
namespace Go.Proofs.Ythgjacfikicgnaa
open Go Go.Proofs.Ythgjacfikicgnaa.K
set_option linter.unusedVariables false

theorem cz : clamp 0 = 0 := by decide
theorem c65 : clamp 65536 = 65536 := by decide
theorem fm0 (a : Int) : fMul 0 a = 0 := by rw [fMul_eq, cz, Int.zero_mul]; decide
theorem fm0' (a : Int) : fMul a 0 = 0 := by rw [fMul_eq, cz, Int.mul_zero]; decide
theorem fm1 (a : Int) : fMul 65536 a = clamp a := by
  rw [fMul_eq, c65, Int.mul_comm, Int.mul_ediv_cancel _ (by omega), clamp_clamp]
theorem fm1' (a : Int) : fMul a 65536 = clamp a := by
  rw [fMul_eq, c65, Int.mul_ediv_cancel _ (by omega), clamp_clamp]
theorem fa0 (a : Int) : fAdd 0 a = clamp a := by rw [fAdd_eq, cz, Int.zero_add, clamp_clamp]
theorem fa0' (a : Int) : fAdd a 0 = clamp a := by rw [fAdd_eq, cz, Int.add_zero, clamp_clamp]
theorem unit1 : fOf 1 = 65536 := by rw [fOf_eq]; decide

theorem atLeast {x : Int} (h1 : -2147483648 ≤ x) (h2 : x ≤ 2147483647) : ∃ y, (if -2147483647 > IntKind.wrap .i64 x then -2147483647 else IntKind.wrap .i64 x) = y ∧ clamp y = y := by
  rw [w64_in (by omega) (by omega)]
  refine ⟨_, rfl, ?_⟩
  split <;> exact clamp_id (by omega) (by omega)

theorem VecUnits_true (x0_0 : Int) (a0_0 : IntKind.min .i32 ≤ x0_0) (b0_0 : x0_0 ≤ IntKind.max .i32) (x0_1 : Int) (a0_1 : IntKind.min .i32 ≤ x0_1) (b0_1 : x0_1 ≤ IntKind.max .i32) (x0_2 : Int) (a0_2 : IntKind.min .i32 ≤ x0_2) (b0_2 : x0_2 ≤ IntKind.max .i32) (x0_3 : Int) (a0_3 : IntKind.min .i32 ≤ x0_3) (b0_3 : x0_3 ≤ IntKind.max .i32) (x0_4 : Int) (a0_4 : IntKind.min .i32 ≤ x0_4) (b0_4 : x0_4 ≤ IntKind.max .i32) (x0_5 : Int) (a0_5 : IntKind.min .i32 ≤ x0_5) (b0_5 : x0_5 ≤ IntKind.max .i32) (x0_6 : Int) (a0_6 : IntKind.min .i32 ≤ x0_6) (b0_6 : x0_6 ≤ IntKind.max .i32) (x0_7 : Int) (a0_7 : IntKind.min .i32 ≤ x0_7) (b0_7 : x0_7 ≤ IntKind.max .i32) (x0_8 : Int) (a0_8 : IntKind.min .i32 ≤ x0_8) (b0_8 : x0_8 ≤ IntKind.max .i32) (x0_9 : Int) (a0_9 : IntKind.min .i32 ≤ x0_9) (b0_9 : x0_9 ≤ IntKind.max .i32) (x0_10 : Int) (a0_10 : IntKind.min .i32 ≤ x0_10) (b0_10 : x0_10 ≤ IntKind.max .i32) (x0_11 : Int) (a0_11 : IntKind.min .i32 ≤ x0_11) (b0_11 : x0_11 ≤ IntKind.max .i32) (x0_12 : Int) (a0_12 : IntKind.min .i32 ≤ x0_12) (b0_12 : x0_12 ≤ IntKind.max .i32) (x0_13 : Int) (a0_13 : IntKind.min .i32 ≤ x0_13) (b0_13 : x0_13 ≤ IntKind.max .i32) (x0_14 : Int) (a0_14 : IntKind.min .i32 ≤ x0_14) (b0_14 : x0_14 ≤ IntKind.max .i32) (x0_15 : Int) (a0_15 : IntKind.min .i32 ≤ x0_15) (b0_15 : x0_15 ≤ IntKind.max .i32) (x1_0 : Int) (a1_0 : IntKind.min .i32 ≤ x1_0) (b1_0 : x1_0 ≤ IntKind.max .i32) (x1_1 : Int) (a1_1 : IntKind.min .i32 ≤ x1_1) (b1_1 : x1_1 ≤ IntKind.max .i32) (x1_2 : Int) (a1_2 : IntKind.min .i32 ≤ x1_2) (b1_2 : x1_2 ≤ IntKind.max .i32) (x1_3 : Int) (a1_3 : IntKind.min .i32 ≤ x1_3) (b1_3 : x1_3 ≤ IntKind.max .i32) : lVecUnits x0_0 x0_1 x0_2 x0_3 x0_4 x0_5 x0_6 x0_7 x0_8 x0_9 x0_10 x0_11 x0_12 x0_13 x0_14 x0_15 x1_0 x1_1 x1_2 x1_3 = true := by
  unfold lVecUnits
  rw [min_i32] at a0_0
  rw [max_i32] at b0_0
  obtain ⟨y0_0, e0_0, c0_0⟩ := atLeast a0_0 b0_0
  rw [min_i32] at a0_1
  rw [max_i32] at b0_1
  obtain ⟨y0_1, e0_1, c0_1⟩ := atLeast a0_1 b0_1
  rw [min_i32] at a0_2
  rw [max_i32] at b0_2
  obtain ⟨y0_2, e0_2, c0_2⟩ := atLeast a0_2 b0_2
  rw [min_i32] at a0_3
  rw [max_i32] at b0_3
  obtain ⟨y0_3, e0_3, c0_3⟩ := atLeast a0_3 b0_3
  rw [min_i32] at a0_4
  rw [max_i32] at b0_4
  obtain ⟨y0_4, e0_4, c0_4⟩ := atLeast a0_4 b0_4
  rw [min_i32] at a0_5
  rw [max_i32] at b0_5
  obtain ⟨y0_5, e0_5, c0_5⟩ := atLeast a0_5 b0_5
  rw [min_i32] at a0_6
  rw [max_i32] at b0_6
  obtain ⟨y0_6, e0_6, c0_6⟩ := atLeast a0_6 b0_6
  rw [min_i32] at a0_7
  rw [max_i32] at b0_7
  obtain ⟨y0_7, e0_7, c0_7⟩ := atLeast a0_7 b0_7
  rw [min_i32] at a0_8
  rw [max_i32] at b0_8
  obtain ⟨y0_8, e0_8, c0_8⟩ := atLeast a0_8 b0_8
  rw [min_i32] at a0_9
  rw [max_i32] at b0_9
  obtain ⟨y0_9, e0_9, c0_9⟩ := atLeast a0_9 b0_9
  rw [min_i32] at a0_10
  rw [max_i32] at b0_10
  obtain ⟨y0_10, e0_10, c0_10⟩ := atLeast a0_10 b0_10
  rw [min_i32] at a0_11
  rw [max_i32] at b0_11
  obtain ⟨y0_11, e0_11, c0_11⟩ := atLeast a0_11 b0_11
  rw [min_i32] at a0_12
  rw [max_i32] at b0_12
  obtain ⟨y0_12, e0_12, c0_12⟩ := atLeast a0_12 b0_12
  rw [min_i32] at a0_13
  rw [max_i32] at b0_13
  obtain ⟨y0_13, e0_13, c0_13⟩ := atLeast a0_13 b0_13
  rw [min_i32] at a0_14
  rw [max_i32] at b0_14
  obtain ⟨y0_14, e0_14, c0_14⟩ := atLeast a0_14 b0_14
  rw [min_i32] at a0_15
  rw [max_i32] at b0_15
  obtain ⟨y0_15, e0_15, c0_15⟩ := atLeast a0_15 b0_15
  rw [min_i32] at a1_0
  rw [max_i32] at b1_0
  obtain ⟨y1_0, e1_0, c1_0⟩ := atLeast a1_0 b1_0
  rw [min_i32] at a1_1
  rw [max_i32] at b1_1
  obtain ⟨y1_1, e1_1, c1_1⟩ := atLeast a1_1 b1_1
  rw [min_i32] at a1_2
  rw [max_i32] at b1_2
  obtain ⟨y1_2, e1_2, c1_2⟩ := atLeast a1_2 b1_2
  rw [min_i32] at a1_3
  rw [max_i32] at b1_3
  obtain ⟨y1_3, e1_3, c1_3⟩ := atLeast a1_3 b1_3
  simp only [e0_0, e0_1, e0_2, e0_3, e0_4, e0_5, e0_6, e0_7, e0_8, e0_9, e0_10, e0_11, e0_12, e0_13, e0_14, e0_15, e1_0, e1_1, e1_2, e1_3]
  simp only [vBy_0, vBy_1, vBy_2, vBy_3, vBy_4, vBy_5, vBy_6, vBy_7, vBy_8, vBy_9, vBy_10, vBy_11, vBy_12, vBy_13, vBy_14, vBy_15, vTimes_0, vTimes_1, vTimes_2, vTimes_3, vUnit_0, vUnit_1, vUnit_2, vUnit_3, vUnit_4, vUnit_5, vUnit_6, vUnit_7, vUnit_8, vUnit_9, vUnit_10, vUnit_11, vUnit_12, vUnit_13, vUnit_14, vUnit_15, vDot, vScale_0, vScale_1, vScale_2, vScale_3, vMul_0, vMul_1, vMul_2, vMul_3, vEachMul_0, vEachMul_1, vEachMul_2, vEachMul_3, unit1, fm0, fm0', fm1, fm1', fa0, fa0', cz, c0_0, c0_1, c0_2, c0_3, c0_4, c0_5, c0_6, c0_7, c0_8, c0_9, c0_10, c0_11, c0_12, c0_13, c0_14, c0_15, c1_0, c1_1, c1_2, c1_3, beq_self_eq_true, Bool.and_self, cond_true]

end Go.Proofs.Ythgjacfikicgnaa
