/-
  Plain maths of the law of layer 2 on pairs of vectors.
-/
import Derived.Test.YthgjacfikicgnaaLx
import Derived.Test.YthgjacfikicgnaaLw
import Derived.Test.YthgjacfikicgnaaLuD
namespace Go.Proofs.Ythgjacfikicgnaa
open Go Go.Proofs.Ythgjacfikicgnaa.K
set_option linter.unusedVariables false

theorem vp1 (a b : Int) : (fAdd a b != rClamp (IntKind.wrap .i64 (rClamp a + rClamp b))) = false := by
  have h1 := clamp_lo a; have h2 := clamp_hi a; have h3 := clamp_lo b; have h4 := clamp_hi b
  rw [fAdd_eq, rClamp_eq, rClamp_eq, rClamp_eq, w64_in (by omega) (by omega)]; simp
theorem vp2 (a b : Int) : (fSub a b != rClamp (IntKind.wrap .i64 (rClamp a - rClamp b))) = false := by
  have h1 := clamp_lo a; have h2 := clamp_hi a; have h3 := clamp_lo b; have h4 := clamp_hi b
  rw [fSub_eq, rClamp_eq, rClamp_eq, rClamp_eq, w64_in (by omega) (by omega)]; simp
theorem vp3 (a b : Int) : (fMul a b != rMul (rClamp a) (rClamp b)) = false := by
  rw [fMul_eq, rMul_eq, rClamp_eq, rClamp_eq, clamp_clamp, clamp_clamp]; simp
theorem vp4 (a b : Int) : (vMin1 a b != if rClamp b < rClamp a then rClamp b else rClamp a) = false := by
  rw [vMin1_eq, rClamp_eq, rClamp_eq, mn_eq]; simp
theorem vp5 (a b : Int) : (vMax1 a b != if rClamp b > rClamp a then rClamp b else rClamp a) = false := by
  rw [vMax1_eq, rClamp_eq, rClamp_eq, mx_eq]; simp
theorem vp6 (a b : Int) : (fMul a b != rMul (rClamp a) b) = false := by
  rw [fMul_eq, rMul_eq, rClamp_eq, clamp_clamp]; simp
theorem vp7 {m : Int} (h0 : 0 ≤ m) (h1 : m ≤ 9223372036854775807) (a : Int) : (fWithin a m != if (if 0 > m then 0 else m) < if IntKind.wrap .i64 (0 - if 0 > m then 0 else m) > a then IntKind.wrap .i64 (0 - if 0 > m then 0 else m) else a then if 0 > m then 0 else m else if IntKind.wrap .i64 (0 - if 0 > m then 0 else m) > a then IntKind.wrap .i64 (0 - if 0 > m then 0 else m) else a) = false := by
  have e : (if 0 > m then 0 else m) = m := by rw [if_neg (by omega)]
  rw [e]
  unfold fWithin
  rw [w64_in (n := 0 - m) (by omega) (by omega)]
  simp only [bne_eq_false_iff_eq]
  (repeat' split) <;> omega

theorem VecPairs_true (x0_0 : Int) (a0_0 : IntKind.min .i64 ≤ x0_0) (b0_0 : x0_0 ≤ IntKind.max .i64) (x0_1 : Int) (a0_1 : IntKind.min .i64 ≤ x0_1) (b0_1 : x0_1 ≤ IntKind.max .i64) (x0_2 : Int) (a0_2 : IntKind.min .i64 ≤ x0_2) (b0_2 : x0_2 ≤ IntKind.max .i64) (x0_3 : Int) (a0_3 : IntKind.min .i64 ≤ x0_3) (b0_3 : x0_3 ≤ IntKind.max .i64) (x1_0 : Int) (a1_0 : IntKind.min .i64 ≤ x1_0) (b1_0 : x1_0 ≤ IntKind.max .i64) (x1_1 : Int) (a1_1 : IntKind.min .i64 ≤ x1_1) (b1_1 : x1_1 ≤ IntKind.max .i64) (x1_2 : Int) (a1_2 : IntKind.min .i64 ≤ x1_2) (b1_2 : x1_2 ≤ IntKind.max .i64) (x1_3 : Int) (a1_3 : IntKind.min .i64 ≤ x1_3) (b1_3 : x1_3 ≤ IntKind.max .i64) (x2 : Int) (a2 : IntKind.min .i64 ≤ x2) (b2 : x2 ≤ IntKind.max .i64) (x3 : Int) (a3 : IntKind.min .i64 ≤ x3) (b3 : x3 ≤ IntKind.max .i64) : lVecPairs x0_0 x0_1 x0_2 x0_3 x1_0 x1_1 x1_2 x1_3 x2 x3 = true := by
  rw [max_i64] at b3
  unfold lVecPairs
  have hd : (vDot x0_0 x0_1 x0_2 x0_3 x1_0 x1_1 x1_2 x1_3 == rDot0 x0_0 x0_1 x0_2 x0_3 x1_0 x1_1 x1_2 x1_3) = true := by rw [dot_eq]; simp
  simp only [vMin_0, vMin_1, vMin_2, vMin_3, vMax_0, vMax_1, vMax_2, vMax_3, vAdd_0, vAdd_1, vAdd_2, vAdd_3, vSub_0, vSub_1, vSub_2, vSub_3, vEachMin_0, vEachMin_1, vEachMin_2, vEachMin_3, vEachMax_0, vEachMax_1, vEachMax_2, vEachMax_3,
    vEachAdd_0, vEachAdd_1, vEachAdd_2, vEachAdd_3, vEachSub_0, vEachSub_1, vEachSub_2, vEachSub_3, vWithin_0, vWithin_1, vWithin_2, vWithin_3, vScale_0, vScale_1, vScale_2, vScale_3, vMul_0, vMul_1, vMul_2, vMul_3, vEachMul_0, vEachMul_1, vEachMul_2, vEachMul_3]
  rcases Int.lt_or_le x3 0 with h | h
  · have hn : decide (x3 ≥ 0) = false := by simp; omega
    rw [hn]
    simp only [vp1, vp2, vp3, vp4, vp5, vp6, hd, cond_false]
  · have hn : decide (x3 ≥ 0) = true := by simp; omega
    rw [hn]
    simp only [vp1, vp2, vp3, vp4, vp5, vp6, vp7 h b3, hd, cond_false, cond_true]

end Go.Proofs.Ythgjacfikicgnaa
