/-
  Plain maths of the laws of layer 1 (first part).
-/
import Derived.Test.YthgjacfikicgnaaNb
import Derived.Test.YthgjacfikicgnaaLe
namespace Go.Proofs.Ythgjacfikicgnaa
open Go Go.Proofs.Ythgjacfikicgnaa.K
set_option linter.unusedVariables false

theorem FixWithin_true (x0 : Int) (a0 : IntKind.min .i64 ≤ x0) (b0 : x0 ≤ IntKind.max .i64) (x1 : Int) (a1 : IntKind.min .i64 ≤ x1) (b1 : x1 ≤ IntKind.max .i64) : lFixWithin x0 x1 = true := by
  rw [min_i64] at a0 a1
  rw [max_i64] at b0 b1
  unfold lFixWithin fWithin
  simp only [mx_eq, mn_eq, cond_eq_ite, decide_eq_true_eq, beq_iff_eq]
  by_cases h : x1 < -1152921504606846976
  · rw [if_pos h]
  · rw [w64_in (n := 0 - x1) (by omega) (by omega)]
    repeat' split
    all_goals first | rfl | (exfalso; omega)

theorem ediv_mono {a b c : Int} (h : a ≤ b) (hc : 0 < c) : a / c ≤ b / c := Int.ediv_le_ediv hc h

theorem FixOrder_true (x0 : Int) (a0 : IntKind.min .i32 ≤ x0) (b0 : x0 ≤ IntKind.max .i32) (x1 : Int) (a1 : IntKind.min .i32 ≤ x1) (b1 : x1 ≤ IntKind.max .i32) (x2 : Int) (a2 : IntKind.min .i32 ≤ x2) (b2 : x2 ≤ IntKind.max .i32) : lFixOrder x0 x1 x2 = true := by
  rw [min_i32] at a0 a1 a2
  rw [max_i32] at b0 b1 b2
  unfold lFixOrder
  simp only [mx_eq, mn_eq]
  rw [w64_in (n := min x0 x1) (by omega) (by omega), w64_in (n := max x0 x1) (by omega) (by omega), w64_in (n := x2) (by omega) (by omega)]
  have hxy : min x0 x1 ≤ max x0 x1 := by omega
  have hx1 : -2147483648 ≤ min x0 x1 := by omega
  have hx2 : min x0 x1 ≤ 2147483647 := by omega
  generalize min x0 x1 = x at *
  generalize max x0 x1 = y at *
  generalize x2 = z at *
  have cxy := clamp_mono hxy
  have cl := fun n => clamp_lo n
  have ch := fun n => clamp_hi n
  have e1 : fAdd x z ≤ fAdd y z := by rw [fAdd_eq, fAdd_eq]; exact clamp_mono (by omega)
  have e2 : fSub z y ≤ fSub z x := by rw [fSub_eq, fSub_eq]; exact clamp_mono (by omega)
  have e3 : fAdd x z = fAdd z x := by rw [fAdd_eq, fAdd_eq, Int.add_comm]
  have e4 : fMul x z = fMul z x := by rw [fMul_eq, fMul_eq, Int.mul_comm]
  have e5 : ¬ z < 0 → fMul x z ≤ fMul y z := fun hz => by
    rw [fMul_eq, fMul_eq]
    refine clamp_mono (ediv_mono (Int.mul_le_mul_of_nonneg_right cxy ?_) (by omega))
    unfold clamp; omega
  have e6 : ¬ z ≤ 0 → fDiv x z ≤ fDiv y z := fun hz => by
    have hc : 0 < clamp z := by unfold clamp; omega
    rw [fDiv_eq, fDiv_eq, if_neg (by omega), if_neg (by omega)]
    refine clamp_mono ?_
    rw [Int.fdiv_eq_ediv_of_nonneg _ (by omega), Int.fdiv_eq_ediv_of_nonneg _ (by omega)]
    exact ediv_mono (by omega) hc
  have e7 : fMul x 65536 = fClamp x := by
    rw [fMul_eq, fClamp_eq, clamp_id (n := 65536) (by omega) (by omega), Int.mul_ediv_cancel _ (by omega)]
    exact clamp_id (cl x) (ch x)
  have e8 : fWhole (fOf (Int.fdiv x (2 ^ min (Int.toNat 16) (IntKind.bits .i64)))) = Int.fdiv x (2 ^ min (Int.toNat 16) (IntKind.bits .i64)) := by
    rw [sh16]
    have h1 : -32768 ≤ x / 65536 := by omega
    have h2 : x / 65536 ≤ 32767 := by omega
    rw [fOf_eq, fWhole_eq]
    generalize x / 65536 = q at *
    have e : max (min q 65536) (-65536) * 65536 = q * 65536 := by congr 1; omega
    rw [e]
    unfold clamp
    omega
  simp only [cond_eq_ite, decide_eq_true_eq, beq_iff_eq, e2, e3, e4, e7, e8, if_true]
  repeat' split
  all_goals first | rfl | (exfalso; first | (rename_i h; exact h (e5 (by assumption))) | (rename_i h; exact h (e6 (by assumption))) | omega)

end Go.Proofs.Ythgjacfikicgnaa
