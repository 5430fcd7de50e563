/-
  Plain maths of the laws of layer 1 (second part).
-/
import Derived.Test.YthgjacfikicgnaaNb
import Derived.Test.YthgjacfikicgnaaLg
namespace Go.Proofs.Ythgjacfikicgnaa
open Go Go.Proofs.Ythgjacfikicgnaa.K
set_option linter.unusedVariables false

theorem pow_small : ∀ t : Nat, t < 16 → ((2 : Int) ^ t * 2 ^ (16 - t) = 65536 ∧ 1 ≤ (2 : Int) ^ t ∧ (2 : Int) ^ t ≤ 32768 ∧ 1 ≤ (2 : Int) ^ (16 - t)) := by decide

theorem pow_min {t : Int} (h0 : 0 ≤ t) (h1 : t < 16) : (2 : Int) ^ min (Int.toNat t) (IntKind.bits .i64) = 2 ^ t.toNat := by
  have : min (Int.toNat t) (IntKind.bits .i64) = t.toNat := by
    have : IntKind.bits .i64 = 64 := rfl
    omega
  rw [this]

theorem sh1 (n : Int) : Int.fdiv n (2 ^ min (Int.toNat 1) (IntKind.bits .i64)) = n / 2 := by
  have : (2 : Int) ^ min (Int.toNat 1) (IntKind.bits .i64) = 2 := by decide
  rw [this, Int.fdiv_eq_ediv_of_nonneg _ (by omega)]

theorem FixHalves_need (x2 : Int) (a2 : IntKind.min .u8 ≤ x2) (b2 : x2 ≤ IntKind.max .u8) : 0 ≤ IntKind.wrap .i64 (Int.tmod x2 16) := by
  rw [min_u8] at a2
  rw [max_u8] at b2
  rw [Int.tmod_eq_emod_of_nonneg a2, w64_in (by omega) (by omega)]
  omega

theorem FixHalves_true (x0 : Int) (a0 : IntKind.min .i32 ≤ x0) (b0 : x0 ≤ IntKind.max .i32) (x1 : Int) (a1 : IntKind.min .i32 ≤ x1) (b1 : x1 ≤ IntKind.max .i32) (x2 : Int) (a2 : IntKind.min .u8 ≤ x2) (b2 : x2 ≤ IntKind.max .u8) : lFixHalves x0 x1 x2 = true := by
  rw [min_i32] at a0 a1
  rw [max_i32] at b0 b1
  rw [min_u8] at a2
  rw [max_u8] at b2
  unfold lFixHalves
  rw [w64_in (n := x0) (by omega) (by omega), w64_in (n := x1) (by omega) (by omega)]
  have q0 : -536870912 ≤ Int.tdiv x0 4 ∧ Int.tdiv x0 4 ≤ 536870911 := by
    rcases Int.le_total 0 x0 with h | h
    · rw [Int.tdiv_eq_ediv_of_nonneg h]; omega
    · have : Int.tdiv x0 4 = -((-x0) / 4) := by rw [← Int.tdiv_eq_ediv_of_nonneg (by omega), Int.neg_tdiv]; omega
      omega
  have q1 : -536870912 ≤ Int.tdiv x1 4 ∧ Int.tdiv x1 4 ≤ 536870911 := by
    rcases Int.le_total 0 x1 with h | h
    · rw [Int.tdiv_eq_ediv_of_nonneg h]; omega
    · have : Int.tdiv x1 4 = -((-x1) / 4) := by rw [← Int.tdiv_eq_ediv_of_nonneg (by omega), Int.neg_tdiv]; omega
      omega
  rw [Int.tmod_eq_emod_of_nonneg a2, w64_in (n := x2 % 16) (by omega) (by omega)]
  rw [w64_in (n := Int.tdiv x0 4) (by omega) (by omega), w64_in (n := Int.tdiv x1 4) (by omega) (by omega)]
  have ht0 : 0 ≤ x2 % 16 := by omega
  have ht1 : x2 % 16 < 16 := by omega
  generalize Int.tdiv x0 4 = x at *
  generalize Int.tdiv x1 4 = y at *
  generalize x2 % 16 = t at *
  rw [pow_min ht0 ht1]
  obtain ⟨p1, p2, p3, p4⟩ := pow_small t.toNat (by omega)
  generalize (2 : Int) ^ t.toNat = p at *
  generalize (2 : Int) ^ (16 - t.toNat) = r at *
  have cx : clamp x = x := clamp_id (by omega) (by omega)
  have cy : clamp y = y := clamp_id (by omega) (by omega)
  have hp : (65536 : Int).fdiv p = r := by
    rw [Int.fdiv_eq_ediv_of_nonneg _ (by omega), ← p1, Int.mul_ediv_cancel_left _ (by omega)]
  have hr : r ≤ 65536 := by
    have := Int.mul_le_mul_of_nonneg_right p2 (show 0 ≤ r by omega)
    omega
  have e1 : fMul x 32768 = x / 2 := by
    rw [fMul_eq, cx, clamp_id (n := 32768) (by omega) (by omega), clamp_id (by omega) (by omega)]; omega
  have e2 : fMul x 131072 = 2 * x := by
    rw [fMul_eq, cx, clamp_id (n := 131072) (by omega) (by omega), clamp_id (by omega) (by omega)]; omega
  have e3 : fSub (fAdd x y) y = x := by
    rw [fSub_eq, fAdd_eq, cx, cy, clamp_id (n := x + y) (by omega) (by omega), clamp_id (n := x + y) (by omega) (by omega), clamp_id (by omega) (by omega)]; omega
  have e4 : fDiv x 131072 = x / 2 := by
    rw [fDiv_eq, cx, clamp_id (n := 131072) (by omega) (by omega), if_neg (by omega), Int.fdiv_eq_ediv_of_nonneg _ (by omega), clamp_id (by omega) (by omega)]; omega
  have hxp : x * r / 65536 = x / p := by
    rw [← p1]
    exact Int.mul_ediv_mul_of_pos_left x p (by omega)
  have bxp : -536870912 ≤ x / p ∧ x / p ≤ 536870911 := by
    have h1 := Int.mul_ediv_add_emod x p
    have h2 := Int.emod_nonneg x (show p ≠ 0 by omega)
    have h3 := Int.emod_lt_of_pos x (show 0 < p by omega)
    constructor
    · exact Int.le_trans (by omega) (Int.le_ediv_of_mul_le (by omega) (show -536870912 * p ≤ x by
        rcases Int.le_total 0 x with h | h
        · have : 0 ≤ 536870912 * p := Int.mul_nonneg (by omega) (by omega)
          omega
        · have : 536870912 * 1 ≤ 536870912 * p := Int.mul_le_mul_of_nonneg_left p2 (by omega)
          omega))
    · have := Int.ediv_le_self (b := p) (a := max x 0) (by omega)
      have h4 : x / p ≤ max x 0 / p := Int.ediv_le_ediv (by omega) (by omega)
      omega
  have e5 : fMul x r = x / p := by
    rw [fMul_eq, cx, clamp_id (n := r) (by omega) (by omega), hxp, clamp_id (by omega) (by omega)]
  have e6 : fFloor x (IntKind.wrap .i64 p) = x / p := by
    rw [w64_in (by omega) (by omega), fFloor_eq (by omega) (by omega), Int.fdiv_eq_ediv_of_nonneg _ (by omega)]
  have e7 : fClamp (fClamp x) = x := by rw [fClamp_eq, fClamp_eq, cx, cx]
  have e8 : x.fdiv p = x / p := Int.fdiv_eq_ediv_of_nonneg _ (by omega)
  rw [sh1, w64_in (n := 2 * x) (by omega) (by omega), hp, e8]
  simp [e1, e2, e3, e4, e5, e6, e7]

end Go.Proofs.Ythgjacfikicgnaa
