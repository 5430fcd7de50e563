/-
  Points on the picture: the program's and the reference's are alike.
-/
import Derived.Test.YtbdmaepooahplaaCj
import Derived.Test.YtbdmaepooahplaaGb
namespace Go.Proofs.Ytbdmaepooahplaa
open Go Go.RowKit Go.Proofs.Ytbdmaepooahplaa.V
set_option linter.unusedVariables false
set_option linter.unusedSectionVars false

theorem fw16 (x : Int) : fWithin_0 x 16384 = r12bound_0 x (-16384) 16384 := by
  have e : fWithin_s1 16384 = -16384 := by unfold fWithin_s1; rw [w64_in (by omega) (by omega)]; omega
  unfold fWithin_0 fWithin_s0 r12bound_0
  rw [e]
  by_cases h : x < -16384
  · rw [decide_eq_true h]
    rw [if_neg (show ¬ 16384 < x by omega), if_pos h]; rfl
  · rw [decide_eq_false h]
    by_cases g : 16384 < x
    · rw [decide_eq_true g, if_pos g]; rfl
    · rw [decide_eq_false g, if_neg g, if_neg h]; rfl

theorem sz1 {w : Int} (h : 1 ≤ w ∧ w ≤ 64) : sOf_s1 w = w := by
  unfold sOf_s1 sOf_s0
  rw [if_neg (show ¬ w < 1 by omega), if_neg (by omega)]
theorem sz4 {w : Int} (h : 1 ≤ w ∧ w ≤ 64) : sOf_s4 w = w := by
  unfold sOf_s4 sOf_s3
  rw [if_neg (show ¬ w < 1 by omega), if_neg (by omega)]
theorem far {d : Int} (hd : Wn d) (h : 256 ≤ d) : sOf_s2 d = d := by
  unfold sOf_s2
  rw [fwi, wi_id hd, if_neg (by omega)]

theorem mulw_bd {x w : Int} (hx : Wn x) (h : 1 ≤ w ∧ w ≤ 64) : -268435456 ≤ x * w ∧ x * w ≤ 268435456 := by
  unfold Wn at hx
  have h1 : x.natAbs * w.natAbs ≤ 4194304 * 64 := Nat.mul_le_mul (by omega) (by omega)
  rw [← Int.natAbs_mul] at h1
  omega
theorem divw_bd {n d : Int} (h : 256 ≤ d) (n0 : -300000000000 ≤ n) (n1 : n ≤ 300000000000) : -300000000000 ≤ n / d ∧ n / d ≤ 300000000000 := by
  have h1 := fl_ge (a := n) (b := d) (by omega)
  have h2 := fl_lt (a := n) (b := d) (by omega)
  constructor
  · rw [Int.le_ediv_iff_mul_le (by omega)]
    have : (-300000000000) * d ≤ (-300000000000) * 1 := Int.mul_le_mul_of_nonpos_left (by omega) (by omega)
    omega
  · have : n / d < 300000000000 + 1 := by
      apply Int.ediv_lt_of_lt_mul (by omega)
      have : (300000000000 + 1) * 1 ≤ (300000000000 + 1) * d := Int.mul_le_mul_of_nonneg_left (by omega) (by omega)
      omega
    omega

theorem of_0 {x d w : Int} (hx : Wn x) (hd : Wn d) (h : 256 ≤ d) (hw : 1 ≤ w ∧ w ≤ 64) : sOf_0 x d w = r12Point_0 x d w := by
  have hm := mulw_bd hx hw
  unfold sOf_0 r12Point_0 r12Point_s0
  rw [fwi, wi_id hx, sz1 hw, far hd h, fw16, w64_in (n := x * w) (by omega) (by omega), w64_in (n := x * w * 8) (by omega) (by omega), floor_eq (by omega) (by omega) (by omega), rfloor_eq (by omega) (by unfold Wn at hd; omega) (by omega) (by omega), Int.mul_comm w 8]
theorem of_1 {x d w : Int} (hx : Wn x) (hd : Wn d) (h : 256 ≤ d) (hw : 1 ≤ w ∧ w ≤ 64) : sOf_1 x d w = r12Point_1 x d w := by
  have hm := mulw_bd hx hw
  unfold sOf_1 r12Point_1 r12Point_s1
  rw [fwi, wi_id hx, sz4 hw, far hd h, fw16, w64_in (n := x * w) (by omega) (by omega), w64_in (n := x * w * 8) (by omega) (by omega), floor_eq (by omega) (by omega) (by omega), rfloor_eq (by omega) (by unfold Wn at hd; omega) (by omega) (by omega), Int.mul_comm w 8]
theorem of_2 {x d : Int} (hx : Wn x) (hd : Wn d) (h : 256 ≤ d) : sOf_2 x d = r12Point_2 x d := by
  have hx' := hx
  unfold Wn at hx'
  unfold sOf_2 sOf_s7 sOf_s5 r12Point_2 r12Point_s2 r12bound_0
  rw [fwi, wi_id hx, far hd h, w64_in (n := x * 65535) (by omega) (by omega), floor_eq (by omega) (by omega) (by omega), rfloor_eq (by omega) (by unfold Wn at hd; omega) (by omega) (by omega)]
  by_cases g : x * 65535 / d < 0
  · rw [if_pos g, decide_eq_true g, if_neg (by omega)]; rfl
  · rw [if_neg g, decide_eq_false g]
    by_cases k : 65535 < x * 65535 / d
    · rw [if_pos k, decide_eq_true k]; rfl
    · rw [if_neg k, decide_eq_false k]; rfl

end Go.Proofs.Ytbdmaepooahplaa
