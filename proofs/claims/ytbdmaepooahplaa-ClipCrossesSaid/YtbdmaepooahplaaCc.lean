/-
  What can be seen of a triangle, in plain numbers: planes, and where they cross.
-/
import Derived.Test.YtbdmaepooahplaaCa8
import Derived.Test.YtbdmaepooahplaaNa
namespace Go.Proofs.Ytbdmaepooahplaa
open Go Go.RowKit Go.Proofs.Ytbdmaepooahplaa.V
set_option linter.unusedVariables false
set_option linter.unusedSectionVars false

def wi (x : Int) : Int := if 4194304 < x then 4194304 else if x < -4194304 then -4194304 else x
theorem wi_bd (x : Int) : -4194304 ≤ wi x ∧ wi x ≤ 4194304 := by unfold wi; split <;> (try split) <;> omega
theorem wi_id {x : Int} (h : -4194304 ≤ x ∧ x ≤ 4194304) : wi x = x := by unfold wi; split <;> (try split) <;> omega
theorem fwi (x : Int) : fWithin_0 x 4194304 = wi x := by
  have e : fWithin_s1 4194304 = -4194304 := by unfold fWithin_s1; rw [w64_in (by omega) (by omega)]; omega
  unfold fWithin_0 fWithin_s0 wi
  rw [e]
  split <;> split <;> (try split) <;> (try split) <;> omega

/-- How far on the right side of a plane. -/
def ins (p0 p1 p2 p3 k : Int) : Int :=
  if k = 0 then p3 - 256 else if k = 1 then p2 else if k = 2 then p3 - p2 else if k = 3 then 8 * p3 + p0 else if k = 4 then 8 * p3 - p0 else if k = 5 then 8 * p3 + p1 else if k = 6 then 8 * p3 - p1 else 0

def Wn (x : Int) : Prop := -4194304 ≤ x ∧ x ≤ 4194304

theorem ins_bd {p0 p1 p2 p3 k : Int} (h0 : Wn p0) (h1 : Wn p1) (h2 : Wn p2) (h3 : Wn p3) : -40000000 ≤ ins p0 p1 p2 p3 k ∧ ins p0 p1 p2 p3 k ≤ 40000000 := by
  unfold Wn at *
  unfold ins
  repeat' split
  all_goals omega

theorem inside_eq (a b c d k : Int) : cInside_0 a b c d k = ins (wi a) (wi b) (wi c) (wi d) k := by
  have h0 := wi_bd a
  have h1 := wi_bd b
  have h2 := wi_bd c
  have h3 := wi_bd d
  have e1 : IntKind.wrap .i64 (wi d - 256) = wi d - 256 := w64_in (by omega) (by omega)
  have e2 : IntKind.wrap .i64 (wi d - wi c) = wi d - wi c := w64_in (by omega) (by omega)
  have e3 : IntKind.wrap .i64 (8 * wi d) = 8 * wi d := w64_in (by omega) (by omega)
  have e4 : IntKind.wrap .i64 (8 * wi d + wi a) = 8 * wi d + wi a := w64_in (by omega) (by omega)
  have e5 : IntKind.wrap .i64 (8 * wi d - wi a) = 8 * wi d - wi a := w64_in (by omega) (by omega)
  have e6 : IntKind.wrap .i64 (8 * wi d + wi b) = 8 * wi d + wi b := w64_in (by omega) (by omega)
  have e7 : IntKind.wrap .i64 (8 * wi d - wi b) = 8 * wi d - wi b := w64_in (by omega) (by omega)
  unfold cInside_0 cInside_s0 ins
  rw [fwi, fwi, fwi, fwi, e1, e2, e3, e4, e5, e6, e7]
  by_cases k0 : k = 0
  · subst k0; simp
  by_cases k1 : k = 1
  · subst k1; simp
  by_cases k2 : k = 2
  · subst k2; simp
  by_cases k3 : k = 3
  · subst k3; simp
  by_cases k4 : k = 4
  · subst k4; simp
  by_cases k5 : k = 5
  · subst k5; simp
  by_cases k6 : k = 6
  · subst k6; simp
  have b0 : (k == 0) = false := beq_false_of_ne k0
  have b1 : (k == 1) = false := beq_false_of_ne k1
  have b2 : (k == 2) = false := beq_false_of_ne k2
  have b3 : (k == 3) = false := beq_false_of_ne k3
  have b4 : (k == 4) = false := beq_false_of_ne k4
  have b5 : (k == 5) = false := beq_false_of_ne k5
  have b6 : (k == 6) = false := beq_false_of_ne k6
  simp [b0, b1, b2, b3, b4, b5, b6, k0, k1, k2, k3, k4, k5, k6]

theorem r_inside {a b c d k : Int} (h0 : Wn a) (h1 : Wn b) (h2 : Wn c) (h3 : Wn d) (l : 0 ≤ k) (g : k ≤ 6) : r12In_0 a b c d k = ins a b c d k := by
  unfold Wn at *
  have e1 : IntKind.wrap .i64 (d - 256) = d - 256 := w64_in (by omega) (by omega)
  have e2 : IntKind.wrap .i64 (d - c) = d - c := w64_in (by omega) (by omega)
  have e3 : IntKind.wrap .i64 (8 * d) = 8 * d := w64_in (by omega) (by omega)
  have e4 : IntKind.wrap .i64 (8 * d + a) = 8 * d + a := w64_in (by omega) (by omega)
  have e5 : IntKind.wrap .i64 (8 * d + -a) = 8 * d - a := by rw [w64_in (by omega) (by omega)]; omega
  have e6 : IntKind.wrap .i64 (8 * d + b) = 8 * d + b := w64_in (by omega) (by omega)
  have e7 : IntKind.wrap .i64 (8 * d + -b) = 8 * d - b := by rw [w64_in (by omega) (by omega)]; omega
  have n0 : IntKind.wrap .i64 (0 - a) = -a := by rw [w64_in (by omega) (by omega)]; omega
  have n1 : IntKind.wrap .i64 (0 - b) = -b := by rw [w64_in (by omega) (by omega)]; omega
  have s3 : r12In_s1 a b c d 3 = a := rfl
  have s4 : r12In_s1 a b c d 4 = a := rfl
  have s5 : r12In_s1 a b c d 5 = b := rfl
  have s6 : r12In_s1 a b c d 6 = b := rfl
  have t3 : (Int.tmod 3 2 == 0) = false := by decide
  have t4 : (Int.tmod 4 2 == 0) = true := by decide
  have t5 : (Int.tmod 5 2 == 0) = false := by decide
  have t6 : (Int.tmod 6 2 == 0) = true := by decide
  have hc : k = 0 ∨ k = 1 ∨ k = 2 ∨ k = 3 ∨ k = 4 ∨ k = 5 ∨ k = 6 := by omega
  unfold r12In_0 ins
  rcases hc with rfl | rfl | rfl | rfl | rfl | rfl | rfl
  · rw [e1]; simp
  · simp
  · rw [e2]; simp
  · rw [s3, t3, e3]; simp [e4]
  · rw [s4, t4, e3, n0]; simp [e5]
  · rw [s5, t5, e3]; simp [e6]
  · rw [s6, t6, e3, n1]; simp [e7]

theorem r_inside_obs {k : Int} (l : 0 ≤ k) (g : k ≤ 6) (h0 : (!k == 0) = true) (h1 : (!k == 1) = true) (h2 : (!k == 2) = true) : (0 ≤ r12In_s0 k ∧ r12In_s0 k < 4) ∧ Int.toNat (r12In_s0 k) < 4 := by
  have k0 : k ≠ 0 := by simpa using h0
  have k1 : k ≠ 1 := by simpa using h1
  have k2 : k ≠ 2 := by simpa using h2
  have : r12In_s0 k = (k - 3) / 2 := by
    unfold r12In_s0
    rw [w64_in (n := k - 3) (by omega) (by omega), Int.tdiv_eq_ediv_of_nonneg (by omega)]
    exact w64_in (by omega) (by omega)
  rw [this]
  omega

/-! Where a plane is crossed. -/
theorem fl_ge {a b : Int} (h : 0 < b) : (a / b) * b ≤ a := Int.ediv_mul_le a (by omega)
theorem fl_lt {a b : Int} (h : 0 < b) : a < (a / b) * b + b := by
  have := Int.emod_add_mul_ediv a b
  have h2 := Int.emod_lt_of_pos a h
  rw [Int.mul_comm b] at this
  omega

/-- Between two numbers, by a share. -/
def btw (x y a b : Int) : Int := x + ((y - x) * a) / (a - b)

theorem btw_in {x y a b lo hi : Int} (ha : 0 ≤ a) (hb : b < 0) (x0 : lo ≤ x) (x1 : x ≤ hi) (y0 : lo ≤ y) (y1 : y ≤ hi) : lo ≤ btw x y a b ∧ btw x y a b ≤ hi := by
  have hs : 0 < a - b := by omega
  unfold btw
  constructor
  · suffices h : lo - x ≤ ((y - x) * a) / (a - b) by omega
    rw [Int.le_ediv_iff_mul_le hs]
    by_cases hyx : x ≤ y
    · have h1 : 0 ≤ (y - x) * a := Int.mul_nonneg (by omega) ha
      have h2 : (lo - x) * (a - b) ≤ 0 := Int.mul_nonpos_of_nonpos_of_nonneg (by omega) (by omega)
      omega
    · have h1 : (lo - x) * (a - b) ≤ (y - x) * (a - b) := Int.mul_le_mul_of_nonneg_right (by omega) (by omega)
      have h2 : (y - x) * (a - b) ≤ (y - x) * a := by
        have : (y - x) * (a - b) = (y - x) * a + (x - y) * b := by grind
        have h3 : (x - y) * b ≤ 0 := Int.mul_nonpos_of_nonneg_of_nonpos (by omega) (by omega)
        omega
      omega
  · suffices h : ((y - x) * a) / (a - b) < hi - x + 1 by omega
    apply Int.ediv_lt_of_lt_mul hs
    by_cases hyx : x ≤ y
    · have h1 : (y - x) * (a - b) ≤ (hi - x) * (a - b) := Int.mul_le_mul_of_nonneg_right (by omega) (by omega)
      have h2 : (y - x) * a ≤ (y - x) * (a - b) := by
        have : (y - x) * (a - b) = (y - x) * a + (x - y) * b := by grind
        have h3 : 0 ≤ (x - y) * b := by
          have := Int.mul_nonneg (show 0 ≤ y - x by omega) (show 0 ≤ -b by omega)
          have e : (y - x) * -b = (x - y) * b := by grind
          omega
        omega
      have h3 : (hi - x + 1) * (a - b) = (hi - x) * (a - b) + (a - b) := by grind
      omega
    · have h1 : (y - x) * a ≤ 0 := Int.mul_nonpos_of_nonpos_of_nonneg (by omega) ha
      have h2 : 0 < (hi - x + 1) * (a - b) := Int.mul_pos (by omega) hs
      omega

theorem big_mul {u a : Int} (h0 : -8388608 ≤ u ∧ u ≤ 8388608) (h1 : -40000000 ≤ a ∧ a ≤ 40000000) : -335544320000000 ≤ u * a ∧ u * a ≤ 335544320000000 := by
  have h : u.natAbs * a.natAbs ≤ 8388608 * 40000000 := Nat.mul_le_mul (by omega) (by omega)
  rw [← Int.natAbs_mul] at h
  omega

/-- A quotient, down, by what is above 0. -/
theorem floor_eq {n b : Int} (h : 0 < b) (n0 : -9223372036854775000 ≤ n) (n1 : n ≤ 9223372036854775000) : fFloor_0 n b = n / b := by
  unfold fFloor_0
  have h1 : (b == 0) = false := beq_false_of_ne (by omega)
  have h3 : decide (b < 0) = false := decide_eq_false (by omega)
  have hab : n.natAbs / b.natAbs ≤ n.natAbs := Nat.div_le_self _ _
  have hq : (Int.tdiv n b).natAbs ≤ n.natAbs := by rw [Int.natAbs_tdiv]; exact hab
  have w1 : IntKind.wrap .i64 (Int.tdiv n b) = Int.tdiv n b := w64_in (by omega) (by omega)
  have w2 : IntKind.wrap .i64 (Int.tdiv n b - 1) = Int.tdiv n b - 1 := w64_in (by omega) (by omega)
  rw [h1, h3, w1, w2]
  have hm := Int.tmod_add_mul_tdiv n b
  by_cases hn : 0 ≤ n
  · have h2 : decide (n < 0) = false := decide_eq_false (by omega)
    rw [h2, Int.tdiv_eq_ediv_of_nonneg hn]
    cases Int.tmod n b != 0 <;> rfl
  · have h2 : decide (n < 0) = true := decide_eq_true (by omega)
    rw [h2]
    have e := Int.emod_add_mul_ediv n b
    have e0 := Int.emod_nonneg n (show b ≠ 0 by omega)
    have e1 := Int.emod_lt_of_pos n h
    have tn : Int.tmod n b = -(Int.tmod (-n) b) := by rw [Int.neg_tmod, Int.neg_neg]
    have tp := Int.tmod_nonneg b (show 0 ≤ -n by omega)
    have tl := Int.tmod_lt_of_pos (-n) h
    have t0 : Int.tmod n b ≤ 0 := by omega
    have t1 : -b < Int.tmod n b := by omega
    by_cases hz : Int.tmod n b = 0
    · have : (Int.tmod n b != 0) = false := by simp [hz]
      rw [this]
      simp only [cond_false]
      have k : n = b * Int.tdiv n b := by omega
      rw [hz] at hm
      conv => rhs; rw [k]
      rw [Int.mul_ediv_cancel_left _ (by omega)]
    · have : (Int.tmod n b != 0) = true := by simp [hz]
      rw [this]
      simp only [cond_true]
      have k : b * (Int.tdiv n b) = n - Int.tmod n b := by omega
      have k2 : n / b = Int.tdiv n b - 1 := by
        have hb : n = (Int.tmod n b + b) + b * (Int.tdiv n b - 1) := by
          have : b * (Int.tdiv n b - 1) = b * Int.tdiv n b - b := by grind
          omega
        rw [hb, Int.add_mul_ediv_left _ _ (show b ≠ 0 by omega), Int.ediv_eq_zero_of_lt (by omega) (by omega)]
        rw [← hb]; omega
      rw [k2]; rfl

end Go.Proofs.Ytbdmaepooahplaa
