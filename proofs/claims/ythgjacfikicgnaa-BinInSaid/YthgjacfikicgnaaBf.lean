/-
  Tiles and boxes: the law of a picture's tiles.
-/
import Derived.Test.YthgjacfikicgnaaBe
namespace Go.Proofs.Ythgjacfikicgnaa
open Go Go.RowKit Go.Proofs.Ythgjacfikicgnaa.V

theorem in_meet (a0 a1 a2 a3 b0 b1 b2 b3 x y : Int) : l16in_0 (bMeet_0 a0 a1 a2 a3 b0 b1 b2 b3) (bMeet_1 a0 a1 a2 a3 b0 b1 b2 b3) (bMeet_2 a0 a1 a2 a3 b0 b1 b2 b3) (bMeet_3 a0 a1 a2 a3 b0 b1 b2 b3) x y = (l16in_0 a0 a1 a2 a3 x y && l16in_0 b0 b1 b2 b3 x y) := by
  rw [Bool.eq_iff_iff, Bool.and_eq_true, in_iff, in_iff, in_iff]
  unfold bMeet_0 bMeet_1 bMeet_2 bMeet_3 bMeet_s4
  have e0 : bMeet_s0 a2 b2 ≤ a2 ∧ bMeet_s0 a2 b2 ≤ b2 ∧ (bMeet_s0 a2 b2 = a2 ∨ bMeet_s0 a2 b2 = b2) := by unfold bMeet_s0; split <;> omega
  have e1 : a0 ≤ bMeet_s1 a0 b0 ∧ b0 ≤ bMeet_s1 a0 b0 ∧ (bMeet_s1 a0 b0 = a0 ∨ bMeet_s1 a0 b0 = b0) := by unfold bMeet_s1; split <;> omega
  have e2 : bMeet_s2 a3 b3 ≤ a3 ∧ bMeet_s2 a3 b3 ≤ b3 ∧ (bMeet_s2 a3 b3 = a3 ∨ bMeet_s2 a3 b3 = b3) := by unfold bMeet_s2; split <;> omega
  have e3 : a1 ≤ bMeet_s3 a1 b1 ∧ b1 ≤ bMeet_s3 a1 b1 ∧ (bMeet_s3 a1 b1 = a1 ∨ bMeet_s3 a1 b1 = b1) := by unfold bMeet_s3; split <;> omega
  by_cases q1 : bMeet_s0 a2 b2 ≤ bMeet_s1 a0 b0
  · simp only [q1, decide_true, cond_true]; omega
  · by_cases q2 : bMeet_s2 a3 b3 ≤ bMeet_s3 a1 b1
    · simp only [q1, q2, decide_true, decide_false, cond_true, cond_false]; omega
    · simp only [q1, q2, decide_false, cond_false]; omega

theorem chk (a0 a1 a2 a3 b0 b1 b2 b3 x y : Int) : (bif l16in_0 a0 a1 a2 a3 x y then !(l16in_0 (bMeet_0 a0 a1 a2 a3 b0 b1 b2 b3) (bMeet_1 a0 a1 a2 a3 b0 b1 b2 b3) (bMeet_2 a0 a1 a2 a3 b0 b1 b2 b3) (bMeet_3 a0 a1 a2 a3 b0 b1 b2 b3) x y == l16in_0 b0 b1 b2 b3 x y)
    else !(l16in_0 (bMeet_0 a0 a1 a2 a3 b0 b1 b2 b3) (bMeet_1 a0 a1 a2 a3 b0 b1 b2 b3) (bMeet_2 a0 a1 a2 a3 b0 b1 b2 b3) (bMeet_3 a0 a1 a2 a3 b0 b1 b2 b3) x y == false)) = false := by
  rw [in_meet]
  cases l16in_0 a0 a1 a2 a3 x y <;> cases l16in_0 b0 b1 b2 b3 x y <;> rfl

theorem meet_shape (a0 a1 a2 a3 b0 b1 b2 b3 : Int) : (bif bMeet_0 a0 a1 a2 a3 b0 b1 b2 b3 == 0 && (bMeet_1 a0 a1 a2 a3 b0 b1 b2 b3 == 0 && (bMeet_2 a0 a1 a2 a3 b0 b1 b2 b3 == 0 && bMeet_3 a0 a1 a2 a3 b0 b1 b2 b3 == 0)) then true
    else bif decide (bMeet_0 a0 a1 a2 a3 b0 b1 b2 b3 < bMeet_2 a0 a1 a2 a3 b0 b1 b2 b3) then decide (bMeet_1 a0 a1 a2 a3 b0 b1 b2 b3 < bMeet_3 a0 a1 a2 a3 b0 b1 b2 b3) else false) = true := by
  unfold bMeet_0 bMeet_1 bMeet_2 bMeet_3
  by_cases q1 : bMeet_s0 a2 b2 ≤ bMeet_s1 a0 b0
  · simp [bMeet_s4, q1]
  · by_cases q2 : bMeet_s2 a3 b3 ≤ bMeet_s3 a1 b1
    · simp [bMeet_s4, q1, q2]
    · have r1 : bMeet_s1 a0 b0 < bMeet_s0 a2 b2 := by omega
      have r2 : bMeet_s3 a1 b1 < bMeet_s2 a3 b3 := by omega
      simp [bMeet_s4, q1, q2, r1, r2]

end Go.Proofs.Ythgjacfikicgnaa
