/-
  Where an edge crosses a plane, in plain numbers.
-/
import Derived.Test.YtbdmaepooahplaaCf
import Derived.Test.YtbdmaepooahplaaCb
namespace Go.Proofs.Ytbdmaepooahplaa
open Go Go.RowKit Go.Proofs.Ytbdmaepooahplaa.V
set_option linter.unusedVariables false
set_option linter.unusedSectionVars false

theorem crossB_eq {x y a b : Int} (a0 : 0 ≤ a) (a1 : a ≤ 40000000) (b0 : -40000000 ≤ b) (b1 : b < 0) : crossB_0 x y a b = btw (wi x) (wi y) a b := by
  have hx := wi_bd x
  have hy := wi_bd y
  have hm := big_mul (u := wi y - wi x) (a := a) (by omega) (by omega)
  unfold crossB_0
  rw [fwi, fwi, w64_in (n := wi y - wi x) (by omega) (by omega), w64_in (n := (wi y - wi x) * a) (by omega) (by omega), w64_in (n := a - b) (by omega) (by omega), floor_eq (by omega) (by omega) (by omega)]
  have := btw_in (x := wi x) (y := wi y) (lo := -4194304) (hi := 4194304) a0 b1 hx.1 hx.2 hy.1 hy.2
  unfold btw at this
  exact w64_in (by omega) (by omega)

/-- Where the edge from A to B crosses plane k. -/
theorem cross_eq {p0 p1 p2 p3 q0 q1 q2 q3 k : Int} (ha : 0 ≤ cInside_0 p0 p1 p2 p3 k) (hb : cInside_0 q0 q1 q2 q3 k < 0) (x y : Int) :
    (bif cCross_s0 p0 p1 p2 p3 q0 q1 q2 q3 k then x else crossB_0 x y (cInside_0 p0 p1 p2 p3 k) (cInside_0 q0 q1 q2 q3 k)) = btw (wi x) (wi y) (cInside_0 p0 p1 p2 p3 k) (cInside_0 q0 q1 q2 q3 k) := by
  have h : cCross_s0 p0 p1 p2 p3 q0 q1 q2 q3 k = false := by
    unfold cCross_s0
    rw [decide_eq_false (by omega), decide_eq_false (by omega)]; rfl
  have e1 := inside_eq p0 p1 p2 p3 k
  have e2 := inside_eq q0 q1 q2 q3 k
  have l1 := ins_bd (k := k) (wi_bd p0) (wi_bd p1) (wi_bd p2) (wi_bd p3)
  have l2 := ins_bd (k := k) (wi_bd q0) (wi_bd q1) (wi_bd q2) (wi_bd q3)
  rw [h]
  exact crossB_eq ha (by omega) (by omega) hb
theorem cross_raw {p0 p1 p2 p3 q0 q1 q2 q3 k : Int} (h : cInside_0 p0 p1 p2 p3 k < 0 ∨ 0 ≤ cInside_0 q0 q1 q2 q3 k) : cCross_s0 p0 p1 p2 p3 q0 q1 q2 q3 k = true := by
  unfold cCross_s0
  rcases h with h | h
  · rw [decide_eq_true h]; rfl
  · rw [decide_eq_true h]; cases decide (cInside_0 p0 p1 p2 p3 k < 0) <;> rfl

/-- A crossing is next to the plane. -/
theorem cross_small {p0 p1 p2 p3 q0 q1 q2 q3 k : Int} (ha : 0 ≤ ins p0 p1 p2 p3 k) (hb : ins q0 q1 q2 q3 k < 0) (hk : 0 ≤ k ∧ k ≤ 6) :
    -9 ≤ ins (btw p0 q0 (ins p0 p1 p2 p3 k) (ins q0 q1 q2 q3 k)) (btw p1 q1 (ins p0 p1 p2 p3 k) (ins q0 q1 q2 q3 k)) (btw p2 q2 (ins p0 p1 p2 p3 k) (ins q0 q1 q2 q3 k)) (btw p3 q3 (ins p0 p1 p2 p3 k) (ins q0 q1 q2 q3 k)) k ∧
    ins (btw p0 q0 (ins p0 p1 p2 p3 k) (ins q0 q1 q2 q3 k)) (btw p1 q1 (ins p0 p1 p2 p3 k) (ins q0 q1 q2 q3 k)) (btw p2 q2 (ins p0 p1 p2 p3 k) (ins q0 q1 q2 q3 k)) (btw p3 q3 (ins p0 p1 p2 p3 k) (ins q0 q1 q2 q3 k)) k ≤ 9 := by
  generalize ea : ins p0 p1 p2 p3 k = a at *
  generalize eb : ins q0 q1 q2 q3 k = b at *
  have hs : 0 < a - b := by omega
  have f : ∀ n : Int, (n / (a - b)) * (a - b) ≤ n ∧ n < (n / (a - b)) * (a - b) + (a - b) := fun n => ⟨fl_ge hs, fl_lt hs⟩
  have f0 := f ((q0 - p0) * a)
  have f1 := f ((q1 - p1) * a)
  have f2 := f ((q2 - p2) * a)
  have f3 := f ((q3 - p3) * a)
  unfold btw
  generalize (q0 - p0) * a / (a - b) = u0 at *
  generalize (q1 - p1) * a / (a - b) = u1 at *
  generalize (q2 - p2) * a / (a - b) = u2 at *
  generalize (q3 - p3) * a / (a - b) = u3 at *
  suffices h : -9 * (a - b) ≤ ins (p0 + u0) (p1 + u1) (p2 + u2) (p3 + u3) k * (a - b) ∧ ins (p0 + u0) (p1 + u1) (p2 + u2) (p3 + u3) k * (a - b) ≤ 9 * (a - b) from
    ⟨Int.le_of_mul_le_mul_right h.1 hs, Int.le_of_mul_le_mul_right h.2 hs⟩
  have hc : k = 0 ∨ k = 1 ∨ k = 2 ∨ k = 3 ∨ k = 4 ∨ k = 5 ∨ k = 6 := by omega
  rcases hc with rfl | rfl | rfl | rfl | rfl | rfl | rfl <;> simp [ins] at ea eb ⊢
  · have e : (p3 + u3 - 256) * (a - b) = u3 * (a - b) - (q3 - p3) * a := by subst ea; subst eb; grind
    omega
  · have e : (p2 + u2) * (a - b) = u2 * (a - b) - (q2 - p2) * a := by subst ea; subst eb; grind
    omega
  · have e : (p3 + u3 - (p2 + u2)) * (a - b) = (u3 * (a - b) - (q3 - p3) * a) - (u2 * (a - b) - (q2 - p2) * a) := by subst ea; subst eb; grind
    omega
  · have e : (8 * (p3 + u3) + (p0 + u0)) * (a - b) = 8 * (u3 * (a - b) - (q3 - p3) * a) + (u0 * (a - b) - (q0 - p0) * a) := by subst ea; subst eb; grind
    omega
  · have e : (8 * (p3 + u3) - (p0 + u0)) * (a - b) = 8 * (u3 * (a - b) - (q3 - p3) * a) - (u0 * (a - b) - (q0 - p0) * a) := by subst ea; subst eb; grind
    omega
  · have e : (8 * (p3 + u3) + (p1 + u1)) * (a - b) = 8 * (u3 * (a - b) - (q3 - p3) * a) + (u1 * (a - b) - (q1 - p1) * a) := by subst ea; subst eb; grind
    omega
  · have e : (8 * (p3 + u3) - (p1 + u1)) * (a - b) = 8 * (u3 * (a - b) - (q3 - p3) * a) - (u1 * (a - b) - (q1 - p1) * a) := by subst ea; subst eb; grind
    omega

theorem ie_ne (a b c d : Int) {k : Int} (l : 0 ≤ k) (g : k ≤ 6) : (cInside_0 a b c d k != r12In_0 (fWithin_0 a 4194304) (fWithin_0 b 4194304) (fWithin_0 c 4194304) (fWithin_0 d 4194304) k) = false := by
  rw [fwi, fwi, fwi, fwi, inside_eq, r_inside (wi_bd a) (wi_bd b) (wi_bd c) (wi_bd d) l g]
  simp
theorem io_ne (a b c d : Int) {k : Int} (h : k < 0 ∨ 6 < k) : (cInside_0 a b c d k != 0) = false := by
  have : ins (wi a) (wi b) (wi c) (wi d) k = 0 := by
    unfold ins
    rw [if_neg (by omega), if_neg (by omega), if_neg (by omega), if_neg (by omega), if_neg (by omega), if_neg (by omega), if_neg (by omega)]
  rw [inside_eq, this]; rfl

end Go.Proofs.Ytbdmaepooahplaa
