/-
  Plain maths of the law of layer 1 on quotients.
-/
import Derived.Test.YthgjacfikicgnaaLi
import Derived.Test.YthgjacfikicgnaaLn
namespace Go.Proofs.Ythgjacfikicgnaa
open Go Go.Proofs.Ythgjacfikicgnaa.K
set_option linter.unusedVariables false

theorem sh2 (n : Int) : Int.fdiv n (2 ^ min (Int.toNat 2) (IntKind.bits .i64)) = n / 4 := by
  have : (2 : Int) ^ min (Int.toNat 2) (IntKind.bits .i64) = 4 := by decide
  rw [this, Int.fdiv_eq_ediv_of_nonneg _ (by omega)]

theorem quo_one (x y : Int) (h1 : -9223372036854775808 ≤ x) (h2 : x ≤ 9223372036854775807) (h3 : -9223372036854775808 ≤ y) (h4 : y ≤ 9223372036854775807) :
    (rClamp y ≠ 0 → fDiv x y = rClamp (rFloor (IntKind.wrap .i64 (rClamp x * 65536)) (rClamp y))) ∧ (rClamp y = 0 → fDiv x y = if rClamp x > 0 then 2147483647 else if rClamp x < 0 then -2147483647 else 0) ∧ fWhole x = rFloor (rClamp x) 65536 ∧ fFloor (x / 4) (y / 4) = rFloor (x / 4) (y / 4) ∧
      fOf x = rClamp (IntKind.wrap .i64 ((if 65536 < if -65536 > x then -65536 else x then 65536 else if -65536 > x then -65536 else x) * 65536)) := by
  have cx1 := clamp_lo x; have cx2 := clamp_hi x; have cy1 := clamp_lo y; have cy2 := clamp_hi y
  rw [rClamp_eq x, rClamp_eq y]
  refine ⟨fun hy => ?_, fun hy => ?_, ?_, ?_, ?_⟩
  · rw [fDiv_eq, if_neg hy, rClamp_eq, w64_in (by omega) (by omega), rFloor_eq (by omega) (by omega) (by omega) (by omega)]
  · rw [fDiv_eq, if_pos hy]
  · rw [fWhole_eq, rFloor_eq (by omega) (by omega) (by omega) (by omega), Int.fdiv_eq_ediv_of_nonneg _ (by omega)]
  · rw [fFloor_eq (by omega) (by omega), rFloor_eq (by omega) (by omega) (by omega) (by omega)]
  · rw [fOf_eq, rClamp_eq, mx_eq, mn_eq]
    have e : min (max x (-65536)) 65536 = max (min x 65536) (-65536) := by omega
    rw [e, w64_in (by omega) (by omega)]

theorem FixQuotients_true (x0 : Int) (a0 : IntKind.min .i64 ≤ x0) (b0 : x0 ≤ IntKind.max .i64) (x1 : Int) (a1 : IntKind.min .i64 ≤ x1) (b1 : x1 ≤ IntKind.max .i64) (x2 : Int) (a2 : IntKind.min .i32 ≤ x2) (b2 : x2 ≤ IntKind.max .i32) (x3 : Int) (a3 : IntKind.min .i32 ≤ x3) (b3 : x3 ≤ IntKind.max .i32) :
    lFixQuotients x0 x1 x2 x3 = true := by
  rw [min_i32] at a2 a3
  rw [max_i32] at b2 b3
  rw [min_i64] at a0 a1
  rw [max_i64] at b0 b1
  unfold lFixQuotients
  simp only [sh2]
  rw [w64_in (n := x2) (by omega) (by omega), w64_in (n := x3) (by omega) (by omega)]
  obtain ⟨p1, p2, p3, p4, p5⟩ := quo_one x0 x1 (by omega) (by omega) (by omega) (by omega)
  obtain ⟨q1, q2, q3, q4, q5⟩ := quo_one x2 x3 (by omega) (by omega) (by omega) (by omega)
  simp only [p3, p4, p5, q3, q4, q5, bne_self_eq_false, cond_false]
  have f1 : ∀ b : Bool, b = true → (!b) = false := fun b h => by rw [h]; rfl
  have one : ∀ x y : Int, (rClamp y ≠ 0 → fDiv x y = rClamp (rFloor (IntKind.wrap .i64 (rClamp x * 65536)) (rClamp y))) → (rClamp y = 0 → fDiv x y = if rClamp x > 0 then 2147483647 else if rClamp x < 0 then -2147483647 else 0) → ∀ X : Bool, X = true →
      (bif rClamp y != 0 then (bif fDiv x y != rClamp (rFloor (IntKind.wrap .i64 (rClamp x * 65536)) (rClamp y)) then false else X) else (bif decide (rClamp x > 0) then (bif fDiv x y != 2147483647 then false else X) else (bif decide (rClamp x < 0) then (bif fDiv x y != -2147483647 then false else X) else (bif fDiv x y != 0 then false else X)))) = true := by
    intro x y h1 h2 X hX
    subst hX
    by_cases hy : rClamp y = 0
    · have e := h2 hy
      rw [e]
      have g : (rClamp y != 0) = false := by simp [hy]
      rw [g, cond_false]
      by_cases k1 : rClamp x > 0
      · simp [k1]
      · by_cases k2 : rClamp x < 0 <;> simp [k1, k2]
    · have e := h1 hy
      have g : (rClamp y != 0) = true := by simp [hy]
      rw [g, cond_true, e]
      simp
  have Y := one x2 x3 q1 q2 true rfl
  have Z := one x0 x1 p1 p2 _ Y
  exact Z

theorem w64_bd (n : Int) : -9223372036854775808 ≤ IntKind.wrap .i64 n ∧ IntKind.wrap .i64 n ≤ 9223372036854775807 := by
  rw [w64]; split <;> omega

theorem fl_need {b : Int} (h1 : -9223372036854775807 ≤ b) (h2 : b ≤ 9223372036854775807) : (b == 0) = false → decide (b < 0) = true → decide (IntKind.wrap .i64 (0 - b) < 0) = false := by
  intro _ hb
  have hb' := of_decide_eq_true hb
  rw [w64_in (by omega) (by omega)]
  simp; omega

theorem needC (y : Int) : (rClamp y == 0) = false → decide (rClamp y < 0) = true → decide (IntKind.wrap .i64 (0 - rClamp y) < 0) = false :=
  fl_need (by rw [rClamp_eq]; have := clamp_lo y; omega) (by rw [rClamp_eq]; have := clamp_hi y; omega)

theorem needQ {x : Int} (h1 : -9223372036854775808 ≤ x) (h2 : x ≤ 9223372036854775807) : (Int.fdiv x (2 ^ min (Int.toNat 2) (IntKind.bits .i64)) == 0) = false → decide (Int.fdiv x (2 ^ min (Int.toNat 2) (IntKind.bits .i64)) < 0) = true →
    decide (IntKind.wrap .i64 (0 - Int.fdiv x (2 ^ min (Int.toNat 2) (IntKind.bits .i64))) < 0) = false := by
  rw [sh2]
  exact fl_need (by omega) (by omega)

theorem need65 : ((65536 : Int) == 0) = false → decide ((65536 : Int) < 0) = true → decide (IntKind.wrap .i64 (0 - 65536) < 0) = false :=
  fl_need (by omega) (by omega)

theorem FixQuotients_prem (x0 : Int) (x1 : Int) (h1 : -9223372036854775808 ≤ x1) (h2 : x1 ≤ 9223372036854775807) (x2 : Int) (x3 : Int) (ht : lFixQuotients x0 x1 x2 x3 = true) : Alls (lFixQuotients_o x0 x1 x2 x3) := by
  unfold lFixQuotients_o
  simp only [Alls]
  refine ⟨?_, ?_, ?_, ?_, ?_, ?_, ?_, ?_, ?_, ?_, ?_, ?_, ?_, ?_, ?_, ?_, ?_, ?_, ?_, ?_, ?_, ?_, ?_, ?_, ?_, ?_, ?_, ?_, ?_, ?_, ?_, ?_, ?_, ?_, ?_, ?_, ?_, ?_, ?_, ?_, ?_, ?_, ?_, ?_, ?_, ht, True.intro⟩ <;> intros
  all_goals refine fl_need ?_ ?_ (by assumption) (by assumption)
  all_goals have hw := w64_bd x3
  all_goals have c1 := clamp_lo x1
  all_goals have c2 := clamp_hi x1
  all_goals have c3 := clamp_lo (IntKind.wrap .i64 x3)
  all_goals have c4 := clamp_hi (IntKind.wrap .i64 x3)
  all_goals first
    | (rw [rClamp_eq]; omega)
    | (rw [sh2]; omega)
    | omega

end Go.Proofs.Ythgjacfikicgnaa
