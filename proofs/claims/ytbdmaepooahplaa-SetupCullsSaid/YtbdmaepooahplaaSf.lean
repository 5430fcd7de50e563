/-
  Triangles on the picture in plain numbers: the other way round.
-/
import Derived.Test.YtbdmaepooahplaaSe
namespace Go.Proofs.Ytbdmaepooahplaa
open Go Go.RowKit Go.Proofs.Ytbdmaepooahplaa.V
set_option linter.unusedVariables false
set_option linter.unusedSectionVars false

theorem side_turn (a b c d e f : Int) : eSide_0 a b e f c d = - eSide_0 a b c d e f := by
  rw [side_eq, side_eq, sd_turn]

theorem mk_s2 (a b c d e f : Int) : sMake_s2 a b c d e f 0 = (eSide_0 a b c d e f == 0) ∧ sMake_s2 a b c d e f 1 = decide (eSide_0 a b c d e f ≤ 0) ∧ sMake_s2 a b c d e f 2 = decide (0 ≤ eSide_0 a b c d e f) := by
  unfold sMake_s2 sMake_s0 sMake_s1
  generalize eSide_0 a b c d e f = S
  rcases Int.lt_trichotomy S 0 with h | h | h
  · have h1 : (S == 0) = false := beq_false_of_ne (by omega)
    have h2 : ¬ 0 < S := by omega
    have h3 : S ≤ 0 := by omega
    have h4 : ¬ 0 ≤ S := by omega
    simp [h, h1, h2, h3, h4]
  · subst h; simp
  · have h1 : (S == 0) = false := beq_false_of_ne (by omega)
    have h2 : ¬ S < 0 := by omega
    have h3 : ¬ S ≤ 0 := by omega
    have h4 : 0 ≤ S := by omega
    simp [h, h1, h2, h3, h4]

theorem mk_24 (a b c d e f k : Int) : sMake_24 a b c d e f k = !sMake_s2 a b c d e f k := by
  unfold sMake_24
  cases sMake_s2 a b c d e f k <;> rfl

theorem s2_turn (a b c d e f : Int) : sMake_s2 a b e f c d 0 = sMake_s2 a b c d e f 0 := by
  rw [(mk_s2 ..).1, (mk_s2 ..).1, side_turn]
  generalize eSide_0 a b c d e f = S
  rw [Bool.eq_iff_iff]
  simp

theorem s0_turn {a b c d e f : Int} (h : sMake_s2 a b c d e f 0 = false) : sMake_s0 a b e f c d = !sMake_s0 a b c d e f := by
  rw [(mk_s2 ..).1] at h
  unfold sMake_s0
  rw [side_turn]
  generalize eSide_0 a b c d e f = S at *
  have : S ≠ 0 := by simpa using h
  by_cases h1 : S < 0
  · have : ¬ (-S < 0) := by omega
    simp [h1]; omega
  · have : -S < 0 := by omega
    simp [h1]; omega

theorem s8_ne (x : Int) : sMake_s8 x ≠ 0 := by unfold sMake_s8; split <;> omega
theorem s7_ne (a b c d e f g h : Int) : sMake_s7 a b c d e f g h ≠ 0 := by unfold sMake_s7; generalize (bif _ then _ else _ : Int) = z; split <;> omega
theorem s6_ne (a b c d e f g h : Int) : sMake_s6 a b c d e f g h ≠ 0 := by unfold sMake_s6; generalize (bif _ then _ else _ : Int) = z; split <;> omega

theorem mk_0 (x0_0 x0_1 x1_0 x1_1 x2_0 x2_1 : Int) : sMake_0 x0_0 x0_1 x1_0 x1_1 x2_0 x2_1 0 = sMake_0 x0_0 x0_1 x2_0 x2_1 x1_0 x1_1 0 := by
  unfold sMake_0
  rw [s2_turn x0_0 x0_1 x1_0 x1_1 x2_0 x2_1]
theorem mk_1 (x0_0 x0_1 x1_0 x1_1 x2_0 x2_1 : Int) : sMake_1 x0_0 x0_1 x1_0 x1_1 x2_0 x2_1 0 = sMake_1 x0_0 x0_1 x2_0 x2_1 x1_0 x1_1 0 := by
  unfold sMake_1
  rw [s2_turn x0_0 x0_1 x1_0 x1_1 x2_0 x2_1]
theorem mk_2 (x0_0 x0_1 x1_0 x1_1 x2_0 x2_1 : Int) : sMake_2 x0_0 x0_1 x1_0 x1_1 x2_0 x2_1 0 = sMake_2 x0_0 x0_1 x2_0 x2_1 x1_0 x1_1 0 := by
  unfold sMake_2
  rw [s2_turn x0_0 x0_1 x1_0 x1_1 x2_0 x2_1]
  cases h : sMake_s2 x0_0 x0_1 x1_0 x1_1 x2_0 x2_1 0
  · simp only [cond_false]
    rw [s0_turn h]
    cases sMake_s0 x0_0 x0_1 x1_0 x1_1 x2_0 x2_1 <;> rfl
  · simp only [cond_true]
theorem mk_3 (x0_0 x0_1 x1_0 x1_1 x2_0 x2_1 : Int) : sMake_3 x0_0 x0_1 x1_0 x1_1 x2_0 x2_1 0 = sMake_3 x0_0 x0_1 x2_0 x2_1 x1_0 x1_1 0 := by
  unfold sMake_3
  rw [s2_turn x0_0 x0_1 x1_0 x1_1 x2_0 x2_1]
  cases h : sMake_s2 x0_0 x0_1 x1_0 x1_1 x2_0 x2_1 0
  · simp only [cond_false]
    rw [s0_turn h]
    cases sMake_s0 x0_0 x0_1 x1_0 x1_1 x2_0 x2_1 <;> rfl
  · simp only [cond_true]
theorem mk_4 (x0_0 x0_1 x1_0 x1_1 x2_0 x2_1 : Int) : sMake_4 x0_0 x0_1 x1_0 x1_1 x2_0 x2_1 0 = sMake_4 x0_0 x0_1 x2_0 x2_1 x1_0 x1_1 0 := by
  unfold sMake_4
  rw [s2_turn x0_0 x0_1 x1_0 x1_1 x2_0 x2_1]
  cases h : sMake_s2 x0_0 x0_1 x1_0 x1_1 x2_0 x2_1 0
  · simp only [cond_false]
    rw [s0_turn h]
    cases sMake_s0 x0_0 x0_1 x1_0 x1_1 x2_0 x2_1 <;> rfl
  · simp only [cond_true]
theorem mk_5 (x0_0 x0_1 x1_0 x1_1 x2_0 x2_1 : Int) : sMake_5 x0_0 x0_1 x1_0 x1_1 x2_0 x2_1 0 = sMake_5 x0_0 x0_1 x2_0 x2_1 x1_0 x1_1 0 := by
  unfold sMake_5
  rw [s2_turn x0_0 x0_1 x1_0 x1_1 x2_0 x2_1]
  cases h : sMake_s2 x0_0 x0_1 x1_0 x1_1 x2_0 x2_1 0
  · simp only [cond_false]
    rw [s0_turn h]
    cases sMake_s0 x0_0 x0_1 x1_0 x1_1 x2_0 x2_1 <;> rfl
  · simp only [cond_true]
theorem mk_6 (x0_0 x0_1 x0_2 x1_0 x1_1 x2_0 x2_1 : Int) : sMake_6 x0_0 x0_1 x0_2 x1_0 x1_1 x2_0 x2_1 0 = sMake_6 x0_0 x0_1 x0_2 x2_0 x2_1 x1_0 x1_1 0 := by
  unfold sMake_6
  rw [s2_turn x0_0 x0_1 x1_0 x1_1 x2_0 x2_1]
theorem g_s4 {x0_0 x0_1 x1_0 x1_1 x1_2 x2_0 x2_1 x2_2 : Int} (h : sMake_s2 x0_0 x0_1 x1_0 x1_1 x2_0 x2_1 0 = false) : sMake_s4 x0_0 x0_1 x2_0 x2_1 x2_2 x1_0 x1_1 x1_2 = sMake_s4 x0_0 x0_1 x1_0 x1_1 x1_2 x2_0 x2_1 x2_2 := by
  unfold sMake_s4
  rw [s0_turn h]
  cases sMake_s0 x0_0 x0_1 x1_0 x1_1 x2_0 x2_1 <;> rfl
theorem mk_7 (x0_0 x0_1 x1_0 x1_1 x1_2 x2_0 x2_1 x2_2 : Int) : sMake_7 x0_0 x0_1 x1_0 x1_1 x1_2 x2_0 x2_1 x2_2 0 = sMake_7 x0_0 x0_1 x2_0 x2_1 x2_2 x1_0 x1_1 x1_2 0 := by
  unfold sMake_7
  rw [s2_turn x0_0 x0_1 x1_0 x1_1 x2_0 x2_1]
  cases h : sMake_s2 x0_0 x0_1 x1_0 x1_1 x2_0 x2_1 0
  · simp only [cond_false]
    rw [g_s4 h]
  · simp only [cond_true]
theorem g_s5 {x0_0 x0_1 x1_0 x1_1 x1_2 x2_0 x2_1 x2_2 : Int} (h : sMake_s2 x0_0 x0_1 x1_0 x1_1 x2_0 x2_1 0 = false) : sMake_s5 x0_0 x0_1 x2_0 x2_1 x2_2 x1_0 x1_1 x1_2 = sMake_s5 x0_0 x0_1 x1_0 x1_1 x1_2 x2_0 x2_1 x2_2 := by
  unfold sMake_s5
  rw [s0_turn h]
  cases sMake_s0 x0_0 x0_1 x1_0 x1_1 x2_0 x2_1 <;> rfl
theorem mk_8 (x0_0 x0_1 x1_0 x1_1 x1_2 x2_0 x2_1 x2_2 : Int) : sMake_8 x0_0 x0_1 x1_0 x1_1 x1_2 x2_0 x2_1 x2_2 0 = sMake_8 x0_0 x0_1 x2_0 x2_1 x2_2 x1_0 x1_1 x1_2 0 := by
  unfold sMake_8
  rw [s2_turn x0_0 x0_1 x1_0 x1_1 x2_0 x2_1]
  cases h : sMake_s2 x0_0 x0_1 x1_0 x1_1 x2_0 x2_1 0
  · simp only [cond_false]
    rw [g_s5 h]
  · simp only [cond_true]
theorem g_s6 {x0_0 x0_1 x1_0 x1_1 x1_3 x2_0 x2_1 x2_3 : Int} (h : sMake_s2 x0_0 x0_1 x1_0 x1_1 x2_0 x2_1 0 = false) : sMake_s6 x0_0 x0_1 x2_0 x2_1 x2_3 x1_0 x1_1 x1_3 = sMake_s6 x0_0 x0_1 x1_0 x1_1 x1_3 x2_0 x2_1 x2_3 := by
  unfold sMake_s6
  rw [s0_turn h]
  cases sMake_s0 x0_0 x0_1 x1_0 x1_1 x2_0 x2_1 <;> rfl
theorem g_s7 {x0_0 x0_1 x1_0 x1_1 x1_3 x2_0 x2_1 x2_3 : Int} (h : sMake_s2 x0_0 x0_1 x1_0 x1_1 x2_0 x2_1 0 = false) : sMake_s7 x0_0 x0_1 x2_0 x2_1 x2_3 x1_0 x1_1 x1_3 = sMake_s7 x0_0 x0_1 x1_0 x1_1 x1_3 x2_0 x2_1 x2_3 := by
  unfold sMake_s7
  rw [s0_turn h]
  cases sMake_s0 x0_0 x0_1 x1_0 x1_1 x2_0 x2_1 <;> rfl
theorem g_s11 {x0_0 x0_1 x0_3 x1_0 x1_1 x1_3 x2_0 x2_1 x2_3 : Int} (h : sMake_s2 x0_0 x0_1 x1_0 x1_1 x2_0 x2_1 0 = false) : sMake_s11 x0_0 x0_1 x0_3 x2_0 x2_1 x2_3 x1_0 x1_1 x1_3 = sMake_s11 x0_0 x0_1 x0_3 x1_0 x1_1 x1_3 x2_0 x2_1 x2_3 := by
  unfold sMake_s11
  rw [g_s7 h]
theorem g_s14 {x0_0 x0_1 x0_3 x1_0 x1_1 x1_3 x2_0 x2_1 x2_3 : Int} (h : sMake_s2 x0_0 x0_1 x1_0 x1_1 x2_0 x2_1 0 = false) : sMake_s14 x0_0 x0_1 x0_3 x2_0 x2_1 x2_3 x1_0 x1_1 x1_3 = sMake_s14 x0_0 x0_1 x0_3 x1_0 x1_1 x1_3 x2_0 x2_1 x2_3 := by
  unfold sMake_s14
  rw [g_s6 h, g_s11 h]
theorem g_s16 {x0_0 x0_1 x0_3 x1_0 x1_1 x1_3 x2_0 x2_1 x2_3 : Int} (h : sMake_s2 x0_0 x0_1 x1_0 x1_1 x2_0 x2_1 0 = false) : sMake_s16 x0_0 x0_1 x0_3 x2_0 x2_1 x2_3 x1_0 x1_1 x1_3 = sMake_s16 x0_0 x0_1 x0_3 x1_0 x1_1 x1_3 x2_0 x2_1 x2_3 := by
  unfold sMake_s16
  rw [g_s14 h]
theorem g_s17 {x0_0 x0_1 x0_3 x1_0 x1_1 x1_3 x2_0 x2_1 x2_3 : Int} (h : sMake_s2 x0_0 x0_1 x1_0 x1_1 x2_0 x2_1 0 = false) : sMake_s17 x0_0 x0_1 x0_3 x2_0 x2_1 x2_3 x1_0 x1_1 x1_3 = sMake_s17 x0_0 x0_1 x0_3 x1_0 x1_1 x1_3 x2_0 x2_1 x2_3 := by
  unfold sMake_s17
  rw [g_s16 h]
theorem mk_9 (x0_0 x0_1 x0_3 x1_0 x1_1 x1_3 x2_0 x2_1 x2_3 : Int) : sMake_9 x0_0 x0_1 x0_3 x1_0 x1_1 x1_3 x2_0 x2_1 x2_3 0 = sMake_9 x0_0 x0_1 x0_3 x2_0 x2_1 x2_3 x1_0 x1_1 x1_3 0 := by
  unfold sMake_9
  rw [s2_turn x0_0 x0_1 x1_0 x1_1 x2_0 x2_1]
  cases h : sMake_s2 x0_0 x0_1 x1_0 x1_1 x2_0 x2_1 0
  · simp only [cond_false]
    rw [g_s17 h]
  · simp only [cond_true]
theorem g_s19 {x0_0 x0_1 x0_3 x1_0 x1_1 x1_3 x2_0 x2_1 x2_3 : Int} (h : sMake_s2 x0_0 x0_1 x1_0 x1_1 x2_0 x2_1 0 = false) : sMake_s19 x0_0 x0_1 x0_3 x2_0 x2_1 x2_3 x1_0 x1_1 x1_3 = sMake_s19 x0_0 x0_1 x0_3 x1_0 x1_1 x1_3 x2_0 x2_1 x2_3 := by
  unfold sMake_s19
  rw [g_s7 h, g_s16 h]
theorem mk_10 (x0_0 x0_1 x0_3 x1_0 x1_1 x1_3 x2_0 x2_1 x2_3 : Int) : sMake_10 x0_0 x0_1 x0_3 x1_0 x1_1 x1_3 x2_0 x2_1 x2_3 0 = sMake_10 x0_0 x0_1 x0_3 x2_0 x2_1 x2_3 x1_0 x1_1 x1_3 0 := by
  unfold sMake_10
  rw [s2_turn x0_0 x0_1 x1_0 x1_1 x2_0 x2_1]
  cases h : sMake_s2 x0_0 x0_1 x1_0 x1_1 x2_0 x2_1 0
  · simp only [cond_false]
    rw [g_s19 h]
  · simp only [cond_true]
theorem g_s20 {x0_0 x0_1 x0_3 x1_0 x1_1 x1_3 x2_0 x2_1 x2_3 : Int} (h : sMake_s2 x0_0 x0_1 x1_0 x1_1 x2_0 x2_1 0 = false) : sMake_s20 x0_0 x0_1 x0_3 x2_0 x2_1 x2_3 x1_0 x1_1 x1_3 = sMake_s20 x0_0 x0_1 x0_3 x1_0 x1_1 x1_3 x2_0 x2_1 x2_3 := by
  unfold sMake_s20
  rw [g_s6 h, g_s16 h]
theorem mk_11 (x0_0 x0_1 x0_3 x1_0 x1_1 x1_3 x2_0 x2_1 x2_3 : Int) : sMake_11 x0_0 x0_1 x0_3 x1_0 x1_1 x1_3 x2_0 x2_1 x2_3 0 = sMake_11 x0_0 x0_1 x0_3 x2_0 x2_1 x2_3 x1_0 x1_1 x1_3 0 := by
  unfold sMake_11
  rw [s2_turn x0_0 x0_1 x1_0 x1_1 x2_0 x2_1]
  cases h : sMake_s2 x0_0 x0_1 x1_0 x1_1 x2_0 x2_1 0
  · simp only [cond_false]
    rw [g_s20 h]
  · simp only [cond_true]
theorem mk_12 (x0_0 x0_1 x0_4 x1_0 x1_1 x2_0 x2_1 : Int) : sMake_12 x0_0 x0_1 x0_4 x1_0 x1_1 x2_0 x2_1 0 = sMake_12 x0_0 x0_1 x0_4 x2_0 x2_1 x1_0 x1_1 0 := by
  unfold sMake_12
  rw [s2_turn x0_0 x0_1 x1_0 x1_1 x2_0 x2_1]
theorem mk_13 (x0_0 x0_1 x0_5 x1_0 x1_1 x2_0 x2_1 : Int) : sMake_13 x0_0 x0_1 x0_5 x1_0 x1_1 x2_0 x2_1 0 = sMake_13 x0_0 x0_1 x0_5 x2_0 x2_1 x1_0 x1_1 0 := by
  unfold sMake_13
  rw [s2_turn x0_0 x0_1 x1_0 x1_1 x2_0 x2_1]
theorem mk_14 (x0_0 x0_1 x0_6 x1_0 x1_1 x2_0 x2_1 : Int) : sMake_14 x0_0 x0_1 x0_6 x1_0 x1_1 x2_0 x2_1 0 = sMake_14 x0_0 x0_1 x0_6 x2_0 x2_1 x1_0 x1_1 0 := by
  unfold sMake_14
  rw [s2_turn x0_0 x0_1 x1_0 x1_1 x2_0 x2_1]
theorem mk_15 (x0_0 x0_1 x0_7 x1_0 x1_1 x2_0 x2_1 : Int) : sMake_15 x0_0 x0_1 x0_7 x1_0 x1_1 x2_0 x2_1 0 = sMake_15 x0_0 x0_1 x0_7 x2_0 x2_1 x1_0 x1_1 0 := by
  unfold sMake_15
  rw [s2_turn x0_0 x0_1 x1_0 x1_1 x2_0 x2_1]
theorem mk_16 (x0_0 x0_1 x1_0 x1_1 x1_4 x2_0 x2_1 x2_4 : Int) : sMake_16 x0_0 x0_1 x1_0 x1_1 x1_4 x2_0 x2_1 x2_4 0 = sMake_16 x0_0 x0_1 x2_0 x2_1 x2_4 x1_0 x1_1 x1_4 0 := by
  unfold sMake_16
  rw [s2_turn x0_0 x0_1 x1_0 x1_1 x2_0 x2_1]
  cases h : sMake_s2 x0_0 x0_1 x1_0 x1_1 x2_0 x2_1 0
  · simp only [cond_false]
    rw [s0_turn h]
    cases sMake_s0 x0_0 x0_1 x1_0 x1_1 x2_0 x2_1 <;> rfl
  · simp only [cond_true]
theorem mk_17 (x0_0 x0_1 x1_0 x1_1 x1_5 x2_0 x2_1 x2_5 : Int) : sMake_17 x0_0 x0_1 x1_0 x1_1 x1_5 x2_0 x2_1 x2_5 0 = sMake_17 x0_0 x0_1 x2_0 x2_1 x2_5 x1_0 x1_1 x1_5 0 := by
  unfold sMake_17
  rw [s2_turn x0_0 x0_1 x1_0 x1_1 x2_0 x2_1]
  cases h : sMake_s2 x0_0 x0_1 x1_0 x1_1 x2_0 x2_1 0
  · simp only [cond_false]
    rw [s0_turn h]
    cases sMake_s0 x0_0 x0_1 x1_0 x1_1 x2_0 x2_1 <;> rfl
  · simp only [cond_true]
theorem mk_18 (x0_0 x0_1 x1_0 x1_1 x1_6 x2_0 x2_1 x2_6 : Int) : sMake_18 x0_0 x0_1 x1_0 x1_1 x1_6 x2_0 x2_1 x2_6 0 = sMake_18 x0_0 x0_1 x2_0 x2_1 x2_6 x1_0 x1_1 x1_6 0 := by
  unfold sMake_18
  rw [s2_turn x0_0 x0_1 x1_0 x1_1 x2_0 x2_1]
  cases h : sMake_s2 x0_0 x0_1 x1_0 x1_1 x2_0 x2_1 0
  · simp only [cond_false]
    rw [s0_turn h]
    cases sMake_s0 x0_0 x0_1 x1_0 x1_1 x2_0 x2_1 <;> rfl
  · simp only [cond_true]
theorem mk_19 (x0_0 x0_1 x1_0 x1_1 x1_7 x2_0 x2_1 x2_7 : Int) : sMake_19 x0_0 x0_1 x1_0 x1_1 x1_7 x2_0 x2_1 x2_7 0 = sMake_19 x0_0 x0_1 x2_0 x2_1 x2_7 x1_0 x1_1 x1_7 0 := by
  unfold sMake_19
  rw [s2_turn x0_0 x0_1 x1_0 x1_1 x2_0 x2_1]
  cases h : sMake_s2 x0_0 x0_1 x1_0 x1_1 x2_0 x2_1 0
  · simp only [cond_false]
    rw [s0_turn h]
    cases sMake_s0 x0_0 x0_1 x1_0 x1_1 x2_0 x2_1 <;> rfl
  · simp only [cond_true]
theorem mk_20 (x0_0 x0_1 x1_0 x1_1 x1_4 x2_0 x2_1 x2_4 : Int) : sMake_20 x0_0 x0_1 x1_0 x1_1 x1_4 x2_0 x2_1 x2_4 0 = sMake_20 x0_0 x0_1 x2_0 x2_1 x2_4 x1_0 x1_1 x1_4 0 := by
  unfold sMake_20
  rw [s2_turn x0_0 x0_1 x1_0 x1_1 x2_0 x2_1]
  cases h : sMake_s2 x0_0 x0_1 x1_0 x1_1 x2_0 x2_1 0
  · simp only [cond_false]
    rw [s0_turn h]
    cases sMake_s0 x0_0 x0_1 x1_0 x1_1 x2_0 x2_1 <;> rfl
  · simp only [cond_true]
theorem mk_21 (x0_0 x0_1 x1_0 x1_1 x1_5 x2_0 x2_1 x2_5 : Int) : sMake_21 x0_0 x0_1 x1_0 x1_1 x1_5 x2_0 x2_1 x2_5 0 = sMake_21 x0_0 x0_1 x2_0 x2_1 x2_5 x1_0 x1_1 x1_5 0 := by
  unfold sMake_21
  rw [s2_turn x0_0 x0_1 x1_0 x1_1 x2_0 x2_1]
  cases h : sMake_s2 x0_0 x0_1 x1_0 x1_1 x2_0 x2_1 0
  · simp only [cond_false]
    rw [s0_turn h]
    cases sMake_s0 x0_0 x0_1 x1_0 x1_1 x2_0 x2_1 <;> rfl
  · simp only [cond_true]
theorem mk_22 (x0_0 x0_1 x1_0 x1_1 x1_6 x2_0 x2_1 x2_6 : Int) : sMake_22 x0_0 x0_1 x1_0 x1_1 x1_6 x2_0 x2_1 x2_6 0 = sMake_22 x0_0 x0_1 x2_0 x2_1 x2_6 x1_0 x1_1 x1_6 0 := by
  unfold sMake_22
  rw [s2_turn x0_0 x0_1 x1_0 x1_1 x2_0 x2_1]
  cases h : sMake_s2 x0_0 x0_1 x1_0 x1_1 x2_0 x2_1 0
  · simp only [cond_false]
    rw [s0_turn h]
    cases sMake_s0 x0_0 x0_1 x1_0 x1_1 x2_0 x2_1 <;> rfl
  · simp only [cond_true]
theorem mk_23 (x0_0 x0_1 x1_0 x1_1 x1_7 x2_0 x2_1 x2_7 : Int) : sMake_23 x0_0 x0_1 x1_0 x1_1 x1_7 x2_0 x2_1 x2_7 0 = sMake_23 x0_0 x0_1 x2_0 x2_1 x2_7 x1_0 x1_1 x1_7 0 := by
  unfold sMake_23
  rw [s2_turn x0_0 x0_1 x1_0 x1_1 x2_0 x2_1]
  cases h : sMake_s2 x0_0 x0_1 x1_0 x1_1 x2_0 x2_1 0
  · simp only [cond_false]
    rw [s0_turn h]
    cases sMake_s0 x0_0 x0_1 x1_0 x1_1 x2_0 x2_1 <;> rfl
  · simp only [cond_true]
theorem zero_off {x y : Int} : sAt_5 0 0 0 0 0 0 0 0 0 0 0 0 0 0 0 0 0 0 0 0 0 0 0 0 x y = false := by
  have h : sCheck_0 0 0 0 0 0 0 0 0 0 0 0 0 0 0 0 0 0 0 0 0 0 0 0 0 = 2 := by decide +kernel
  unfold sAt_5 sAt_s0
  rw [h]; rfl

theorem SetupCulls_true (x0_0 : Int) (a0_0 : IntKind.min .i16 ≤ x0_0) (b0_0 : x0_0 ≤ IntKind.max .i16) (x0_1 : Int) (a0_1 : IntKind.min .i16 ≤ x0_1) (b0_1 : x0_1 ≤ IntKind.max .i16) (x0_2 : Int) (a0_2 : IntKind.min .i16 ≤ x0_2) (b0_2 : x0_2 ≤ IntKind.max .i16) (x0_3 : Int) (a0_3 : IntKind.min .i16 ≤ x0_3) (b0_3 : x0_3 ≤ IntKind.max .i16) (x0_4 : Int) (a0_4 : IntKind.min .u8 ≤ x0_4) (b0_4 : x0_4 ≤ IntKind.max .u8) (x0_5 : Int) (a0_5 : IntKind.min .u8 ≤ x0_5) (b0_5 : x0_5 ≤ IntKind.max .u8) (x0_6 : Int) (a0_6 : IntKind.min .u8 ≤ x0_6) (b0_6 : x0_6 ≤ IntKind.max .u8) (x0_7 : Int) (a0_7 : IntKind.min .u8 ≤ x0_7) (b0_7 : x0_7 ≤ IntKind.max .u8) (x0_8 : Bool) (x0_9 : Int) (a0_9 : IntKind.min .i16 ≤ x0_9) (b0_9 : x0_9 ≤ IntKind.max .i16) (x0_10 : Int) (a0_10 : IntKind.min .i16 ≤ x0_10) (b0_10 : x0_10 ≤ IntKind.max .i16) (x0_11 : Int) (a0_11 : IntKind.min .i16 ≤ x0_11) (b0_11 : x0_11 ≤ IntKind.max .i16) (x0_12 : Int) (a0_12 : IntKind.min .i16 ≤ x0_12) (b0_12 : x0_12 ≤ IntKind.max .i16) (x0_13 : Int) (a0_13 : IntKind.min .u8 ≤ x0_13) (b0_13 : x0_13 ≤ IntKind.max .u8) (x0_14 : Int) (a0_14 : IntKind.min .u8 ≤ x0_14) (b0_14 : x0_14 ≤ IntKind.max .u8) (x0_15 : Int) (a0_15 : IntKind.min .u8 ≤ x0_15) (b0_15 : x0_15 ≤ IntKind.max .u8) (x0_16 : Int) (a0_16 : IntKind.min .u8 ≤ x0_16) (b0_16 : x0_16 ≤ IntKind.max .u8) (x0_17 : Bool) (x0_18 : Int) (a0_18 : IntKind.min .i16 ≤ x0_18) (b0_18 : x0_18 ≤ IntKind.max .i16) (x0_19 : Int) (a0_19 : IntKind.min .i16 ≤ x0_19) (b0_19 : x0_19 ≤ IntKind.max .i16) (x0_20 : Int) (a0_20 : IntKind.min .i16 ≤ x0_20) (b0_20 : x0_20 ≤ IntKind.max .i16) (x0_21 : Int) (a0_21 : IntKind.min .i16 ≤ x0_21) (b0_21 : x0_21 ≤ IntKind.max .i16) (x0_22 : Int) (a0_22 : IntKind.min .u8 ≤ x0_22) (b0_22 : x0_22 ≤ IntKind.max .u8) (x0_23 : Int) (a0_23 : IntKind.min .u8 ≤ x0_23) (b0_23 : x0_23 ≤ IntKind.max .u8) (x0_24 : Int) (a0_24 : IntKind.min .u8 ≤ x0_24) (b0_24 : x0_24 ≤ IntKind.max .u8) (x0_25 : Int) (a0_25 : IntKind.min .u8 ≤ x0_25) (b0_25 : x0_25 ≤ IntKind.max .u8) (x0_26 : Bool) (x1 : Int) (a1 : IntKind.min .u8 ≤ x1) (b1 : x1 ≤ IntKind.max .u8) (x2 : Int) (a2 : IntKind.min .u8 ≤ x2) (b2 : x2 ≤ IntKind.max .u8) (x3 : Int) (a3 : IntKind.min .u8 ≤ x3) (b3 : x3 ≤ IntKind.max .u8) : lCulls_0 x0_0 x0_1 x0_2 x0_3 x0_4 x0_5 x0_6 x0_7 x0_8 x0_9 x0_10 x0_11 x0_12 x0_13 x0_14 x0_15 x0_16 x0_17 x0_18 x0_19 x0_20 x0_21 x0_22 x0_23 x0_24 x0_25 x0_26 x1 x2 x3 = true := by
  obtain ⟨l0_0, g0_0⟩ := bd_i16 a0_0 b0_0
  have w0_0 : IntKind.wrap .i64 x0_0 = x0_0 := w64_in (by omega) (by omega)
  obtain ⟨l0_1, g0_1⟩ := bd_i16 a0_1 b0_1
  have w0_1 : IntKind.wrap .i64 x0_1 = x0_1 := w64_in (by omega) (by omega)
  obtain ⟨l0_2, g0_2⟩ := bd_i16 a0_2 b0_2
  have w0_2 : IntKind.wrap .i64 x0_2 = x0_2 := w64_in (by omega) (by omega)
  obtain ⟨l0_3, g0_3⟩ := bd_i16 a0_3 b0_3
  have w0_3 : IntKind.wrap .i64 x0_3 = x0_3 := w64_in (by omega) (by omega)
  obtain ⟨l0_4, g0_4⟩ := bd_u8 a0_4 b0_4
  have w0_4 : IntKind.wrap .i64 x0_4 = x0_4 := w64_in (by omega) (by omega)
  obtain ⟨l0_5, g0_5⟩ := bd_u8 a0_5 b0_5
  have w0_5 : IntKind.wrap .i64 x0_5 = x0_5 := w64_in (by omega) (by omega)
  obtain ⟨l0_6, g0_6⟩ := bd_u8 a0_6 b0_6
  have w0_6 : IntKind.wrap .i64 x0_6 = x0_6 := w64_in (by omega) (by omega)
  obtain ⟨l0_7, g0_7⟩ := bd_u8 a0_7 b0_7
  have w0_7 : IntKind.wrap .i64 x0_7 = x0_7 := w64_in (by omega) (by omega)
  obtain ⟨l0_9, g0_9⟩ := bd_i16 a0_9 b0_9
  have w0_9 : IntKind.wrap .i64 x0_9 = x0_9 := w64_in (by omega) (by omega)
  obtain ⟨l0_10, g0_10⟩ := bd_i16 a0_10 b0_10
  have w0_10 : IntKind.wrap .i64 x0_10 = x0_10 := w64_in (by omega) (by omega)
  obtain ⟨l0_11, g0_11⟩ := bd_i16 a0_11 b0_11
  have w0_11 : IntKind.wrap .i64 x0_11 = x0_11 := w64_in (by omega) (by omega)
  obtain ⟨l0_12, g0_12⟩ := bd_i16 a0_12 b0_12
  have w0_12 : IntKind.wrap .i64 x0_12 = x0_12 := w64_in (by omega) (by omega)
  obtain ⟨l0_13, g0_13⟩ := bd_u8 a0_13 b0_13
  have w0_13 : IntKind.wrap .i64 x0_13 = x0_13 := w64_in (by omega) (by omega)
  obtain ⟨l0_14, g0_14⟩ := bd_u8 a0_14 b0_14
  have w0_14 : IntKind.wrap .i64 x0_14 = x0_14 := w64_in (by omega) (by omega)
  obtain ⟨l0_15, g0_15⟩ := bd_u8 a0_15 b0_15
  have w0_15 : IntKind.wrap .i64 x0_15 = x0_15 := w64_in (by omega) (by omega)
  obtain ⟨l0_16, g0_16⟩ := bd_u8 a0_16 b0_16
  have w0_16 : IntKind.wrap .i64 x0_16 = x0_16 := w64_in (by omega) (by omega)
  obtain ⟨l0_18, g0_18⟩ := bd_i16 a0_18 b0_18
  have w0_18 : IntKind.wrap .i64 x0_18 = x0_18 := w64_in (by omega) (by omega)
  obtain ⟨l0_19, g0_19⟩ := bd_i16 a0_19 b0_19
  have w0_19 : IntKind.wrap .i64 x0_19 = x0_19 := w64_in (by omega) (by omega)
  obtain ⟨l0_20, g0_20⟩ := bd_i16 a0_20 b0_20
  have w0_20 : IntKind.wrap .i64 x0_20 = x0_20 := w64_in (by omega) (by omega)
  obtain ⟨l0_21, g0_21⟩ := bd_i16 a0_21 b0_21
  have w0_21 : IntKind.wrap .i64 x0_21 = x0_21 := w64_in (by omega) (by omega)
  obtain ⟨l0_22, g0_22⟩ := bd_u8 a0_22 b0_22
  have w0_22 : IntKind.wrap .i64 x0_22 = x0_22 := w64_in (by omega) (by omega)
  obtain ⟨l0_23, g0_23⟩ := bd_u8 a0_23 b0_23
  have w0_23 : IntKind.wrap .i64 x0_23 = x0_23 := w64_in (by omega) (by omega)
  obtain ⟨l0_24, g0_24⟩ := bd_u8 a0_24 b0_24
  have w0_24 : IntKind.wrap .i64 x0_24 = x0_24 := w64_in (by omega) (by omega)
  obtain ⟨l0_25, g0_25⟩ := bd_u8 a0_25 b0_25
  have w0_25 : IntKind.wrap .i64 x0_25 = x0_25 := w64_in (by omega) (by omega)
  obtain ⟨l1, g1⟩ := bd_u8 a1 b1
  have w1 : IntKind.wrap .i64 x1 = x1 := w64_in (by omega) (by omega)
  obtain ⟨l2, g2⟩ := bd_u8 a2 b2
  have w2 : IntKind.wrap .i64 x2 = x2 := w64_in (by omega) (by omega)
  obtain ⟨l3, g3⟩ := bd_u8 a3 b3
  have w3 : IntKind.wrap .i64 x3 = x3 := w64_in (by omega) (by omega)
  unfold lCulls_0
  unfold lCulls_s30 lCulls_s29 lCulls_s28 lCulls_s27 lCulls_s26 lCulls_s25 lCulls_s24 lCulls_s23 lCulls_s22 lCulls_s21 lCulls_s20 lCulls_s19 lCulls_s18 lCulls_s17 lCulls_s16 lCulls_s15 lCulls_s14 lCulls_s13 lCulls_s12 lCulls_s11 lCulls_s10 lCulls_s9 lCulls_s8 lCulls_s7 lCulls_s6 lCulls_s5 lCulls_s4 lCulls_s3 lCulls_s2 lCulls_s1
  generalize sOf_0 (l11V_0 x0_0) (l11V_3 x0_3 x0_8) (lCulls_s0 x1) = A0
  generalize sOf_1 (l11V_1 x0_1) (l11V_3 x0_3 x0_8) (lCulls_s0 x1) = A1
  generalize sOf_2 (l11V_2 x0_2) (l11V_3 x0_3 x0_8) = A2
  generalize sOf_s2 (l11V_3 x0_3 x0_8) = A3
  generalize vmColour_0 (l11V_4 x0_4) = A4
  generalize vmColour_1 (l11V_5 x0_5) = A5
  generalize vmColour_2 (l11V_6 x0_6) = A6
  generalize vmColour_3 (l11V_7 x0_7) = A7
  generalize sOf_0 (l11V_0 x0_9) (l11V_3 x0_12 x0_17) (lCulls_s0 x1) = B0
  generalize sOf_1 (l11V_1 x0_10) (l11V_3 x0_12 x0_17) (lCulls_s0 x1) = B1
  generalize sOf_2 (l11V_2 x0_11) (l11V_3 x0_12 x0_17) = B2
  generalize sOf_s2 (l11V_3 x0_12 x0_17) = B3
  generalize vmColour_0 (l11V_4 x0_13) = B4
  generalize vmColour_1 (l11V_5 x0_14) = B5
  generalize vmColour_2 (l11V_6 x0_15) = B6
  generalize vmColour_3 (l11V_7 x0_16) = B7
  generalize sOf_0 (l11V_0 x0_18) (l11V_3 x0_21 x0_26) (lCulls_s0 x1) = C0
  generalize sOf_1 (l11V_1 x0_19) (l11V_3 x0_21 x0_26) (lCulls_s0 x1) = C1
  generalize sOf_2 (l11V_2 x0_20) (l11V_3 x0_21 x0_26) = C2
  generalize sOf_s2 (l11V_3 x0_21 x0_26) = C3
  generalize vmColour_0 (l11V_4 x0_22) = C4
  generalize vmColour_1 (l11V_5 x0_23) = C5
  generalize vmColour_2 (l11V_6 x0_24) = C6
  generalize vmColour_3 (l11V_7 x0_25) = C7
  obtain ⟨e0, e1, e2⟩ := mk_s2 A0 A1 B0 B1 C0 C1
  obtain ⟨f0, f1, _⟩ := mk_s2 A0 A1 C0 C1 B0 B1
  rw [side_turn A0 A1 B0 B1 C0 C1] at f0 f1
  rw [aw13_t, mk_24, mk_24, mk_24, mk_24, mk_24, f0, f1, e0, e1, e2, ← mk_0 A0 A1 B0 B1 C0 C1, ← mk_1 A0 A1 B0 B1 C0 C1, ← mk_2 A0 A1 B0 B1 C0 C1, ← mk_3 A0 A1 B0 B1 C0 C1, ← mk_4 A0 A1 B0 B1 C0 C1, ← mk_5 A0 A1 B0 B1 C0 C1, ← mk_6 A0 A1 A2 B0 B1 C0 C1, ← mk_7 A0 A1 B0 B1 B2 C0 C1 C2, ← mk_8 A0 A1 B0 B1 B2 C0 C1 C2, ← mk_9 A0 A1 A3 B0 B1 B3 C0 C1 C3, ← mk_10 A0 A1 A3 B0 B1 B3 C0 C1 C3, ← mk_11 A0 A1 A3 B0 B1 B3 C0 C1 C3, ← mk_12 A0 A1 A4 B0 B1 C0 C1, ← mk_13 A0 A1 A5 B0 B1 C0 C1, ← mk_14 A0 A1 A6 B0 B1 C0 C1, ← mk_15 A0 A1 A7 B0 B1 C0 C1, ← mk_16 A0 A1 B0 B1 B4 C0 C1 C4, ← mk_17 A0 A1 B0 B1 B5 C0 C1 C5, ← mk_18 A0 A1 B0 B1 B6 C0 C1 C6, ← mk_19 A0 A1 B0 B1 B7 C0 C1 C7, ← mk_20 A0 A1 B0 B1 B4 C0 C1 C4, ← mk_21 A0 A1 B0 B1 B5 C0 C1 C5, ← mk_22 A0 A1 B0 B1 B6 C0 C1 C6, ← mk_23 A0 A1 B0 B1 B7 C0 C1 C7]
  have z : eSide_0 A0 A1 B0 B1 C0 C1 = 0 → sMake_s2 A0 A1 B0 B1 C0 C1 0 = true := fun h => by rw [e0, h]; rfl
  by_cases h : eSide_0 A0 A1 B0 B1 C0 C1 = 0
  · have z := z h
    have z0 : sMake_0 A0 A1 B0 B1 C0 C1 0 = 0 := by unfold sMake_0; rw [z]; rfl
    have z1 : sMake_1 A0 A1 B0 B1 C0 C1 0 = 0 := by unfold sMake_1; rw [z]; rfl
    have z2 : sMake_2 A0 A1 B0 B1 C0 C1 0 = 0 := by unfold sMake_2; rw [z]; rfl
    have z3 : sMake_3 A0 A1 B0 B1 C0 C1 0 = 0 := by unfold sMake_3; rw [z]; rfl
    have z4 : sMake_4 A0 A1 B0 B1 C0 C1 0 = 0 := by unfold sMake_4; rw [z]; rfl
    have z5 : sMake_5 A0 A1 B0 B1 C0 C1 0 = 0 := by unfold sMake_5; rw [z]; rfl
    have z6 : sMake_6 A0 A1 A2 B0 B1 C0 C1 0 = 0 := by unfold sMake_6; rw [z]; rfl
    have z7 : sMake_7 A0 A1 B0 B1 B2 C0 C1 C2 0 = 0 := by unfold sMake_7; rw [z]; rfl
    have z8 : sMake_8 A0 A1 B0 B1 B2 C0 C1 C2 0 = 0 := by unfold sMake_8; rw [z]; rfl
    have z9 : sMake_9 A0 A1 A3 B0 B1 B3 C0 C1 C3 0 = 0 := by unfold sMake_9; rw [z]; rfl
    have z10 : sMake_10 A0 A1 A3 B0 B1 B3 C0 C1 C3 0 = 0 := by unfold sMake_10; rw [z]; rfl
    have z11 : sMake_11 A0 A1 A3 B0 B1 B3 C0 C1 C3 0 = 0 := by unfold sMake_11; rw [z]; rfl
    have z12 : sMake_12 A0 A1 A4 B0 B1 C0 C1 0 = 0 := by unfold sMake_12; rw [z]; rfl
    have z13 : sMake_13 A0 A1 A5 B0 B1 C0 C1 0 = 0 := by unfold sMake_13; rw [z]; rfl
    have z14 : sMake_14 A0 A1 A6 B0 B1 C0 C1 0 = 0 := by unfold sMake_14; rw [z]; rfl
    have z15 : sMake_15 A0 A1 A7 B0 B1 C0 C1 0 = 0 := by unfold sMake_15; rw [z]; rfl
    have z16 : sMake_16 A0 A1 B0 B1 B4 C0 C1 C4 0 = 0 := by unfold sMake_16; rw [z]; rfl
    have z17 : sMake_17 A0 A1 B0 B1 B5 C0 C1 C5 0 = 0 := by unfold sMake_17; rw [z]; rfl
    have z18 : sMake_18 A0 A1 B0 B1 B6 C0 C1 C6 0 = 0 := by unfold sMake_18; rw [z]; rfl
    have z19 : sMake_19 A0 A1 B0 B1 B7 C0 C1 C7 0 = 0 := by unfold sMake_19; rw [z]; rfl
    have z20 : sMake_20 A0 A1 B0 B1 B4 C0 C1 C4 0 = 0 := by unfold sMake_20; rw [z]; rfl
    have z21 : sMake_21 A0 A1 B0 B1 B5 C0 C1 C5 0 = 0 := by unfold sMake_21; rw [z]; rfl
    have z22 : sMake_22 A0 A1 B0 B1 B6 C0 C1 C6 0 = 0 := by unfold sMake_22; rw [z]; rfl
    have z23 : sMake_23 A0 A1 B0 B1 B7 C0 C1 C7 0 = 0 := by unfold sMake_23; rw [z]; rfl
    rw [z0, z1, z2, z3, z4, z5, z6, z7, z8, z9, z10, z11, z12, z13, z14, z15, z16, z17, z18, z19, z20, z21, z22, z23, zero_off, h]
    simp
  · generalize eSide_0 A0 A1 B0 B1 C0 C1 = S at *
    have hb : (S == 0) = false := beq_false_of_ne h
    have hc : (-S == 0) = false := beq_false_of_ne (by omega)
    by_cases h1 : S ≤ 0
    · have h2 : ¬ 0 ≤ S := by omega
      have h3 : ¬ -S ≤ 0 := by omega
      simp [hb, hc, h1, h2, h3]
    · have h2 : 0 ≤ S := by omega
      have h3 : -S ≤ 0 := by omega
      simp [hb, hc, h1, h2, h3]

theorem SetupCulls_obs (x0_0 : Int) (a0_0 : IntKind.min .i16 ≤ x0_0) (b0_0 : x0_0 ≤ IntKind.max .i16) (x0_1 : Int) (a0_1 : IntKind.min .i16 ≤ x0_1) (b0_1 : x0_1 ≤ IntKind.max .i16) (x0_2 : Int) (a0_2 : IntKind.min .i16 ≤ x0_2) (b0_2 : x0_2 ≤ IntKind.max .i16) (x0_3 : Int) (a0_3 : IntKind.min .i16 ≤ x0_3) (b0_3 : x0_3 ≤ IntKind.max .i16) (x0_4 : Int) (a0_4 : IntKind.min .u8 ≤ x0_4) (b0_4 : x0_4 ≤ IntKind.max .u8) (x0_5 : Int) (a0_5 : IntKind.min .u8 ≤ x0_5) (b0_5 : x0_5 ≤ IntKind.max .u8) (x0_6 : Int) (a0_6 : IntKind.min .u8 ≤ x0_6) (b0_6 : x0_6 ≤ IntKind.max .u8) (x0_7 : Int) (a0_7 : IntKind.min .u8 ≤ x0_7) (b0_7 : x0_7 ≤ IntKind.max .u8) (x0_8 : Bool) (x0_9 : Int) (a0_9 : IntKind.min .i16 ≤ x0_9) (b0_9 : x0_9 ≤ IntKind.max .i16) (x0_10 : Int) (a0_10 : IntKind.min .i16 ≤ x0_10) (b0_10 : x0_10 ≤ IntKind.max .i16) (x0_11 : Int) (a0_11 : IntKind.min .i16 ≤ x0_11) (b0_11 : x0_11 ≤ IntKind.max .i16) (x0_12 : Int) (a0_12 : IntKind.min .i16 ≤ x0_12) (b0_12 : x0_12 ≤ IntKind.max .i16) (x0_13 : Int) (a0_13 : IntKind.min .u8 ≤ x0_13) (b0_13 : x0_13 ≤ IntKind.max .u8) (x0_14 : Int) (a0_14 : IntKind.min .u8 ≤ x0_14) (b0_14 : x0_14 ≤ IntKind.max .u8) (x0_15 : Int) (a0_15 : IntKind.min .u8 ≤ x0_15) (b0_15 : x0_15 ≤ IntKind.max .u8) (x0_16 : Int) (a0_16 : IntKind.min .u8 ≤ x0_16) (b0_16 : x0_16 ≤ IntKind.max .u8) (x0_17 : Bool) (x0_18 : Int) (a0_18 : IntKind.min .i16 ≤ x0_18) (b0_18 : x0_18 ≤ IntKind.max .i16) (x0_19 : Int) (a0_19 : IntKind.min .i16 ≤ x0_19) (b0_19 : x0_19 ≤ IntKind.max .i16) (x0_20 : Int) (a0_20 : IntKind.min .i16 ≤ x0_20) (b0_20 : x0_20 ≤ IntKind.max .i16) (x0_21 : Int) (a0_21 : IntKind.min .i16 ≤ x0_21) (b0_21 : x0_21 ≤ IntKind.max .i16) (x0_22 : Int) (a0_22 : IntKind.min .u8 ≤ x0_22) (b0_22 : x0_22 ≤ IntKind.max .u8) (x0_23 : Int) (a0_23 : IntKind.min .u8 ≤ x0_23) (b0_23 : x0_23 ≤ IntKind.max .u8) (x0_24 : Int) (a0_24 : IntKind.min .u8 ≤ x0_24) (b0_24 : x0_24 ≤ IntKind.max .u8) (x0_25 : Int) (a0_25 : IntKind.min .u8 ≤ x0_25) (b0_25 : x0_25 ≤ IntKind.max .u8) (x0_26 : Bool) (x1 : Int) (a1 : IntKind.min .u8 ≤ x1) (b1 : x1 ≤ IntKind.max .u8) (x2 : Int) (a2 : IntKind.min .u8 ≤ x2) (b2 : x2 ≤ IntKind.max .u8) (x3 : Int) (a3 : IntKind.min .u8 ≤ x3) (b3 : x3 ≤ IntKind.max .u8) : Alls (lCulls_o x0_0 x0_1 x0_2 x0_3 x0_4 x0_5 x0_6 x0_7 x0_8 x0_9 x0_10 x0_11 x0_12 x0_13 x0_14 x0_15 x0_16 x0_17 x0_18 x0_19 x0_20 x0_21 x0_22 x0_23 x0_24 x0_25 x0_26 x1 x2 x3) := by
  unfold lCulls_o
  simp only [Alls, and_true]
  repeat' apply And.intro
  all_goals (intros; with_reducible first | exact s8_ne _ | exact s7_ne _ _ _ _ _ _ _ _ | exact s6_ne _ _ _ _ _ _ _ _)

end Go.Proofs.Ytbdmaepooahplaa