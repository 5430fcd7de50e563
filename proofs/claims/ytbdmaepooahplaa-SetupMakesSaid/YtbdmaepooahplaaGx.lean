/-
  Facts of the Setup and Clip texts that SetupMakes needs.
-/
import Derived.Test.YtbdmaepooahplaaSd
import Derived.Test.YtbdmaepooahplaaCj
namespace Go.Proofs.Ytbdmaepooahplaa
open Go Go.RowKit Go.Proofs.Ytbdmaepooahplaa.V
set_option linter.unusedVariables false
set_option linter.unusedSectionVars false

theorem side_turn (a b c d e f : Int) : eSide_0 a b e f c d = - eSide_0 a b c d e f := by
  rw [side_eq, side_eq, sd_turn]
theorem s8_ne (x : Int) : sMake_s8 x ≠ 0 := by unfold sMake_s8; split <;> omega
theorem s7_ne (a b c d e f g h : Int) : sMake_s7 a b c d e f g h ≠ 0 := by unfold sMake_s7; generalize (bif _ then _ else _ : Int) = z; split <;> omega
theorem s6_ne (a b c d e f g h : Int) : sMake_s6 a b c d e f g h ≠ 0 := by unfold sMake_s6; generalize (bif _ then _ else _ : Int) = z; split <;> omega
theorem mk_24 (a b c d e f k : Int) : sMake_24 a b c d e f k = !sMake_s2 a b c d e f k := by
  unfold sMake_24
  cases sMake_s2 a b c d e f k <;> rfl
theorem col0_id {x : Int} (h : 0 ≤ x ∧ x ≤ 65536) : vmColour_0 x = x := by unfold vmColour_0 vmColour_s0; split <;> (try split) <;> omega
theorem col1_id {x : Int} (h : 0 ≤ x ∧ x ≤ 65536) : vmColour_1 x = x := col0_id h
theorem col2_id {x : Int} (h : 0 ≤ x ∧ x ≤ 65536) : vmColour_2 x = x := col0_id h
theorem col3_id {x : Int} (h : 0 ≤ x ∧ x ≤ 65536) : vmColour_3 x = x := col0_id h
theorem clipG_q (l : List (List Int)) : ∃ q : List (List Int), clipG l = q.map fixR ∧ q.length ≤ 16 ∧ q.length ≠ 1 ∧ q.length ≠ 2 := by
  unfold clipG
  by_cases h : (by7 l).length < 3
  · rw [decide_eq_true h]; exact ⟨[], rfl, by decide, by decide, by decide⟩
  · rw [decide_eq_false h]
    by_cases g : 16 < (by7 l).length
    · rw [decide_eq_true g]; exact ⟨[], rfl, by decide, by decide, by decide⟩
    · rw [decide_eq_false g]; exact ⟨by7 l, rfl, by omega, by omega, by omega⟩
theorem aw13_t : aw13_0 = true := by
  have T : TB 0 0 64 0 0 64 7 7 7 9 9 9 1 2 3 4 1 2 3 4 1 2 3 4 := by constructor <;> omega
  have h : (0 : Int) ≤ 0 ∧ (0 : Int) ≤ 63 := by omega
  unfold aw13_0 l13Plain_0 l13Plain_1 l13Plain_2 l13Plain_3 l13Plain_4 l13Plain_5
  rw [check_eq T, sat_5 T h h, sat_0 T h h, sat_1 T h h, sat_2 T h h, sat_3 T h h, sat_4 T h h]
  decide +kernel

end Go.Proofs.Ytbdmaepooahplaa
