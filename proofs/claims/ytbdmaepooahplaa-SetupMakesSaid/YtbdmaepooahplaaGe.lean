/-
  The program's triangle and the reference's: how near the corners are (printed by tools/genge.py).
-/
import Derived.Test.YtbdmaepooahplaaGd
namespace Go.Proofs.Ytbdmaepooahplaa
open Go Go.RowKit Go.Proofs.Ytbdmaepooahplaa.V
set_option linter.unusedVariables false
set_option linter.unusedSectionVars false
set_option linter.unusedSimpArgs false

theorem bif_if (p : Prop) [Decidable p] (a b : Int) : (bif decide p then a else b) = if p then a else b := by
  by_cases h : p
  · rw [decide_eq_true h, if_pos h]; rfl
  · rw [decide_eq_false h, if_neg h]; rfl
theorem r_s6 (d0 d1 d2 : Int) : r12Make_s6 d0 d1 d2 = IntKind.wrap .i64 (min d0 (min d1 d2) * 1024) := by
  unfold r12Make_s6 r12Make_s5 r12Make_s4
  simp only [bif_if]
  congr 2
  (repeat' split) <;> omega
theorem r0_s6 (d0 d1 d2 : Int) : r12Make0_s6 d0 d1 d2 = IntKind.wrap .i64 (min d0 (min d1 d2) * 1024) := by
  unfold r12Make0_s6 r12Make0_s5 r12Make0_s4
  simp only [bif_if]
  congr 2
  (repeat' split) <;> omega
theorem nr_eq {m d : Int} (m0 : 256 ≤ m) (m1 : m ≤ d) (d1 : d ≤ 4194304) : (if IntKind.wrap .i64 (Int.tdiv (IntKind.wrap .i64 (m * 1024)) d) < 1 then 1 else IntKind.wrap .i64 (Int.tdiv (IntKind.wrap .i64 (m * 1024)) d)) = r12bound_0 (IntKind.wrap .i64 (Int.tdiv (IntKind.wrap .i64 (m * 1024)) d)) 1 1024 := by
  rw [w64_in (n := m * 1024) (by omega) (by omega), Int.tdiv_eq_ediv_of_nonneg (by omega)]
  have q0 : 0 ≤ m * 1024 / d := Int.ediv_nonneg (by omega) (by omega)
  have q1 : m * 1024 / d < 1024 + 1 := Int.ediv_lt_of_lt_mul (by omega) (by omega)
  rw [w64_in (by omega) (by omega)]
  unfold r12bound_0
  simp only [bif_if]
  (repeat' split) <;> omega
theorem s8_id {d : Int} (h : 256 ≤ d) : sMake_s8 d = d := by unfold sMake_s8; exact if_neg (by omega)

theorem s16_eq {d0 d1 d2 : Int} (a b c d e f : Int) (h0 : 256 ≤ d0 ∧ d0 ≤ 4194304) (h1 : 256 ≤ d1 ∧ d1 ≤ 4194304) (h2 : 256 ≤ d2 ∧ d2 ≤ 4194304) : sMake_s16 a b d0 c d d1 e f d2 = IntKind.wrap .i64 (min d0 (min d1 d2) * 1024) := by
  unfold sMake_s16 sMake_s14 sMake_s11 sMake_s6 sMake_s7 sMake_s8
  rcases Bool.eq_false_or_eq_true (sMake_s0 a b c d e f) with h | h
  · simp only [h, cond_true]
    congr 2
    (repeat' split) <;> omega
  · simp only [h, cond_false]
    congr 2
    (repeat' split) <;> omega

section
variable {x0_0 x0_1 x0_2 x0_3 x0_4 x0_5 x0_6 x0_7 x0_8 x0_9 x0_10 x0_11 x0_12 x0_13 x0_14 x0_15 x0_16 x0_17 x0_18 x0_19 x0_20 x0_21 x0_22 x0_23 w h : Int} (A : Sh x0_0 x0_1 x0_2 x0_3 x0_4 x0_5 x0_6 x0_7) (B : Sh x0_8 x0_9 x0_10 x0_11 x0_12 x0_13 x0_14 x0_15) (C : Sh x0_16 x0_17 x0_18 x0_19 x0_20 x0_21 x0_22 x0_23) (hw : 1 ≤ w ∧ w ≤ 64) (hh : 1 ≤ h ∧ h ≤ 64)
include A B C hw hh
theorem md_9 (k : Int) : sMake_9 (sOf_0 x0_0 x0_3 w) (sOf_1 x0_1 x0_3 h) (sOf_s2 x0_3) (sOf_0 x0_8 x0_11 w) (sOf_1 x0_9 x0_11 h) (sOf_s2 x0_11) (sOf_0 x0_16 x0_19 w) (sOf_1 x0_17 x0_19 h) (sOf_s2 x0_19) k = r12Make_9 x0_0 x0_1 x0_3 x0_8 x0_9 x0_11 x0_16 x0_17 x0_19 w h k := by
  have da : 256 ≤ x0_3 ∧ x0_3 ≤ 4194304 := ⟨A.pn, A.pd.2⟩
  have db : 256 ≤ x0_11 ∧ x0_11 ≤ 4194304 := ⟨B.pn, B.pd.2⟩
  have dc : 256 ≤ x0_19 ∧ x0_19 ≤ 4194304 := ⟨C.pn, C.pd.2⟩
  unfold sMake_9 r12Make_9 sMake_s17
  rw [md_s2 A B C hw hh, far A.pd A.pn, far B.pd B.pn, far C.pd C.pn, s16_eq _ _ _ _ _ _ da db dc]
  unfold sMake_s8
  rcases Bool.eq_false_or_eq_true (r12Make_s3 x0_0 x0_1 x0_3 x0_8 x0_9 x0_11 x0_16 x0_17 x0_19 w h k) with h3 | h3
  · rw [h3]; rfl
  · rw [h3]
    try rw [md_s0 A B C hw hh]
    rcases Bool.eq_false_or_eq_true (r12Make_s1 x0_0 x0_1 x0_3 x0_8 x0_9 x0_11 x0_16 x0_17 x0_19 w h) with h1 | h1
    · obtain ⟨t3, t1⟩ := md_t3 (k := k) A B C hw hh h1
      unfold r12Make0_9
      simp only [h1, t3, t1, cond_true, cond_false, r0_s6]
      rw [show min x0_3 (min x0_19 x0_11) = min x0_3 (min x0_11 x0_19) by omega]
      simp only [if_neg (show ¬ x0_3 < 1 by omega)]
      exact nr_eq (by omega) (by omega) (by omega)
    · simp only [h1, cond_true, cond_false, r_s6]
      simp only [if_neg (show ¬ x0_3 < 1 by omega)]
      exact nr_eq (by omega) (by omega) (by omega)
theorem md_10 (k : Int) : sMake_10 (sOf_0 x0_0 x0_3 w) (sOf_1 x0_1 x0_3 h) (sOf_s2 x0_3) (sOf_0 x0_8 x0_11 w) (sOf_1 x0_9 x0_11 h) (sOf_s2 x0_11) (sOf_0 x0_16 x0_19 w) (sOf_1 x0_17 x0_19 h) (sOf_s2 x0_19) k = r12Make_10 x0_0 x0_1 x0_3 x0_8 x0_9 x0_11 x0_16 x0_17 x0_19 w h k := by
  have da : 256 ≤ x0_3 ∧ x0_3 ≤ 4194304 := ⟨A.pn, A.pd.2⟩
  have db : 256 ≤ x0_11 ∧ x0_11 ≤ 4194304 := ⟨B.pn, B.pd.2⟩
  have dc : 256 ≤ x0_19 ∧ x0_19 ≤ 4194304 := ⟨C.pn, C.pd.2⟩
  unfold sMake_10 r12Make_10 sMake_s19
  rw [md_s2 A B C hw hh, far A.pd A.pn, far B.pd B.pn, far C.pd C.pn, s16_eq _ _ _ _ _ _ da db dc]
  unfold sMake_s7
  rcases Bool.eq_false_or_eq_true (r12Make_s3 x0_0 x0_1 x0_3 x0_8 x0_9 x0_11 x0_16 x0_17 x0_19 w h k) with h3 | h3
  · rw [h3]; rfl
  · rw [h3]
    try rw [md_s0 A B C hw hh]
    rcases Bool.eq_false_or_eq_true (r12Make_s1 x0_0 x0_1 x0_3 x0_8 x0_9 x0_11 x0_16 x0_17 x0_19 w h) with h1 | h1
    · obtain ⟨t3, t1⟩ := md_t3 (k := k) A B C hw hh h1
      unfold r12Make0_10
      simp only [h1, t3, t1, cond_true, cond_false, r0_s6]
      rw [show min x0_3 (min x0_19 x0_11) = min x0_3 (min x0_11 x0_19) by omega]
      simp only [if_neg (show ¬ x0_19 < 1 by omega)]
      exact nr_eq (by omega) (by omega) (by omega)
    · simp only [h1, cond_true, cond_false, r_s6]
      simp only [if_neg (show ¬ x0_11 < 1 by omega)]
      exact nr_eq (by omega) (by omega) (by omega)
theorem md_11 (k : Int) : sMake_11 (sOf_0 x0_0 x0_3 w) (sOf_1 x0_1 x0_3 h) (sOf_s2 x0_3) (sOf_0 x0_8 x0_11 w) (sOf_1 x0_9 x0_11 h) (sOf_s2 x0_11) (sOf_0 x0_16 x0_19 w) (sOf_1 x0_17 x0_19 h) (sOf_s2 x0_19) k = r12Make_11 x0_0 x0_1 x0_3 x0_8 x0_9 x0_11 x0_16 x0_17 x0_19 w h k := by
  have da : 256 ≤ x0_3 ∧ x0_3 ≤ 4194304 := ⟨A.pn, A.pd.2⟩
  have db : 256 ≤ x0_11 ∧ x0_11 ≤ 4194304 := ⟨B.pn, B.pd.2⟩
  have dc : 256 ≤ x0_19 ∧ x0_19 ≤ 4194304 := ⟨C.pn, C.pd.2⟩
  unfold sMake_11 r12Make_11 sMake_s20
  rw [md_s2 A B C hw hh, far A.pd A.pn, far B.pd B.pn, far C.pd C.pn, s16_eq _ _ _ _ _ _ da db dc]
  unfold sMake_s6
  rcases Bool.eq_false_or_eq_true (r12Make_s3 x0_0 x0_1 x0_3 x0_8 x0_9 x0_11 x0_16 x0_17 x0_19 w h k) with h3 | h3
  · rw [h3]; rfl
  · rw [h3]
    try rw [md_s0 A B C hw hh]
    rcases Bool.eq_false_or_eq_true (r12Make_s1 x0_0 x0_1 x0_3 x0_8 x0_9 x0_11 x0_16 x0_17 x0_19 w h) with h1 | h1
    · obtain ⟨t3, t1⟩ := md_t3 (k := k) A B C hw hh h1
      unfold r12Make0_11
      simp only [h1, t3, t1, cond_true, cond_false, r0_s6]
      rw [show min x0_3 (min x0_19 x0_11) = min x0_3 (min x0_11 x0_19) by omega]
      simp only [if_neg (show ¬ x0_11 < 1 by omega)]
      exact nr_eq (by omega) (by omega) (by omega)
    · simp only [h1, cond_true, cond_false, r_s6]
      simp only [if_neg (show ¬ x0_19 < 1 by omega)]
      exact nr_eq (by omega) (by omega) (by omega)
theorem md_24 (k : Int) : sMake_24 (sOf_0 x0_0 x0_3 w) (sOf_1 x0_1 x0_3 h) (sOf_0 x0_8 x0_11 w) (sOf_1 x0_9 x0_11 h) (sOf_0 x0_16 x0_19 w) (sOf_1 x0_17 x0_19 h) k = r12Make_24 x0_0 x0_1 x0_3 x0_8 x0_9 x0_11 x0_16 x0_17 x0_19 w h k := by
  unfold sMake_24 r12Make_24
  rw [md_s2 A B C hw hh]
  rcases Bool.eq_false_or_eq_true (r12Make_s3 x0_0 x0_1 x0_3 x0_8 x0_9 x0_11 x0_16 x0_17 x0_19 w h k) with h3 | h3
  · rw [h3]; rfl
  · rw [h3]
    rcases Bool.eq_false_or_eq_true (r12Make_s1 x0_0 x0_1 x0_3 x0_8 x0_9 x0_11 x0_16 x0_17 x0_19 w h) with h1 | h1
    · obtain ⟨t3, t1⟩ := md_t3 (k := k) A B C hw hh h1
      unfold r12Make0_24
      simp only [h1, t3, t1, cond_true, cond_false]
    · simp only [h1, cond_true, cond_false]
end

end Go.Proofs.Ytbdmaepooahplaa
