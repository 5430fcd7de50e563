/-
  The program's triangle and the reference's, number by number (printed by tools/gengd.py).
-/
import Derived.Test.YtbdmaepooahplaaGc
import Derived.Test.YtbdmaepooahplaaSc
import Derived.Test.YtbdmaepooahplaaGx
namespace Go.Proofs.Ytbdmaepooahplaa
open Go Go.RowKit Go.Proofs.Ytbdmaepooahplaa.V
set_option linter.unusedVariables false
set_option linter.unusedSectionVars false
set_option linter.unusedSimpArgs false

theorem es_rs (a b c d e f : Int) : eSide_0 a b c d e f = rSide_0 a b c d e f := by rw [side_eq, rside_eq]
theorem bd_idem (x : Int) : fWithin_0 (r12bound_0 x (-16384) 16384) 16384 = r12bound_0 x (-16384) 16384 := by
  rw [fw16]
  unfold r12bound_0
  by_cases h : x < -16384
  · rw [decide_eq_true h]; rfl
  · rw [decide_eq_false h]
    by_cases g : 16384 < x
    · rw [decide_eq_true g]; rfl
    · rw [decide_eq_false g]; simp only [cond_false]; rw [decide_eq_false h, decide_eq_false g]; rfl
theorem pt0_id (x d w : Int) : fWithin_0 (r12Point_0 x d w) 16384 = r12Point_0 x d w := bd_idem _
theorem pt1_id (x d w : Int) : fWithin_0 (r12Point_1 x d w) 16384 = r12Point_1 x d w := bd_idem _
theorem pt2_bd (x d : Int) : 0 ≤ r12Point_2 x d ∧ r12Point_2 x d ≤ 65535 := by
  unfold r12Point_2 r12bound_0
  generalize rFloor_0 (r12Point_s2 x) d = z
  by_cases h : z < 0
  · rw [decide_eq_true h]; simp only [cond_true]; omega
  · rw [decide_eq_false h]
    by_cases g : 65535 < z
    · rw [decide_eq_true g]; simp only [cond_true, cond_false]; omega
    · rw [decide_eq_false g]; simp only [cond_false]; omega

theorem pt2_id {z : Int} (h : 0 ≤ z ∧ z ≤ 65535) : (if 65535 < if z < 0 then 0 else z then 65535 else if z < 0 then 0 else z) = z := by
  simp only [if_neg (show ¬ z < 0 by omega)]
  exact if_neg (by omega)

/-- A vertex that can be shown. -/
structure Sh (a b c d e f g i : Int) : Prop where
  pa : Wn a
  pb : Wn b
  pc : Wn c
  pd : Wn d
  pn : 256 ≤ d
  pe : 0 ≤ e ∧ e ≤ 65536
  pf : 0 ≤ f ∧ f ≤ 65536
  pg : 0 ≤ g ∧ g ≤ 65536
  pi : 0 ≤ i ∧ i ≤ 65536

section
variable {x0_0 x0_1 x0_2 x0_3 x0_4 x0_5 x0_6 x0_7 x0_8 x0_9 x0_10 x0_11 x0_12 x0_13 x0_14 x0_15 x0_16 x0_17 x0_18 x0_19 x0_20 x0_21 x0_22 x0_23 w h : Int} (A : Sh x0_0 x0_1 x0_2 x0_3 x0_4 x0_5 x0_6 x0_7) (B : Sh x0_8 x0_9 x0_10 x0_11 x0_12 x0_13 x0_14 x0_15) (C : Sh x0_16 x0_17 x0_18 x0_19 x0_20 x0_21 x0_22 x0_23) (hw : 1 ≤ w ∧ w ≤ 64) (hh : 1 ≤ h ∧ h ≤ 64)
include A B C hw hh
theorem md_side : eSide_0 (sOf_0 x0_0 x0_3 w) (sOf_1 x0_1 x0_3 h) (sOf_0 x0_8 x0_11 w) (sOf_1 x0_9 x0_11 h) (sOf_0 x0_16 x0_19 w) (sOf_1 x0_17 x0_19 h) = r12Make_s0 x0_0 x0_1 x0_3 x0_8 x0_9 x0_11 x0_16 x0_17 x0_19 w h := by
  unfold r12Make_s0
  rw [es_rs, of_0 A.pa A.pd A.pn hw, of_0 B.pa B.pd B.pn hw, of_0 C.pa C.pd C.pn hw, of_1 A.pb A.pd A.pn hh, of_1 B.pb B.pd B.pn hh, of_1 C.pb C.pd C.pn hh]
theorem md_s0 : sMake_s0 (sOf_0 x0_0 x0_3 w) (sOf_1 x0_1 x0_3 h) (sOf_0 x0_8 x0_11 w) (sOf_1 x0_9 x0_11 h) (sOf_0 x0_16 x0_19 w) (sOf_1 x0_17 x0_19 h) = r12Make_s1 x0_0 x0_1 x0_3 x0_8 x0_9 x0_11 x0_16 x0_17 x0_19 w h := by
  unfold sMake_s0 r12Make_s1
  rw [md_side A B C hw hh]
theorem md_s2 (k : Int) : sMake_s2 (sOf_0 x0_0 x0_3 w) (sOf_1 x0_1 x0_3 h) (sOf_0 x0_8 x0_11 w) (sOf_1 x0_9 x0_11 h) (sOf_0 x0_16 x0_19 w) (sOf_1 x0_17 x0_19 h) k = r12Make_s3 x0_0 x0_1 x0_3 x0_8 x0_9 x0_11 x0_16 x0_17 x0_19 w h k := by
  unfold sMake_s2 r12Make_s3 sMake_s1 r12Make_s2
  rw [md_s0 A B C hw hh, md_side A B C hw hh]
theorem md_turn : r12Make0_s0 x0_0 x0_1 x0_3 x0_16 x0_17 x0_19 x0_8 x0_9 x0_11 w h = -(r12Make_s0 x0_0 x0_1 x0_3 x0_8 x0_9 x0_11 x0_16 x0_17 x0_19 w h) := by
  unfold r12Make0_s0 r12Make_s0
  rw [← es_rs, ← es_rs, side_turn]
theorem md_t3 {k : Int} (h1 : r12Make_s1 x0_0 x0_1 x0_3 x0_8 x0_9 x0_11 x0_16 x0_17 x0_19 w h = true) : r12Make0_s3 x0_0 x0_1 x0_3 x0_16 x0_17 x0_19 x0_8 x0_9 x0_11 w h 0 = false ∧ r12Make0_s1 x0_0 x0_1 x0_3 x0_16 x0_17 x0_19 x0_8 x0_9 x0_11 w h = false := by
  have h2 : r12Make_s0 x0_0 x0_1 x0_3 x0_8 x0_9 x0_11 x0_16 x0_17 x0_19 w h < 0 := of_decide_eq_true h1
  have h3 := md_turn A B C hw hh
  have e1 : r12Make0_s1 x0_0 x0_1 x0_3 x0_16 x0_17 x0_19 x0_8 x0_9 x0_11 w h = false := decide_eq_false (by omega)
  refine ⟨?_, e1⟩
  unfold r12Make0_s3
  rw [e1, beq_false_of_ne (by omega)]
  unfold r12Make0_s2
  cases decide (0 < r12Make0_s0 x0_0 x0_1 x0_3 x0_16 x0_17 x0_19 x0_8 x0_9 x0_11 w h) <;> rfl
theorem md_0 (k : Int) : sMake_0 (sOf_0 x0_0 x0_3 w) (sOf_1 x0_1 x0_3 h) (sOf_0 x0_8 x0_11 w) (sOf_1 x0_9 x0_11 h) (sOf_0 x0_16 x0_19 w) (sOf_1 x0_17 x0_19 h) k = r12Make_0 x0_0 x0_1 x0_3 x0_8 x0_9 x0_11 x0_16 x0_17 x0_19 w h k := by
  unfold sMake_0 r12Make_0
  rw [md_s2 A B C hw hh]
  rcases Bool.eq_false_or_eq_true (r12Make_s3 x0_0 x0_1 x0_3 x0_8 x0_9 x0_11 x0_16 x0_17 x0_19 w h k) with h3 | h3
  · rw [h3]; rfl
  · rw [h3]
    try rw [md_s0 A B C hw hh]
    rcases Bool.eq_false_or_eq_true (r12Make_s1 x0_0 x0_1 x0_3 x0_8 x0_9 x0_11 x0_16 x0_17 x0_19 w h) with h1 | h1
    · obtain ⟨t3, t1⟩ := md_t3 (k := k) A B C hw hh h1
      unfold r12Make0_0
      simp only [h1, t3, t1, cond_true, cond_false]
      rw [of_0 A.pa A.pd A.pn hw, pt0_id]
    · simp only [h1, cond_true, cond_false]
      rw [of_0 A.pa A.pd A.pn hw, pt0_id]
theorem md_1 (k : Int) : sMake_1 (sOf_0 x0_0 x0_3 w) (sOf_1 x0_1 x0_3 h) (sOf_0 x0_8 x0_11 w) (sOf_1 x0_9 x0_11 h) (sOf_0 x0_16 x0_19 w) (sOf_1 x0_17 x0_19 h) k = r12Make_1 x0_0 x0_1 x0_3 x0_8 x0_9 x0_11 x0_16 x0_17 x0_19 w h k := by
  unfold sMake_1 r12Make_1
  rw [md_s2 A B C hw hh]
  rcases Bool.eq_false_or_eq_true (r12Make_s3 x0_0 x0_1 x0_3 x0_8 x0_9 x0_11 x0_16 x0_17 x0_19 w h k) with h3 | h3
  · rw [h3]; rfl
  · rw [h3]
    try rw [md_s0 A B C hw hh]
    rcases Bool.eq_false_or_eq_true (r12Make_s1 x0_0 x0_1 x0_3 x0_8 x0_9 x0_11 x0_16 x0_17 x0_19 w h) with h1 | h1
    · obtain ⟨t3, t1⟩ := md_t3 (k := k) A B C hw hh h1
      unfold r12Make0_1
      simp only [h1, t3, t1, cond_true, cond_false]
      rw [of_1 A.pb A.pd A.pn hh, pt1_id]
    · simp only [h1, cond_true, cond_false]
      rw [of_1 A.pb A.pd A.pn hh, pt1_id]
theorem md_2 (k : Int) : sMake_2 (sOf_0 x0_0 x0_3 w) (sOf_1 x0_1 x0_3 h) (sOf_0 x0_8 x0_11 w) (sOf_1 x0_9 x0_11 h) (sOf_0 x0_16 x0_19 w) (sOf_1 x0_17 x0_19 h) k = r12Make_2 x0_0 x0_1 x0_3 x0_8 x0_9 x0_11 x0_16 x0_17 x0_19 w h k := by
  unfold sMake_2 r12Make_2
  rw [md_s2 A B C hw hh]
  rcases Bool.eq_false_or_eq_true (r12Make_s3 x0_0 x0_1 x0_3 x0_8 x0_9 x0_11 x0_16 x0_17 x0_19 w h k) with h3 | h3
  · rw [h3]; rfl
  · rw [h3]
    try rw [md_s0 A B C hw hh]
    rcases Bool.eq_false_or_eq_true (r12Make_s1 x0_0 x0_1 x0_3 x0_8 x0_9 x0_11 x0_16 x0_17 x0_19 w h) with h1 | h1
    · obtain ⟨t3, t1⟩ := md_t3 (k := k) A B C hw hh h1
      unfold r12Make0_2
      simp only [h1, t3, t1, cond_true, cond_false]
      rw [of_0 C.pa C.pd C.pn hw, pt0_id]
    · simp only [h1, cond_true, cond_false]
      rw [of_0 B.pa B.pd B.pn hw, pt0_id]
theorem md_3 (k : Int) : sMake_3 (sOf_0 x0_0 x0_3 w) (sOf_1 x0_1 x0_3 h) (sOf_0 x0_8 x0_11 w) (sOf_1 x0_9 x0_11 h) (sOf_0 x0_16 x0_19 w) (sOf_1 x0_17 x0_19 h) k = r12Make_3 x0_0 x0_1 x0_3 x0_8 x0_9 x0_11 x0_16 x0_17 x0_19 w h k := by
  unfold sMake_3 r12Make_3
  rw [md_s2 A B C hw hh]
  rcases Bool.eq_false_or_eq_true (r12Make_s3 x0_0 x0_1 x0_3 x0_8 x0_9 x0_11 x0_16 x0_17 x0_19 w h k) with h3 | h3
  · rw [h3]; rfl
  · rw [h3]
    try rw [md_s0 A B C hw hh]
    rcases Bool.eq_false_or_eq_true (r12Make_s1 x0_0 x0_1 x0_3 x0_8 x0_9 x0_11 x0_16 x0_17 x0_19 w h) with h1 | h1
    · obtain ⟨t3, t1⟩ := md_t3 (k := k) A B C hw hh h1
      unfold r12Make0_3
      simp only [h1, t3, t1, cond_true, cond_false]
      rw [of_1 C.pb C.pd C.pn hh, pt1_id]
    · simp only [h1, cond_true, cond_false]
      rw [of_1 B.pb B.pd B.pn hh, pt1_id]
theorem md_4 (k : Int) : sMake_4 (sOf_0 x0_0 x0_3 w) (sOf_1 x0_1 x0_3 h) (sOf_0 x0_8 x0_11 w) (sOf_1 x0_9 x0_11 h) (sOf_0 x0_16 x0_19 w) (sOf_1 x0_17 x0_19 h) k = r12Make_4 x0_0 x0_1 x0_3 x0_8 x0_9 x0_11 x0_16 x0_17 x0_19 w h k := by
  unfold sMake_4 r12Make_4
  rw [md_s2 A B C hw hh]
  rcases Bool.eq_false_or_eq_true (r12Make_s3 x0_0 x0_1 x0_3 x0_8 x0_9 x0_11 x0_16 x0_17 x0_19 w h k) with h3 | h3
  · rw [h3]; rfl
  · rw [h3]
    try rw [md_s0 A B C hw hh]
    rcases Bool.eq_false_or_eq_true (r12Make_s1 x0_0 x0_1 x0_3 x0_8 x0_9 x0_11 x0_16 x0_17 x0_19 w h) with h1 | h1
    · obtain ⟨t3, t1⟩ := md_t3 (k := k) A B C hw hh h1
      unfold r12Make0_4
      simp only [h1, t3, t1, cond_true, cond_false]
      rw [of_0 B.pa B.pd B.pn hw, pt0_id]
    · simp only [h1, cond_true, cond_false]
      rw [of_0 C.pa C.pd C.pn hw, pt0_id]
theorem md_5 (k : Int) : sMake_5 (sOf_0 x0_0 x0_3 w) (sOf_1 x0_1 x0_3 h) (sOf_0 x0_8 x0_11 w) (sOf_1 x0_9 x0_11 h) (sOf_0 x0_16 x0_19 w) (sOf_1 x0_17 x0_19 h) k = r12Make_5 x0_0 x0_1 x0_3 x0_8 x0_9 x0_11 x0_16 x0_17 x0_19 w h k := by
  unfold sMake_5 r12Make_5
  rw [md_s2 A B C hw hh]
  rcases Bool.eq_false_or_eq_true (r12Make_s3 x0_0 x0_1 x0_3 x0_8 x0_9 x0_11 x0_16 x0_17 x0_19 w h k) with h3 | h3
  · rw [h3]; rfl
  · rw [h3]
    try rw [md_s0 A B C hw hh]
    rcases Bool.eq_false_or_eq_true (r12Make_s1 x0_0 x0_1 x0_3 x0_8 x0_9 x0_11 x0_16 x0_17 x0_19 w h) with h1 | h1
    · obtain ⟨t3, t1⟩ := md_t3 (k := k) A B C hw hh h1
      unfold r12Make0_5
      simp only [h1, t3, t1, cond_true, cond_false]
      rw [of_1 B.pb B.pd B.pn hh, pt1_id]
    · simp only [h1, cond_true, cond_false]
      rw [of_1 C.pb C.pd C.pn hh, pt1_id]
theorem md_6 (k : Int) : sMake_6 (sOf_0 x0_0 x0_3 w) (sOf_1 x0_1 x0_3 h) (sOf_2 x0_2 x0_3) (sOf_0 x0_8 x0_11 w) (sOf_1 x0_9 x0_11 h) (sOf_0 x0_16 x0_19 w) (sOf_1 x0_17 x0_19 h) k = r12Make_6 x0_0 x0_1 x0_2 x0_3 x0_8 x0_9 x0_11 x0_16 x0_17 x0_19 w h k := by
  unfold sMake_6 r12Make_6 sMake_s3
  rw [md_s2 A B C hw hh]
  rcases Bool.eq_false_or_eq_true (r12Make_s3 x0_0 x0_1 x0_3 x0_8 x0_9 x0_11 x0_16 x0_17 x0_19 w h k) with h3 | h3
  · rw [h3]; rfl
  · rw [h3]
    try rw [md_s0 A B C hw hh]
    rcases Bool.eq_false_or_eq_true (r12Make_s1 x0_0 x0_1 x0_3 x0_8 x0_9 x0_11 x0_16 x0_17 x0_19 w h) with h1 | h1
    · obtain ⟨t3, t1⟩ := md_t3 (k := k) A B C hw hh h1
      unfold r12Make0_6
      simp only [h1, t3, t1, cond_true, cond_false]
      rw [of_2 A.pc A.pd A.pn]; exact pt2_id (pt2_bd _ _)
    · simp only [h1, cond_true, cond_false]
      rw [of_2 A.pc A.pd A.pn]; exact pt2_id (pt2_bd _ _)
theorem md_7 (k : Int) : sMake_7 (sOf_0 x0_0 x0_3 w) (sOf_1 x0_1 x0_3 h) (sOf_0 x0_8 x0_11 w) (sOf_1 x0_9 x0_11 h) (sOf_2 x0_10 x0_11) (sOf_0 x0_16 x0_19 w) (sOf_1 x0_17 x0_19 h) (sOf_2 x0_18 x0_19) k = r12Make_7 x0_0 x0_1 x0_3 x0_8 x0_9 x0_10 x0_11 x0_16 x0_17 x0_18 x0_19 w h k := by
  unfold sMake_7 r12Make_7 sMake_s4
  rw [md_s2 A B C hw hh]
  rcases Bool.eq_false_or_eq_true (r12Make_s3 x0_0 x0_1 x0_3 x0_8 x0_9 x0_11 x0_16 x0_17 x0_19 w h k) with h3 | h3
  · rw [h3]; rfl
  · rw [h3]
    try rw [md_s0 A B C hw hh]
    rcases Bool.eq_false_or_eq_true (r12Make_s1 x0_0 x0_1 x0_3 x0_8 x0_9 x0_11 x0_16 x0_17 x0_19 w h) with h1 | h1
    · obtain ⟨t3, t1⟩ := md_t3 (k := k) A B C hw hh h1
      unfold r12Make0_7
      simp only [h1, t3, t1, cond_true, cond_false]
      rw [of_2 C.pc C.pd C.pn]; exact pt2_id (pt2_bd _ _)
    · simp only [h1, cond_true, cond_false]
      rw [of_2 B.pc B.pd B.pn]; exact pt2_id (pt2_bd _ _)
theorem md_8 (k : Int) : sMake_8 (sOf_0 x0_0 x0_3 w) (sOf_1 x0_1 x0_3 h) (sOf_0 x0_8 x0_11 w) (sOf_1 x0_9 x0_11 h) (sOf_2 x0_10 x0_11) (sOf_0 x0_16 x0_19 w) (sOf_1 x0_17 x0_19 h) (sOf_2 x0_18 x0_19) k = r12Make_8 x0_0 x0_1 x0_3 x0_8 x0_9 x0_10 x0_11 x0_16 x0_17 x0_18 x0_19 w h k := by
  unfold sMake_8 r12Make_8 sMake_s5
  rw [md_s2 A B C hw hh]
  rcases Bool.eq_false_or_eq_true (r12Make_s3 x0_0 x0_1 x0_3 x0_8 x0_9 x0_11 x0_16 x0_17 x0_19 w h k) with h3 | h3
  · rw [h3]; rfl
  · rw [h3]
    try rw [md_s0 A B C hw hh]
    rcases Bool.eq_false_or_eq_true (r12Make_s1 x0_0 x0_1 x0_3 x0_8 x0_9 x0_11 x0_16 x0_17 x0_19 w h) with h1 | h1
    · obtain ⟨t3, t1⟩ := md_t3 (k := k) A B C hw hh h1
      unfold r12Make0_8
      simp only [h1, t3, t1, cond_true, cond_false]
      rw [of_2 B.pc B.pd B.pn]; exact pt2_id (pt2_bd _ _)
    · simp only [h1, cond_true, cond_false]
      rw [of_2 C.pc C.pd C.pn]; exact pt2_id (pt2_bd _ _)
theorem md_12 (k : Int) : sMake_12 (sOf_0 x0_0 x0_3 w) (sOf_1 x0_1 x0_3 h) (vmColour_0 x0_4) (sOf_0 x0_8 x0_11 w) (sOf_1 x0_9 x0_11 h) (sOf_0 x0_16 x0_19 w) (sOf_1 x0_17 x0_19 h) k = r12Make_12 x0_0 x0_1 x0_3 x0_4 x0_8 x0_9 x0_11 x0_16 x0_17 x0_19 w h k := by
  unfold sMake_12 r12Make_12
  rw [md_s2 A B C hw hh]
  rcases Bool.eq_false_or_eq_true (r12Make_s3 x0_0 x0_1 x0_3 x0_8 x0_9 x0_11 x0_16 x0_17 x0_19 w h k) with h3 | h3
  · rw [h3]; rfl
  · rw [h3]
    try rw [md_s0 A B C hw hh]
    rcases Bool.eq_false_or_eq_true (r12Make_s1 x0_0 x0_1 x0_3 x0_8 x0_9 x0_11 x0_16 x0_17 x0_19 w h) with h1 | h1
    · obtain ⟨t3, t1⟩ := md_t3 (k := k) A B C hw hh h1
      unfold r12Make0_12
      simp only [h1, t3, t1, cond_true, cond_false]
      rw [col0_id A.pe, col0_id A.pe]
    · simp only [h1, cond_true, cond_false]
      rw [col0_id A.pe, col0_id A.pe]
theorem md_13 (k : Int) : sMake_13 (sOf_0 x0_0 x0_3 w) (sOf_1 x0_1 x0_3 h) (vmColour_1 x0_5) (sOf_0 x0_8 x0_11 w) (sOf_1 x0_9 x0_11 h) (sOf_0 x0_16 x0_19 w) (sOf_1 x0_17 x0_19 h) k = r12Make_13 x0_0 x0_1 x0_3 x0_5 x0_8 x0_9 x0_11 x0_16 x0_17 x0_19 w h k := by
  unfold sMake_13 r12Make_13
  rw [md_s2 A B C hw hh]
  rcases Bool.eq_false_or_eq_true (r12Make_s3 x0_0 x0_1 x0_3 x0_8 x0_9 x0_11 x0_16 x0_17 x0_19 w h k) with h3 | h3
  · rw [h3]; rfl
  · rw [h3]
    try rw [md_s0 A B C hw hh]
    rcases Bool.eq_false_or_eq_true (r12Make_s1 x0_0 x0_1 x0_3 x0_8 x0_9 x0_11 x0_16 x0_17 x0_19 w h) with h1 | h1
    · obtain ⟨t3, t1⟩ := md_t3 (k := k) A B C hw hh h1
      unfold r12Make0_13
      simp only [h1, t3, t1, cond_true, cond_false]
      rw [col1_id A.pf, col1_id A.pf]
    · simp only [h1, cond_true, cond_false]
      rw [col1_id A.pf, col1_id A.pf]
theorem md_14 (k : Int) : sMake_14 (sOf_0 x0_0 x0_3 w) (sOf_1 x0_1 x0_3 h) (vmColour_2 x0_6) (sOf_0 x0_8 x0_11 w) (sOf_1 x0_9 x0_11 h) (sOf_0 x0_16 x0_19 w) (sOf_1 x0_17 x0_19 h) k = r12Make_14 x0_0 x0_1 x0_3 x0_6 x0_8 x0_9 x0_11 x0_16 x0_17 x0_19 w h k := by
  unfold sMake_14 r12Make_14
  rw [md_s2 A B C hw hh]
  rcases Bool.eq_false_or_eq_true (r12Make_s3 x0_0 x0_1 x0_3 x0_8 x0_9 x0_11 x0_16 x0_17 x0_19 w h k) with h3 | h3
  · rw [h3]; rfl
  · rw [h3]
    try rw [md_s0 A B C hw hh]
    rcases Bool.eq_false_or_eq_true (r12Make_s1 x0_0 x0_1 x0_3 x0_8 x0_9 x0_11 x0_16 x0_17 x0_19 w h) with h1 | h1
    · obtain ⟨t3, t1⟩ := md_t3 (k := k) A B C hw hh h1
      unfold r12Make0_14
      simp only [h1, t3, t1, cond_true, cond_false]
      rw [col2_id A.pg, col2_id A.pg]
    · simp only [h1, cond_true, cond_false]
      rw [col2_id A.pg, col2_id A.pg]
theorem md_15 (k : Int) : sMake_15 (sOf_0 x0_0 x0_3 w) (sOf_1 x0_1 x0_3 h) (vmColour_3 x0_7) (sOf_0 x0_8 x0_11 w) (sOf_1 x0_9 x0_11 h) (sOf_0 x0_16 x0_19 w) (sOf_1 x0_17 x0_19 h) k = r12Make_15 x0_0 x0_1 x0_3 x0_7 x0_8 x0_9 x0_11 x0_16 x0_17 x0_19 w h k := by
  unfold sMake_15 r12Make_15
  rw [md_s2 A B C hw hh]
  rcases Bool.eq_false_or_eq_true (r12Make_s3 x0_0 x0_1 x0_3 x0_8 x0_9 x0_11 x0_16 x0_17 x0_19 w h k) with h3 | h3
  · rw [h3]; rfl
  · rw [h3]
    try rw [md_s0 A B C hw hh]
    rcases Bool.eq_false_or_eq_true (r12Make_s1 x0_0 x0_1 x0_3 x0_8 x0_9 x0_11 x0_16 x0_17 x0_19 w h) with h1 | h1
    · obtain ⟨t3, t1⟩ := md_t3 (k := k) A B C hw hh h1
      unfold r12Make0_15
      simp only [h1, t3, t1, cond_true, cond_false]
      rw [col3_id A.pi, col3_id A.pi]
    · simp only [h1, cond_true, cond_false]
      rw [col3_id A.pi, col3_id A.pi]
theorem md_16 (k : Int) : sMake_16 (sOf_0 x0_0 x0_3 w) (sOf_1 x0_1 x0_3 h) (sOf_0 x0_8 x0_11 w) (sOf_1 x0_9 x0_11 h) (vmColour_0 x0_12) (sOf_0 x0_16 x0_19 w) (sOf_1 x0_17 x0_19 h) (vmColour_0 x0_20) k = r12Make_16 x0_0 x0_1 x0_3 x0_8 x0_9 x0_11 x0_12 x0_16 x0_17 x0_19 x0_20 w h k := by
  unfold sMake_16 r12Make_16
  rw [md_s2 A B C hw hh]
  rcases Bool.eq_false_or_eq_true (r12Make_s3 x0_0 x0_1 x0_3 x0_8 x0_9 x0_11 x0_16 x0_17 x0_19 w h k) with h3 | h3
  · rw [h3]; rfl
  · rw [h3]
    try rw [md_s0 A B C hw hh]
    rcases Bool.eq_false_or_eq_true (r12Make_s1 x0_0 x0_1 x0_3 x0_8 x0_9 x0_11 x0_16 x0_17 x0_19 w h) with h1 | h1
    · obtain ⟨t3, t1⟩ := md_t3 (k := k) A B C hw hh h1
      unfold r12Make0_16
      simp only [h1, t3, t1, cond_true, cond_false]
      rw [col0_id C.pe, col0_id C.pe]
    · simp only [h1, cond_true, cond_false]
      rw [col0_id B.pe, col0_id B.pe]
theorem md_17 (k : Int) : sMake_17 (sOf_0 x0_0 x0_3 w) (sOf_1 x0_1 x0_3 h) (sOf_0 x0_8 x0_11 w) (sOf_1 x0_9 x0_11 h) (vmColour_1 x0_13) (sOf_0 x0_16 x0_19 w) (sOf_1 x0_17 x0_19 h) (vmColour_1 x0_21) k = r12Make_17 x0_0 x0_1 x0_3 x0_8 x0_9 x0_11 x0_13 x0_16 x0_17 x0_19 x0_21 w h k := by
  unfold sMake_17 r12Make_17
  rw [md_s2 A B C hw hh]
  rcases Bool.eq_false_or_eq_true (r12Make_s3 x0_0 x0_1 x0_3 x0_8 x0_9 x0_11 x0_16 x0_17 x0_19 w h k) with h3 | h3
  · rw [h3]; rfl
  · rw [h3]
    try rw [md_s0 A B C hw hh]
    rcases Bool.eq_false_or_eq_true (r12Make_s1 x0_0 x0_1 x0_3 x0_8 x0_9 x0_11 x0_16 x0_17 x0_19 w h) with h1 | h1
    · obtain ⟨t3, t1⟩ := md_t3 (k := k) A B C hw hh h1
      unfold r12Make0_17
      simp only [h1, t3, t1, cond_true, cond_false]
      rw [col1_id C.pf, col1_id C.pf]
    · simp only [h1, cond_true, cond_false]
      rw [col1_id B.pf, col1_id B.pf]
theorem md_18 (k : Int) : sMake_18 (sOf_0 x0_0 x0_3 w) (sOf_1 x0_1 x0_3 h) (sOf_0 x0_8 x0_11 w) (sOf_1 x0_9 x0_11 h) (vmColour_2 x0_14) (sOf_0 x0_16 x0_19 w) (sOf_1 x0_17 x0_19 h) (vmColour_2 x0_22) k = r12Make_18 x0_0 x0_1 x0_3 x0_8 x0_9 x0_11 x0_14 x0_16 x0_17 x0_19 x0_22 w h k := by
  unfold sMake_18 r12Make_18
  rw [md_s2 A B C hw hh]
  rcases Bool.eq_false_or_eq_true (r12Make_s3 x0_0 x0_1 x0_3 x0_8 x0_9 x0_11 x0_16 x0_17 x0_19 w h k) with h3 | h3
  · rw [h3]; rfl
  · rw [h3]
    try rw [md_s0 A B C hw hh]
    rcases Bool.eq_false_or_eq_true (r12Make_s1 x0_0 x0_1 x0_3 x0_8 x0_9 x0_11 x0_16 x0_17 x0_19 w h) with h1 | h1
    · obtain ⟨t3, t1⟩ := md_t3 (k := k) A B C hw hh h1
      unfold r12Make0_18
      simp only [h1, t3, t1, cond_true, cond_false]
      rw [col2_id C.pg, col2_id C.pg]
    · simp only [h1, cond_true, cond_false]
      rw [col2_id B.pg, col2_id B.pg]
theorem md_19 (k : Int) : sMake_19 (sOf_0 x0_0 x0_3 w) (sOf_1 x0_1 x0_3 h) (sOf_0 x0_8 x0_11 w) (sOf_1 x0_9 x0_11 h) (vmColour_3 x0_15) (sOf_0 x0_16 x0_19 w) (sOf_1 x0_17 x0_19 h) (vmColour_3 x0_23) k = r12Make_19 x0_0 x0_1 x0_3 x0_8 x0_9 x0_11 x0_15 x0_16 x0_17 x0_19 x0_23 w h k := by
  unfold sMake_19 r12Make_19
  rw [md_s2 A B C hw hh]
  rcases Bool.eq_false_or_eq_true (r12Make_s3 x0_0 x0_1 x0_3 x0_8 x0_9 x0_11 x0_16 x0_17 x0_19 w h k) with h3 | h3
  · rw [h3]; rfl
  · rw [h3]
    try rw [md_s0 A B C hw hh]
    rcases Bool.eq_false_or_eq_true (r12Make_s1 x0_0 x0_1 x0_3 x0_8 x0_9 x0_11 x0_16 x0_17 x0_19 w h) with h1 | h1
    · obtain ⟨t3, t1⟩ := md_t3 (k := k) A B C hw hh h1
      unfold r12Make0_19
      simp only [h1, t3, t1, cond_true, cond_false]
      rw [col3_id C.pi, col3_id C.pi]
    · simp only [h1, cond_true, cond_false]
      rw [col3_id B.pi, col3_id B.pi]
theorem md_20 (k : Int) : sMake_20 (sOf_0 x0_0 x0_3 w) (sOf_1 x0_1 x0_3 h) (sOf_0 x0_8 x0_11 w) (sOf_1 x0_9 x0_11 h) (vmColour_0 x0_12) (sOf_0 x0_16 x0_19 w) (sOf_1 x0_17 x0_19 h) (vmColour_0 x0_20) k = r12Make_20 x0_0 x0_1 x0_3 x0_8 x0_9 x0_11 x0_12 x0_16 x0_17 x0_19 x0_20 w h k := by
  unfold sMake_20 r12Make_20
  rw [md_s2 A B C hw hh]
  rcases Bool.eq_false_or_eq_true (r12Make_s3 x0_0 x0_1 x0_3 x0_8 x0_9 x0_11 x0_16 x0_17 x0_19 w h k) with h3 | h3
  · rw [h3]; rfl
  · rw [h3]
    try rw [md_s0 A B C hw hh]
    rcases Bool.eq_false_or_eq_true (r12Make_s1 x0_0 x0_1 x0_3 x0_8 x0_9 x0_11 x0_16 x0_17 x0_19 w h) with h1 | h1
    · obtain ⟨t3, t1⟩ := md_t3 (k := k) A B C hw hh h1
      unfold r12Make0_20
      simp only [h1, t3, t1, cond_true, cond_false]
      rw [col0_id B.pe, col0_id B.pe]
    · simp only [h1, cond_true, cond_false]
      rw [col0_id C.pe, col0_id C.pe]
theorem md_21 (k : Int) : sMake_21 (sOf_0 x0_0 x0_3 w) (sOf_1 x0_1 x0_3 h) (sOf_0 x0_8 x0_11 w) (sOf_1 x0_9 x0_11 h) (vmColour_1 x0_13) (sOf_0 x0_16 x0_19 w) (sOf_1 x0_17 x0_19 h) (vmColour_1 x0_21) k = r12Make_21 x0_0 x0_1 x0_3 x0_8 x0_9 x0_11 x0_13 x0_16 x0_17 x0_19 x0_21 w h k := by
  unfold sMake_21 r12Make_21
  rw [md_s2 A B C hw hh]
  rcases Bool.eq_false_or_eq_true (r12Make_s3 x0_0 x0_1 x0_3 x0_8 x0_9 x0_11 x0_16 x0_17 x0_19 w h k) with h3 | h3
  · rw [h3]; rfl
  · rw [h3]
    try rw [md_s0 A B C hw hh]
    rcases Bool.eq_false_or_eq_true (r12Make_s1 x0_0 x0_1 x0_3 x0_8 x0_9 x0_11 x0_16 x0_17 x0_19 w h) with h1 | h1
    · obtain ⟨t3, t1⟩ := md_t3 (k := k) A B C hw hh h1
      unfold r12Make0_21
      simp only [h1, t3, t1, cond_true, cond_false]
      rw [col1_id B.pf, col1_id B.pf]
    · simp only [h1, cond_true, cond_false]
      rw [col1_id C.pf, col1_id C.pf]
theorem md_22 (k : Int) : sMake_22 (sOf_0 x0_0 x0_3 w) (sOf_1 x0_1 x0_3 h) (sOf_0 x0_8 x0_11 w) (sOf_1 x0_9 x0_11 h) (vmColour_2 x0_14) (sOf_0 x0_16 x0_19 w) (sOf_1 x0_17 x0_19 h) (vmColour_2 x0_22) k = r12Make_22 x0_0 x0_1 x0_3 x0_8 x0_9 x0_11 x0_14 x0_16 x0_17 x0_19 x0_22 w h k := by
  unfold sMake_22 r12Make_22
  rw [md_s2 A B C hw hh]
  rcases Bool.eq_false_or_eq_true (r12Make_s3 x0_0 x0_1 x0_3 x0_8 x0_9 x0_11 x0_16 x0_17 x0_19 w h k) with h3 | h3
  · rw [h3]; rfl
  · rw [h3]
    try rw [md_s0 A B C hw hh]
    rcases Bool.eq_false_or_eq_true (r12Make_s1 x0_0 x0_1 x0_3 x0_8 x0_9 x0_11 x0_16 x0_17 x0_19 w h) with h1 | h1
    · obtain ⟨t3, t1⟩ := md_t3 (k := k) A B C hw hh h1
      unfold r12Make0_22
      simp only [h1, t3, t1, cond_true, cond_false]
      rw [col2_id B.pg, col2_id B.pg]
    · simp only [h1, cond_true, cond_false]
      rw [col2_id C.pg, col2_id C.pg]
theorem md_23 (k : Int) : sMake_23 (sOf_0 x0_0 x0_3 w) (sOf_1 x0_1 x0_3 h) (sOf_0 x0_8 x0_11 w) (sOf_1 x0_9 x0_11 h) (vmColour_3 x0_15) (sOf_0 x0_16 x0_19 w) (sOf_1 x0_17 x0_19 h) (vmColour_3 x0_23) k = r12Make_23 x0_0 x0_1 x0_3 x0_8 x0_9 x0_11 x0_15 x0_16 x0_17 x0_19 x0_23 w h k := by
  unfold sMake_23 r12Make_23
  rw [md_s2 A B C hw hh]
  rcases Bool.eq_false_or_eq_true (r12Make_s3 x0_0 x0_1 x0_3 x0_8 x0_9 x0_11 x0_16 x0_17 x0_19 w h k) with h3 | h3
  · rw [h3]; rfl
  · rw [h3]
    try rw [md_s0 A B C hw hh]
    rcases Bool.eq_false_or_eq_true (r12Make_s1 x0_0 x0_1 x0_3 x0_8 x0_9 x0_11 x0_16 x0_17 x0_19 w h) with h1 | h1
    · obtain ⟨t3, t1⟩ := md_t3 (k := k) A B C hw hh h1
      unfold r12Make0_23
      simp only [h1, t3, t1, cond_true, cond_false]
      rw [col3_id B.pi, col3_id B.pi]
    · simp only [h1, cond_true, cond_false]
      rw [col3_id C.pi, col3_id C.pi]
end

end Go.Proofs.Ytbdmaepooahplaa
