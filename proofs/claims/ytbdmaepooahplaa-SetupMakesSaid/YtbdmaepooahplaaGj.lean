/-
  SetupMakes: what is checked, the loop, the law (printed by tools/gengj.py).
-/
import Derived.Test.YtbdmaepooahplaaGi
namespace Go.Proofs.Ytbdmaepooahplaa
open Go Go.RowKit Go.Proofs.Ytbdmaepooahplaa.V
set_option linter.unusedVariables false
set_option linter.unusedSectionVars false
set_option linter.unusedSimpArgs false

theorem r12b_bd (x : Int) : 1 ≤ r12bound_0 x 1 1024 ∧ r12bound_0 x 1 1024 ≤ 1024 := by
  unfold r12bound_0
  by_cases h : x < 1
  · rw [decide_eq_true h]; simp only [cond_true]; omega
  · rw [decide_eq_false h]
    by_cases g : 1024 < x
    · rw [decide_eq_true g]; simp only [cond_false, cond_true]; omega
    · rw [decide_eq_false g]; simp only [cond_false]; omega
theorem z_bd (x : Int) : 0 ≤ (if 65535 < (if x < 0 then 0 else x) then 65535 else (if x < 0 then 0 else x)) ∧ (if 65535 < (if x < 0 then 0 else x) then 65535 else (if x < 0 then 0 else x)) ≤ 65535 := by
  split <;> split <;> omega

section
variable {x0_0 x0_1 x0_2 x0_3 x0_4 x0_5 x0_6 x0_7 x0_8 x0_9 x0_10 x0_11 x0_12 x0_13 x0_14 x0_15 x0_16 x0_17 x0_18 x0_19 x0_20 x0_21 x0_22 x0_23 w h : Int} (A : Sh x0_0 x0_1 x0_2 x0_3 x0_4 x0_5 x0_6 x0_7) (B : Sh x0_8 x0_9 x0_10 x0_11 x0_12 x0_13 x0_14 x0_15) (C : Sh x0_16 x0_17 x0_18 x0_19 x0_20 x0_21 x0_22 x0_23) (hw : 1 ≤ w ∧ w ≤ 64) (hh : 1 ≤ h ∧ h ≤ 64)
include A B C hw hh

theorem mk_n9 {k : Int} (g : sMake_s2 (sOf_0 x0_0 x0_3 w) (sOf_1 x0_1 x0_3 h) (sOf_0 x0_8 x0_11 w) (sOf_1 x0_9 x0_11 h) (sOf_0 x0_16 x0_19 w) (sOf_1 x0_17 x0_19 h) k = false) : 1 ≤ sMake_9 (sOf_0 x0_0 x0_3 w) (sOf_1 x0_1 x0_3 h) (sOf_s2 x0_3) (sOf_0 x0_8 x0_11 w) (sOf_1 x0_9 x0_11 h) (sOf_s2 x0_11) (sOf_0 x0_16 x0_19 w) (sOf_1 x0_17 x0_19 h) (sOf_s2 x0_19) k ∧ sMake_9 (sOf_0 x0_0 x0_3 w) (sOf_1 x0_1 x0_3 h) (sOf_s2 x0_3) (sOf_0 x0_8 x0_11 w) (sOf_1 x0_9 x0_11 h) (sOf_s2 x0_11) (sOf_0 x0_16 x0_19 w) (sOf_1 x0_17 x0_19 h) (sOf_s2 x0_19) k ≤ 1024 := by
  rw [md_s2 A B C hw hh] at g
  rw [md_9 A B C hw hh]
  unfold r12Make_9
  rcases Bool.eq_false_or_eq_true (r12Make_s1 x0_0 x0_1 x0_3 x0_8 x0_9 x0_11 x0_16 x0_17 x0_19 w h) with h1 | h1
  · obtain ⟨t3, t1⟩ := md_t3 (k := k) A B C hw hh h1
    unfold r12Make0_9
    simp only [g, h1, t3, t1, cond_true, cond_false]
    exact r12b_bd _
  · simp only [g, h1, cond_true, cond_false]
    exact r12b_bd _
theorem mk_n10 {k : Int} (g : sMake_s2 (sOf_0 x0_0 x0_3 w) (sOf_1 x0_1 x0_3 h) (sOf_0 x0_8 x0_11 w) (sOf_1 x0_9 x0_11 h) (sOf_0 x0_16 x0_19 w) (sOf_1 x0_17 x0_19 h) k = false) : 1 ≤ sMake_10 (sOf_0 x0_0 x0_3 w) (sOf_1 x0_1 x0_3 h) (sOf_s2 x0_3) (sOf_0 x0_8 x0_11 w) (sOf_1 x0_9 x0_11 h) (sOf_s2 x0_11) (sOf_0 x0_16 x0_19 w) (sOf_1 x0_17 x0_19 h) (sOf_s2 x0_19) k ∧ sMake_10 (sOf_0 x0_0 x0_3 w) (sOf_1 x0_1 x0_3 h) (sOf_s2 x0_3) (sOf_0 x0_8 x0_11 w) (sOf_1 x0_9 x0_11 h) (sOf_s2 x0_11) (sOf_0 x0_16 x0_19 w) (sOf_1 x0_17 x0_19 h) (sOf_s2 x0_19) k ≤ 1024 := by
  rw [md_s2 A B C hw hh] at g
  rw [md_10 A B C hw hh]
  unfold r12Make_10
  rcases Bool.eq_false_or_eq_true (r12Make_s1 x0_0 x0_1 x0_3 x0_8 x0_9 x0_11 x0_16 x0_17 x0_19 w h) with h1 | h1
  · obtain ⟨t3, t1⟩ := md_t3 (k := k) A B C hw hh h1
    unfold r12Make0_10
    simp only [g, h1, t3, t1, cond_true, cond_false]
    exact r12b_bd _
  · simp only [g, h1, cond_true, cond_false]
    exact r12b_bd _
theorem mk_n11 {k : Int} (g : sMake_s2 (sOf_0 x0_0 x0_3 w) (sOf_1 x0_1 x0_3 h) (sOf_0 x0_8 x0_11 w) (sOf_1 x0_9 x0_11 h) (sOf_0 x0_16 x0_19 w) (sOf_1 x0_17 x0_19 h) k = false) : 1 ≤ sMake_11 (sOf_0 x0_0 x0_3 w) (sOf_1 x0_1 x0_3 h) (sOf_s2 x0_3) (sOf_0 x0_8 x0_11 w) (sOf_1 x0_9 x0_11 h) (sOf_s2 x0_11) (sOf_0 x0_16 x0_19 w) (sOf_1 x0_17 x0_19 h) (sOf_s2 x0_19) k ∧ sMake_11 (sOf_0 x0_0 x0_3 w) (sOf_1 x0_1 x0_3 h) (sOf_s2 x0_3) (sOf_0 x0_8 x0_11 w) (sOf_1 x0_9 x0_11 h) (sOf_s2 x0_11) (sOf_0 x0_16 x0_19 w) (sOf_1 x0_17 x0_19 h) (sOf_s2 x0_19) k ≤ 1024 := by
  rw [md_s2 A B C hw hh] at g
  rw [md_11 A B C hw hh]
  unfold r12Make_11
  rcases Bool.eq_false_or_eq_true (r12Make_s1 x0_0 x0_1 x0_3 x0_8 x0_9 x0_11 x0_16 x0_17 x0_19 w h) with h1 | h1
  · obtain ⟨t3, t1⟩ := md_t3 (k := k) A B C hw hh h1
    unfold r12Make0_11
    simp only [g, h1, t3, t1, cond_true, cond_false]
    exact r12b_bd _
  · simp only [g, h1, cond_true, cond_false]
    exact r12b_bd _
end

section
variable {A0 A1 A2 A3 A4 A5 A6 A7 B0 B1 B2 B3 B4 B5 B6 B7 C0 C1 C2 C3 C4 C5 C6 C7 K : Int} (iA0 : fWithin_0 A0 16384 = A0) (iA1 : fWithin_0 A1 16384 = A1) (iB0 : fWithin_0 B0 16384 = B0) (iB1 : fWithin_0 B1 16384 = B1) (iC0 : fWithin_0 C0 16384 = C0) (iC1 : fWithin_0 C1 16384 = C1)
include iA0 iA1 iB0 iB1 iC0 iC1
theorem mk_check (h2 : (sMake_s2 A0 A1 B0 B1 C0 C1 K) = false) (n9 : 1 ≤ (sMake_9 A0 A1 A3 B0 B1 B3 C0 C1 C3 K) ∧ (sMake_9 A0 A1 A3 B0 B1 B3 C0 C1 C3 K) ≤ 1024) (n10 : 1 ≤ (sMake_10 A0 A1 A3 B0 B1 B3 C0 C1 C3 K) ∧ (sMake_10 A0 A1 A3 B0 B1 B3 C0 C1 C3 K) ≤ 1024) (n11 : 1 ≤ (sMake_11 A0 A1 A3 B0 B1 B3 C0 C1 C3 K) ∧ (sMake_11 A0 A1 A3 B0 B1 B3 C0 C1 C3 K) ≤ 1024) : sCheck_0 (sMake_0 A0 A1 B0 B1 C0 C1 K) (sMake_1 A0 A1 B0 B1 C0 C1 K) (sMake_2 A0 A1 B0 B1 C0 C1 K) (sMake_3 A0 A1 B0 B1 C0 C1 K) (sMake_4 A0 A1 B0 B1 C0 C1 K) (sMake_5 A0 A1 B0 B1 C0 C1 K) (sMake_6 A0 A1 A2 B0 B1 C0 C1 K) (sMake_7 A0 A1 B0 B1 B2 C0 C1 C2 K) (sMake_8 A0 A1 B0 B1 B2 C0 C1 C2 K) (sMake_9 A0 A1 A3 B0 B1 B3 C0 C1 C3 K) (sMake_10 A0 A1 A3 B0 B1 B3 C0 C1 C3 K) (sMake_11 A0 A1 A3 B0 B1 B3 C0 C1 C3 K) (sMake_12 A0 A1 A4 B0 B1 C0 C1 K) (sMake_13 A0 A1 A5 B0 B1 C0 C1 K) (sMake_14 A0 A1 A6 B0 B1 C0 C1 K) (sMake_15 A0 A1 A7 B0 B1 C0 C1 K) (sMake_16 A0 A1 B0 B1 B4 C0 C1 C4 K) (sMake_17 A0 A1 B0 B1 B5 C0 C1 C5 K) (sMake_18 A0 A1 B0 B1 B6 C0 C1 C6 K) (sMake_19 A0 A1 B0 B1 B7 C0 C1 C7 K) (sMake_20 A0 A1 B0 B1 B4 C0 C1 C4 K) (sMake_21 A0 A1 B0 B1 B5 C0 C1 C5 K) (sMake_22 A0 A1 B0 B1 B6 C0 C1 C6 K) (sMake_23 A0 A1 B0 B1 B7 C0 C1 C7 K) = 0 := by
  have bA0 : -16384 ≤ A0 ∧ A0 ≤ 16384 := by rw [← iA0, fw]; exact ⟨nc_ge _, nc_le _⟩
  have bA1 : -16384 ≤ A1 ∧ A1 ≤ 16384 := by rw [← iA1, fw]; exact ⟨nc_ge _, nc_le _⟩
  have bB0 : -16384 ≤ B0 ∧ B0 ≤ 16384 := by rw [← iB0, fw]; exact ⟨nc_ge _, nc_le _⟩
  have bB1 : -16384 ≤ B1 ∧ B1 ≤ 16384 := by rw [← iB1, fw]; exact ⟨nc_ge _, nc_le _⟩
  have bC0 : -16384 ≤ C0 ∧ C0 ≤ 16384 := by rw [← iC0, fw]; exact ⟨nc_ge _, nc_le _⟩
  have bC1 : -16384 ≤ C1 ∧ C1 ≤ 16384 := by rw [← iC1, fw]; exact ⟨nc_ge _, nc_le _⟩
  have e0 : (sMake_0 A0 A1 B0 B1 C0 C1 K) = A0 := by unfold sMake_0; rw [h2]; exact iA0
  have e1 : (sMake_1 A0 A1 B0 B1 C0 C1 K) = A1 := by unfold sMake_1; rw [h2]; exact iA1
  rcases Bool.eq_false_or_eq_true (sMake_s0 A0 A1 B0 B1 C0 C1) with h0 | h0
  · have hs : eSide_0 A0 A1 B0 B1 C0 C1 < 0 := of_decide_eq_true h0
    have e2 : (sMake_2 A0 A1 B0 B1 C0 C1 K) = C0 := by unfold sMake_2; rw [h2, h0]; exact iC0
    have e3 : (sMake_3 A0 A1 B0 B1 C0 C1 K) = C1 := by unfold sMake_3; rw [h2, h0]; exact iC1
    have e4 : (sMake_4 A0 A1 B0 B1 C0 C1 K) = B0 := by unfold sMake_4; rw [h2, h0]; exact iB0
    have e5 : (sMake_5 A0 A1 B0 B1 C0 C1 K) = B1 := by unfold sMake_5; rw [h2, h0]; exact iB1
    rw [e0, e1, e2, e3, e4, e5]
    exact check_w bA0 bA1 bC0 bC1 bB0 bB1 (by unfold sMake_6 sMake_s3; rw [h2]; exact z_bd _) (by unfold sMake_7 sMake_s4; rw [h2]; exact z_bd _) (by unfold sMake_8 sMake_s5; rw [h2]; exact z_bd _) n9 n10 n11 (by unfold sMake_12; rw [h2]; exact col_bd _) (by unfold sMake_13; rw [h2]; exact col_bd _) (by unfold sMake_14; rw [h2]; exact col_bd _) (by unfold sMake_15; rw [h2]; exact col_bd _) (by unfold sMake_16; rw [h2]; exact col_bd _) (by unfold sMake_17; rw [h2]; exact col_bd _) (by unfold sMake_18; rw [h2]; exact col_bd _) (by unfold sMake_19; rw [h2]; exact col_bd _) (by unfold sMake_20; rw [h2]; exact col_bd _) (by unfold sMake_21; rw [h2]; exact col_bd _) (by unfold sMake_22; rw [h2]; exact col_bd _) (by unfold sMake_23; rw [h2]; exact col_bd _) (by rw [side_turn]; omega)
  · have hs : ¬ eSide_0 A0 A1 B0 B1 C0 C1 < 0 := of_decide_eq_false h0
    have hz : eSide_0 A0 A1 B0 B1 C0 C1 ≠ 0 := by
      intro hz
      have h2' := h2
      unfold sMake_s2 at h2'
      rw [hz] at h2'
      cases h2'
    have e2 : (sMake_2 A0 A1 B0 B1 C0 C1 K) = B0 := by unfold sMake_2; rw [h2, h0]; exact iB0
    have e3 : (sMake_3 A0 A1 B0 B1 C0 C1 K) = B1 := by unfold sMake_3; rw [h2, h0]; exact iB1
    have e4 : (sMake_4 A0 A1 B0 B1 C0 C1 K) = C0 := by unfold sMake_4; rw [h2, h0]; exact iC0
    have e5 : (sMake_5 A0 A1 B0 B1 C0 C1 K) = C1 := by unfold sMake_5; rw [h2, h0]; exact iC1
    rw [e0, e1, e2, e3, e4, e5]
    exact check_w bA0 bA1 bB0 bB1 bC0 bC1 (by unfold sMake_6 sMake_s3; rw [h2]; exact z_bd _) (by unfold sMake_7 sMake_s4; rw [h2]; exact z_bd _) (by unfold sMake_8 sMake_s5; rw [h2]; exact z_bd _) n9 n10 n11 (by unfold sMake_12; rw [h2]; exact col_bd _) (by unfold sMake_13; rw [h2]; exact col_bd _) (by unfold sMake_14; rw [h2]; exact col_bd _) (by unfold sMake_15; rw [h2]; exact col_bd _) (by unfold sMake_16; rw [h2]; exact col_bd _) (by unfold sMake_17; rw [h2]; exact col_bd _) (by unfold sMake_18; rw [h2]; exact col_bd _) (by unfold sMake_19; rw [h2]; exact col_bd _) (by unfold sMake_20; rw [h2]; exact col_bd _) (by unfold sMake_21; rw [h2]; exact col_bd _) (by unfold sMake_22; rw [h2]; exact col_bd _) (by unfold sMake_23; rw [h2]; exact col_bd _) (by omega)
end

theorem mk_hc (v : lMakes_l253_T) (A : Sh (e0 v 0) (e0 v 1) (e0 v 2) (e0 v 3) (e0 v 4) (e0 v 5) (e0 v 6) (e0 v 7)) (B : Sh (e1 v 0) (e1 v 1) (e1 v 2) (e1 v 3) (e1 v 4) (e1 v 5) (e1 v 6) (e1 v 7)) (C : Sh (e2 v 0) (e2 v 1) (e2 v 2) (e2 v 3) (e2 v 4) (e2 v 5) (e2 v 6) (e2 v 7)) (hw : 1 ≤ v.a2 ∧ v.a2 ≤ 64) (hh : 1 ≤ v.a3 ∧ v.a3 ≤ 64) (g : lMakes_l253_s24 v = true) : sCheck_0 (lMakes_l253_s25 v) (lMakes_l253_s26 v) (lMakes_l253_s27 v) (lMakes_l253_s28 v) (lMakes_l253_s29 v) (lMakes_l253_s30 v) (lMakes_l253_s31 v) (lMakes_l253_s34 v) (lMakes_l253_s35 v) (lMakes_l253_s36 v) (lMakes_l253_s37 v) (lMakes_l253_s38 v) (lMakes_l253_s40 v) (lMakes_l253_s42 v) (lMakes_l253_s44 v) (lMakes_l253_s46 v) (lMakes_l253_s49 v) (lMakes_l253_s52 v) (lMakes_l253_s55 v) (lMakes_l253_s58 v) (lMakes_l253_s59 v) (lMakes_l253_s60 v) (lMakes_l253_s61 v) (lMakes_l253_s62 v) = 0 := by
  have h2 : sMake_s2 (sOf_0 (e0 v 0) (e0 v 3) v.a2) (sOf_1 (e0 v 1) (e0 v 3) v.a3) (sOf_0 (e1 v 0) (e1 v 3) v.a2) (sOf_1 (e1 v 1) (e1 v 3) v.a3) (sOf_0 (e2 v 0) (e2 v 3) v.a2) (sOf_1 (e2 v 1) (e2 v 3) v.a3) (Int.tmod v.a0 3) = false := by
    have e : lMakes_l253_s24 v = !sMake_s2 (sOf_0 (e0 v 0) (e0 v 3) v.a2) (sOf_1 (e0 v 1) (e0 v 3) v.a3) (sOf_0 (e1 v 0) (e1 v 3) v.a2) (sOf_1 (e1 v 1) (e1 v 3) v.a3) (sOf_0 (e2 v 0) (e2 v 3) v.a2) (sOf_1 (e2 v 1) (e2 v 3) v.a3) (Int.tmod v.a0 3) := mk_24 ..
    rw [g] at e
    cases hh : sMake_s2 (sOf_0 (e0 v 0) (e0 v 3) v.a2) (sOf_1 (e0 v 1) (e0 v 3) v.a3) (sOf_0 (e1 v 0) (e1 v 3) v.a2) (sOf_1 (e1 v 1) (e1 v 3) v.a3) (sOf_0 (e2 v 0) (e2 v 3) v.a2) (sOf_1 (e2 v 1) (e2 v 3) v.a3) (Int.tmod v.a0 3)
    · rfl
    · rw [hh] at e; cases e
  have i0 : fWithin_0 (sOf_0 (e0 v 0) (e0 v 3) v.a2) 16384 = (sOf_0 (e0 v 0) (e0 v 3) v.a2) := by rw [of_0 A.pa A.pd A.pn hw]; exact pt0_id _ _ _
  have i1 : fWithin_0 (sOf_1 (e0 v 1) (e0 v 3) v.a3) 16384 = (sOf_1 (e0 v 1) (e0 v 3) v.a3) := by rw [of_1 A.pb A.pd A.pn hh]; exact pt1_id _ _ _
  have i2 : fWithin_0 (sOf_0 (e1 v 0) (e1 v 3) v.a2) 16384 = (sOf_0 (e1 v 0) (e1 v 3) v.a2) := by rw [of_0 B.pa B.pd B.pn hw]; exact pt0_id _ _ _
  have i3 : fWithin_0 (sOf_1 (e1 v 1) (e1 v 3) v.a3) 16384 = (sOf_1 (e1 v 1) (e1 v 3) v.a3) := by rw [of_1 B.pb B.pd B.pn hh]; exact pt1_id _ _ _
  have i4 : fWithin_0 (sOf_0 (e2 v 0) (e2 v 3) v.a2) 16384 = (sOf_0 (e2 v 0) (e2 v 3) v.a2) := by rw [of_0 C.pa C.pd C.pn hw]; exact pt0_id _ _ _
  have i5 : fWithin_0 (sOf_1 (e2 v 1) (e2 v 3) v.a3) 16384 = (sOf_1 (e2 v 1) (e2 v 3) v.a3) := by rw [of_1 C.pb C.pd C.pn hh]; exact pt1_id _ _ _
  exact mk_check i0 i1 i2 i3 i4 i5 h2 (mk_n9 A B C hw hh h2) (mk_n10 A B C hw hh h2) (mk_n11 A B C hw hh h2)

theorem n256 {x : Int} (h : 256 ≤ x) : x ≠ 0 := by omega
theorem ob_len (v : lMakes_l253_T) (hl : v.a5.length ≤ 1000000) (h4 : 0 ≤ v.a4 ∧ v.a4 ≤ 1000000) (q : lMakes_l253_s1 v = true) : (0 ≤ (0 : Int) ∧ (0 : Int) < Int.ofNat (List.length (lMakes_l253_T.a5 v))) ∧ (0 ≤ lMakes_l253_T.a4 v ∧ lMakes_l253_T.a4 v < Int.ofNat (List.length (lMakes_l253_T.a5 v))) ∧ (0 ≤ lMakes_l253_s0 v ∧ lMakes_l253_s0 v < Int.ofNat (List.length (lMakes_l253_T.a5 v))) := by
  have q' : lMakes_l253_s0 v < Int.ofNat (List.length (lMakes_l253_T.a5 v)) := of_decide_eq_true q
  have e : lMakes_l253_s0 v = v.a4 + 1 := by unfold lMakes_l253_s0; exact w64_in (by omega) (by omega)
  refine ⟨⟨by omega, by omega⟩, ⟨h4.1, by omega⟩, ⟨by omega, q'⟩⟩

theorem mk_obs (v : lMakes_l253_T) (A : Sh (e0 v 0) (e0 v 1) (e0 v 2) (e0 v 3) (e0 v 4) (e0 v 5) (e0 v 6) (e0 v 7)) (B : Sh (e1 v 0) (e1 v 1) (e1 v 2) (e1 v 3) (e1 v 4) (e1 v 5) (e1 v 6) (e1 v 7)) (C : Sh (e2 v 0) (e2 v 1) (e2 v 2) (e2 v 3) (e2 v 4) (e2 v 5) (e2 v 6) (e2 v 7)) (hw : 1 ≤ v.a2 ∧ v.a2 ≤ 64) (hh : 1 ≤ v.a3 ∧ v.a3 ≤ 64) (hl : v.a5.length ≤ 1000000) (h4 : 0 ≤ v.a4 ∧ v.a4 ≤ 1000000) : Alls (lMakes_l253_st v).1 :=
  ⟨(fun q0 => (ob_len v hl h4 q0).1),
    (fun q0 => (ob_len v hl h4 q0).2.1),
    (fun q0 => (ob_len v hl h4 q0).2.2),
    (fun q0 q1 q2 q3 q4 => absurd q2 (by rw [show rFloor_s0 (lMakes_l253_s2 v) = false from flo A.pn]; exact nofun)),
    (fun q0 q1 q2 q3 q4 q5 => absurd q2 (by rw [show rFloor_s0 (lMakes_l253_s2 v) = false from flo A.pn]; exact nofun)),
    (fun q0 q1 q2 q3 q4 q5 => absurd q2 (by rw [show rFloor_s0 (lMakes_l253_s2 v) = false from flo A.pn]; exact nofun)),
    (fun q0 q1 q2 q3 => n256 A.pn),
    (fun q0 q1 q2 q3 => n256 A.pn),
    (fun q0 q1 q2 q3 q4 => absurd q2 (by rw [show rFloor_s0 (lMakes_l253_s2 v) = false from flo A.pn]; exact nofun)),
    (fun q0 q1 q2 q3 q4 q5 => absurd q2 (by rw [show rFloor_s0 (lMakes_l253_s2 v) = false from flo A.pn]; exact nofun)),
    (fun q0 q1 q2 q3 q4 q5 => absurd q2 (by rw [show rFloor_s0 (lMakes_l253_s2 v) = false from flo A.pn]; exact nofun)),
    (fun q0 q1 q2 q3 => n256 A.pn),
    (fun q0 q1 q2 q3 => n256 A.pn),
    (fun q0 q1 q2 q3 q4 => absurd q2 (by rw [show rFloor_s0 (lMakes_l253_s2 v) = false from flo A.pn]; exact nofun)),
    (fun q0 q1 q2 q3 q4 q5 => absurd q2 (by rw [show rFloor_s0 (lMakes_l253_s2 v) = false from flo A.pn]; exact nofun)),
    (fun q0 q1 q2 q3 q4 q5 => absurd q2 (by rw [show rFloor_s0 (lMakes_l253_s2 v) = false from flo A.pn]; exact nofun)),
    (fun q0 q1 q2 q3 => n256 A.pn),
    (fun q0 q1 q2 q3 => n256 A.pn),
    (fun q0 q1 q2 q3 q4 => absurd q2 (by rw [show lMakes_l253_s6 v = false from flo B.pn]; exact nofun)),
    (fun q0 q1 q2 q3 q4 q5 => absurd q2 (by rw [show lMakes_l253_s6 v = false from flo B.pn]; exact nofun)),
    (fun q0 q1 q2 q3 q4 q5 => absurd q2 (by rw [show lMakes_l253_s6 v = false from flo B.pn]; exact nofun)),
    (fun q0 q1 q2 q3 => n256 B.pn),
    (fun q0 q1 q2 q3 => n256 B.pn),
    (fun q0 q1 q2 q3 q4 => absurd q2 (by rw [show lMakes_l253_s6 v = false from flo B.pn]; exact nofun)),
    (fun q0 q1 q2 q3 q4 q5 => absurd q2 (by rw [show lMakes_l253_s6 v = false from flo B.pn]; exact nofun)),
    (fun q0 q1 q2 q3 q4 q5 => absurd q2 (by rw [show lMakes_l253_s6 v = false from flo B.pn]; exact nofun)),
    (fun q0 q1 q2 q3 => n256 B.pn),
    (fun q0 q1 q2 q3 => n256 B.pn),
    (fun q0 q1 q2 q3 q4 => absurd q2 (by rw [show lMakes_l253_s6 v = false from flo B.pn]; exact nofun)),
    (fun q0 q1 q2 q3 q4 q5 => absurd q2 (by rw [show lMakes_l253_s6 v = false from flo B.pn]; exact nofun)),
    (fun q0 q1 q2 q3 q4 q5 => absurd q2 (by rw [show lMakes_l253_s6 v = false from flo B.pn]; exact nofun)),
    (fun q0 q1 q2 q3 => n256 B.pn),
    (fun q0 q1 q2 q3 => n256 B.pn),
    (fun q0 q1 q2 q3 q4 => absurd q2 (by rw [show lMakes_l253_s11 v = false from flo C.pn]; exact nofun)),
    (fun q0 q1 q2 q3 q4 q5 => absurd q2 (by rw [show lMakes_l253_s11 v = false from flo C.pn]; exact nofun)),
    (fun q0 q1 q2 q3 q4 q5 => absurd q2 (by rw [show lMakes_l253_s11 v = false from flo C.pn]; exact nofun)),
    (fun q0 q1 q2 q3 => n256 C.pn),
    (fun q0 q1 q2 q3 => n256 C.pn),
    (fun q0 q1 q2 q3 q4 => absurd q2 (by rw [show lMakes_l253_s11 v = false from flo C.pn]; exact nofun)),
    (fun q0 q1 q2 q3 q4 q5 => absurd q2 (by rw [show lMakes_l253_s11 v = false from flo C.pn]; exact nofun)),
    (fun q0 q1 q2 q3 q4 q5 => absurd q2 (by rw [show lMakes_l253_s11 v = false from flo C.pn]; exact nofun)),
    (fun q0 q1 q2 q3 => n256 C.pn),
    (fun q0 q1 q2 q3 => n256 C.pn),
    (fun q0 q1 q2 q3 q4 => absurd q2 (by rw [show lMakes_l253_s11 v = false from flo C.pn]; exact nofun)),
    (fun q0 q1 q2 q3 q4 q5 => absurd q2 (by rw [show lMakes_l253_s11 v = false from flo C.pn]; exact nofun)),
    (fun q0 q1 q2 q3 q4 q5 => absurd q2 (by rw [show lMakes_l253_s11 v = false from flo C.pn]; exact nofun)),
    (fun q0 q1 q2 q3 => n256 C.pn),
    (fun q0 q1 q2 q3 => n256 C.pn),
    (fun q0 q1 q2 q3 q4 q5 q6 => absurd q4 (by rw [show rFloor_s0 (lMakes_l253_s2 v) = false from flo A.pn]; exact nofun)),
    (fun q0 q1 q2 q3 q4 q5 q6 q7 => absurd q4 (by rw [show rFloor_s0 (lMakes_l253_s2 v) = false from flo A.pn]; exact nofun)),
    (fun q0 q1 q2 q3 q4 q5 q6 q7 => absurd q4 (by rw [show rFloor_s0 (lMakes_l253_s2 v) = false from flo A.pn]; exact nofun)),
    (fun q0 q1 q2 q3 q4 q5 => n256 A.pn),
    (fun q0 q1 q2 q3 q4 q5 => n256 A.pn),
    (fun q0 q1 q2 q3 q4 q5 q6 => absurd q4 (by rw [show rFloor_s0 (lMakes_l253_s2 v) = false from flo A.pn]; exact nofun)),
    (fun q0 q1 q2 q3 q4 q5 q6 q7 => absurd q4 (by rw [show rFloor_s0 (lMakes_l253_s2 v) = false from flo A.pn]; exact nofun)),
    (fun q0 q1 q2 q3 q4 q5 q6 q7 => absurd q4 (by rw [show rFloor_s0 (lMakes_l253_s2 v) = false from flo A.pn]; exact nofun)),
    (fun q0 q1 q2 q3 q4 q5 => n256 A.pn),
    (fun q0 q1 q2 q3 q4 q5 => n256 A.pn),
    (fun q0 q1 q2 q3 q4 q5 q6 => absurd q4 (by rw [show rFloor_s0 (lMakes_l253_s2 v) = false from flo A.pn]; exact nofun)),
    (fun q0 q1 q2 q3 q4 q5 q6 q7 => absurd q4 (by rw [show rFloor_s0 (lMakes_l253_s2 v) = false from flo A.pn]; exact nofun)),
    (fun q0 q1 q2 q3 q4 q5 q6 q7 => absurd q4 (by rw [show rFloor_s0 (lMakes_l253_s2 v) = false from flo A.pn]; exact nofun)),
    (fun q0 q1 q2 q3 q4 q5 => n256 A.pn),
    (fun q0 q1 q2 q3 q4 q5 => n256 A.pn),
    (fun q0 q1 q2 q3 q4 q5 q6 => absurd q4 (by rw [show lMakes_l253_s11 v = false from flo C.pn]; exact nofun)),
    (fun q0 q1 q2 q3 q4 q5 q6 q7 => absurd q4 (by rw [show lMakes_l253_s11 v = false from flo C.pn]; exact nofun)),
    (fun q0 q1 q2 q3 q4 q5 q6 q7 => absurd q4 (by rw [show lMakes_l253_s11 v = false from flo C.pn]; exact nofun)),
    (fun q0 q1 q2 q3 q4 q5 => n256 C.pn),
    (fun q0 q1 q2 q3 q4 q5 => n256 C.pn),
    (fun q0 q1 q2 q3 q4 q5 q6 => absurd q4 (by rw [show lMakes_l253_s11 v = false from flo C.pn]; exact nofun)),
    (fun q0 q1 q2 q3 q4 q5 q6 q7 => absurd q4 (by rw [show lMakes_l253_s11 v = false from flo C.pn]; exact nofun)),
    (fun q0 q1 q2 q3 q4 q5 q6 q7 => absurd q4 (by rw [show lMakes_l253_s11 v = false from flo C.pn]; exact nofun)),
    (fun q0 q1 q2 q3 q4 q5 => n256 C.pn),
    (fun q0 q1 q2 q3 q4 q5 => n256 C.pn),
    (fun q0 q1 q2 q3 q4 q5 q6 => absurd q4 (by rw [show lMakes_l253_s11 v = false from flo C.pn]; exact nofun)),
    (fun q0 q1 q2 q3 q4 q5 q6 q7 => absurd q4 (by rw [show lMakes_l253_s11 v = false from flo C.pn]; exact nofun)),
    (fun q0 q1 q2 q3 q4 q5 q6 q7 => absurd q4 (by rw [show lMakes_l253_s11 v = false from flo C.pn]; exact nofun)),
    (fun q0 q1 q2 q3 q4 q5 => n256 C.pn),
    (fun q0 q1 q2 q3 q4 q5 => n256 C.pn),
    (fun q0 q1 q2 q3 q4 q5 q6 => absurd q4 (by rw [show lMakes_l253_s6 v = false from flo B.pn]; exact nofun)),
    (fun q0 q1 q2 q3 q4 q5 q6 q7 => absurd q4 (by rw [show lMakes_l253_s6 v = false from flo B.pn]; exact nofun)),
    (fun q0 q1 q2 q3 q4 q5 q6 q7 => absurd q4 (by rw [show lMakes_l253_s6 v = false from flo B.pn]; exact nofun)),
    (fun q0 q1 q2 q3 q4 q5 => n256 B.pn),
    (fun q0 q1 q2 q3 q4 q5 => n256 B.pn),
    (fun q0 q1 q2 q3 q4 q5 q6 => absurd q4 (by rw [show lMakes_l253_s6 v = false from flo B.pn]; exact nofun)),
    (fun q0 q1 q2 q3 q4 q5 q6 q7 => absurd q4 (by rw [show lMakes_l253_s6 v = false from flo B.pn]; exact nofun)),
    (fun q0 q1 q2 q3 q4 q5 q6 q7 => absurd q4 (by rw [show lMakes_l253_s6 v = false from flo B.pn]; exact nofun)),
    (fun q0 q1 q2 q3 q4 q5 => n256 B.pn),
    (fun q0 q1 q2 q3 q4 q5 => n256 B.pn),
    (fun q0 q1 q2 q3 q4 q5 q6 => absurd q4 (by rw [show lMakes_l253_s6 v = false from flo B.pn]; exact nofun)),
    (fun q0 q1 q2 q3 q4 q5 q6 q7 => absurd q4 (by rw [show lMakes_l253_s6 v = false from flo B.pn]; exact nofun)),
    (fun q0 q1 q2 q3 q4 q5 q6 q7 => absurd q4 (by rw [show lMakes_l253_s6 v = false from flo B.pn]; exact nofun)),
    (fun q0 q1 q2 q3 q4 q5 => n256 B.pn),
    (fun q0 q1 q2 q3 q4 q5 => n256 B.pn),
    (fun q0 q1 q2 q3 q4 => absurd q4 (by rw [show lMakes_l253_s17 v = false from (md_t3 (k := 0) A B C hw hh q2).2]; exact nofun)),
    (fun q0 q1 q2 q3 q4 => n256 A.pn),
    (fun q0 q1 q2 q3 q4 => n256 C.pn),
    (fun q0 q1 q2 q3 q4 => n256 B.pn),
    (fun q0 q1 q2 => n256 A.pn),
    (fun q0 q1 q2 => n256 B.pn),
    (fun q0 q1 q2 => n256 C.pn),
    (fun q0 => (ob_len v hl h4 q0).1),
    (fun q0 => (ob_len v hl h4 q0).2.1),
    (fun q0 => (ob_len v hl h4 q0).2.2),
    (fun q0 q1 => s8_ne _),
    (fun q0 q1 => s7_ne _ _ _ _ _ _ _ _),
    (fun q0 q1 => s6_ne _ _ _ _ _ _ _ _), trivial⟩
theorem mk_obs0 (v : lMakes_l253_T) (q : lMakes_l253_s1 v = false) : Alls (lMakes_l253_st v).1 := by
  unfold lMakes_l253_st
  rw [q]
  exact ⟨nofun, nofun, nofun, nofun, nofun, nofun, nofun, nofun, nofun, nofun, nofun, nofun, nofun, nofun, nofun, nofun, nofun, nofun, nofun, nofun, nofun, nofun, nofun, nofun, nofun, nofun, nofun, nofun, nofun, nofun, nofun, nofun, nofun, nofun, nofun, nofun, nofun, nofun, nofun, nofun, nofun, nofun, nofun, nofun, nofun, nofun, nofun, nofun, nofun, nofun, nofun, nofun, nofun, nofun, nofun, nofun, nofun, nofun, nofun, nofun, nofun, nofun, nofun, nofun, nofun, nofun, nofun, nofun, nofun, nofun, nofun, nofun, nofun, nofun, nofun, nofun, nofun, nofun, nofun, nofun, nofun, nofun, nofun, nofun, nofun, nofun, nofun, nofun, nofun, nofun, nofun, nofun, nofun, nofun, nofun, nofun, nofun, nofun, nofun, nofun, nofun, nofun, nofun, nofun, nofun, nofun, trivial⟩

def mkS (v : lMakes_l253_T) (i : Nat) : lMakes_l253_T := { v with a4 := Int.ofNat (i + 1) }

section
variable {v : lMakes_l253_T} {q : List (List Int)} (h5 : v.a5 = q.map fixR) (hl : q.length ≤ 1000000) (hw : 1 ≤ v.a2 ∧ v.a2 ≤ 64) (hh : 1 ≤ v.a3 ∧ v.a3 ≤ 64) (hk : 0 ≤ v.a0 ∧ v.a0 ≤ 255)
include h5 hl
theorem ms_s0 {i : Nat} (h : i ≤ q.length) : lMakes_l253_s0 (mkS v i) = Int.ofNat (i + 2) := by
  unfold lMakes_l253_s0
  show IntKind.wrap .i64 (Int.ofNat (i + 1) + 1) = _
  rw [show Int.ofNat (i + 1) = (i : Int) + 1 from rfl, w64_in (by omega) (by omega)]; rfl
theorem ms_s1 {i : Nat} (h : i ≤ q.length) : lMakes_l253_s1 (mkS v i) = decide (i + 2 < q.length) := by
  unfold lMakes_l253_s1
  rw [ms_s0 h5 hl h]
  show decide (Int.ofNat (i + 2) < Int.ofNat v.a5.length) = _
  rw [h5, List.length_map]
  by_cases h : i + 2 < q.length
  · rw [decide_eq_true h]; exact decide_eq_true (Int.ofNat_lt.mpr h)
  · rw [decide_eq_false h]; exact decide_eq_false (fun g => h (Int.ofNat_lt.mp g))
theorem ms_r {k : Nat} (h : k < q.length) (j : Nat) : rget v.a5 k j = (fixR (q.getD k [])).getD j 0 := by
  show ((v.a5).getD k []).getD j 0 = _
  rw [h5]
  have e : (q.map fixR).getD k [] = fixR (q.getD k []) := by
    rw [List.getD_eq_getElem?_getD, List.getElem?_map, List.getElem?_eq_getElem h, List.getD_eq_getElem?_getD, List.getElem?_eq_getElem h]
    rfl
  rw [e]
theorem ms_0 {i : Nat} (h : i + 2 < q.length) (j : Nat) : e0 (mkS v i) j = (fixR (q.getD 0 [])).getD j 0 := ms_r h5 hl (k := 0) (by omega) j
theorem ms_1 {i : Nat} (h : i + 2 < q.length) (j : Nat) : e1 (mkS v i) j = (fixR (q.getD (i + 1) [])).getD j 0 := ms_r h5 hl (k := i + 1) (by omega) j
theorem ms_2 {i : Nat} (h : i + 2 < q.length) (j : Nat) : e2 (mkS v i) j = (fixR (q.getD (i + 2) [])).getD j 0 := by
  unfold e2
  rw [ms_s0 h5 hl (by omega)]
  exact ms_r h5 hl (k := i + 2) (by omega) j
theorem ms_A {i : Nat} (h : i + 2 < q.length) : Sh (e0 (mkS v i) 0) (e0 (mkS v i) 1) (e0 (mkS v i) 2) (e0 (mkS v i) 3) (e0 (mkS v i) 4) (e0 (mkS v i) 5) (e0 (mkS v i) 6) (e0 (mkS v i) 7) := by
  simp only [ms_0 h5 hl h]; exact sh_fix _
theorem ms_B {i : Nat} (h : i + 2 < q.length) : Sh (e1 (mkS v i) 0) (e1 (mkS v i) 1) (e1 (mkS v i) 2) (e1 (mkS v i) 3) (e1 (mkS v i) 4) (e1 (mkS v i) 5) (e1 (mkS v i) 6) (e1 (mkS v i) 7) := by
  simp only [ms_1 h5 hl h]; exact sh_fix _
theorem ms_C {i : Nat} (h : i + 2 < q.length) : Sh (e2 (mkS v i) 0) (e2 (mkS v i) 1) (e2 (mkS v i) 2) (e2 (mkS v i) 3) (e2 (mkS v i) 4) (e2 (mkS v i) 5) (e2 (mkS v i) 6) (e2 (mkS v i) 7) := by
  simp only [ms_2 h5 hl h]; exact sh_fix _
include hw hh hk
theorem ms_step {i : Nat} (h : i < q.length - 2) : pick1 (lMakes_l253_st (mkS v i)).2 = some (.n, mkS v (i + 1)) := by
  have h' : i + 2 < q.length := by omega
  have hk' : IntKind.wrap .i64 (Int.tmod (mkS v i).a0 3) = Int.tmod (mkS v i).a0 3 := (cull_bd hk).1
  have e64 := mk_s64 (mkS v i) (ms_A h5 hl h') (ms_B h5 hl h') (ms_C h5 hl h') hw hh hk' (mk_hc (mkS v i) (ms_A h5 hl h') (ms_B h5 hl h') (ms_C h5 hl h') hw hh) (mk_zero _)
  unfold lMakes_l253_st
  rw [e64, ms_s1 h5 hl (by omega), decide_eq_true h', ms_s0 h5 hl (by omega)]
  rfl
omit hw hh hk in
theorem ms_end : pick1 (lMakes_l253_st (mkS v (q.length - 2))).2 = some (.e 0, mkS v (q.length - 2)) := by
  unfold lMakes_l253_st
  rw [ms_s1 h5 hl (by omega), decide_eq_false (by omega)]
  rfl
theorem ms_obs {i : Nat} (h : i ≤ q.length - 2) : Alls (lMakes_l253_st (mkS v i)).1 := by
  by_cases h' : i + 2 < q.length
  · exact mk_obs (mkS v i) (ms_A h5 hl h') (ms_B h5 hl h') (ms_C h5 hl h') hw hh (by rw [show (mkS v i).a5 = v.a5 from rfl, h5, List.length_map]; exact hl) (by rw [show (mkS v i).a4 = (i : Int) + 1 from rfl]; omega)
  · exact mk_obs0 _ (by rw [ms_s1 h5 hl (by omega)]; exact decide_eq_false h')
theorem ms_run (h4 : v.a4 = 1) : lrun lMakes_l253_st 18446744073709551616 v = some (.e 0, mkS v (q.length - 2)) := by
  have e : mkS v 0 = v := by
    show ({ v with a4 := (1 : Int) } : lMakes_l253_T) = v
    rw [← h4]
  have := lrun_count (st := lMakes_l253_st) (s := mkS v) (n := q.length - 2) (fun i h => ms_step h5 hl hw hh hk h) (ms_end h5 hl) nofun (q.length - 2) 0 (by omega) 18446744073709551616 (by omega)
  rw [e] at this
  exact this
theorem ms_lok (h4 : v.a4 = 1) : lok lMakes_l253_st 18446744073709551616 v := by
  have e : mkS v 0 = v := by
    show ({ v with a4 := (1 : Int) } : lMakes_l253_T) = v
    rw [← h4]
  have := lok_count (st := lMakes_l253_st) (s := mkS v) (n := q.length - 2) (fun i h => ms_step h5 hl hw hh hk h) (ms_end h5 hl) nofun (fun i h => ms_obs h5 hl hw hh hk h) (q.length - 2) 0 (by omega) 18446744073709551616 (by omega)
  rw [e] at this
  exact this
end

theorem sz_bd {x : Int} (l : 0 ≤ x) : 1 ≤ IntKind.wrap .i64 (1 + IntKind.wrap .i64 (Int.tmod x 64)) ∧ IntKind.wrap .i64 (1 + IntKind.wrap .i64 (Int.tmod x 64)) ≤ 64 := by
  rw [Int.tmod_eq_emod_of_nonneg l, w64_in (n := x % 64) (by omega) (by omega), w64_in (by omega) (by omega)]
  omega

theorem SetupMakes_true (x0_0 : Int) (a0_0 : IntKind.min .i16 ≤ x0_0) (b0_0 : x0_0 ≤ IntKind.max .i16) (x0_1 : Int) (a0_1 : IntKind.min .i16 ≤ x0_1) (b0_1 : x0_1 ≤ IntKind.max .i16) (x0_2 : Int) (a0_2 : IntKind.min .i16 ≤ x0_2) (b0_2 : x0_2 ≤ IntKind.max .i16) (x0_3 : Int) (a0_3 : IntKind.min .i16 ≤ x0_3) (b0_3 : x0_3 ≤ IntKind.max .i16) (x0_4 : Int) (a0_4 : IntKind.min .u8 ≤ x0_4) (b0_4 : x0_4 ≤ IntKind.max .u8) (x0_5 : Int) (a0_5 : IntKind.min .u8 ≤ x0_5) (b0_5 : x0_5 ≤ IntKind.max .u8) (x0_6 : Int) (a0_6 : IntKind.min .u8 ≤ x0_6) (b0_6 : x0_6 ≤ IntKind.max .u8) (x0_7 : Int) (a0_7 : IntKind.min .u8 ≤ x0_7) (b0_7 : x0_7 ≤ IntKind.max .u8) (x0_8 : Bool) (x0_9 : Int) (a0_9 : IntKind.min .i16 ≤ x0_9) (b0_9 : x0_9 ≤ IntKind.max .i16) (x0_10 : Int) (a0_10 : IntKind.min .i16 ≤ x0_10) (b0_10 : x0_10 ≤ IntKind.max .i16) (x0_11 : Int) (a0_11 : IntKind.min .i16 ≤ x0_11) (b0_11 : x0_11 ≤ IntKind.max .i16) (x0_12 : Int) (a0_12 : IntKind.min .i16 ≤ x0_12) (b0_12 : x0_12 ≤ IntKind.max .i16) (x0_13 : Int) (a0_13 : IntKind.min .u8 ≤ x0_13) (b0_13 : x0_13 ≤ IntKind.max .u8) (x0_14 : Int) (a0_14 : IntKind.min .u8 ≤ x0_14) (b0_14 : x0_14 ≤ IntKind.max .u8) (x0_15 : Int) (a0_15 : IntKind.min .u8 ≤ x0_15) (b0_15 : x0_15 ≤ IntKind.max .u8) (x0_16 : Int) (a0_16 : IntKind.min .u8 ≤ x0_16) (b0_16 : x0_16 ≤ IntKind.max .u8) (x0_17 : Bool) (x0_18 : Int) (a0_18 : IntKind.min .i16 ≤ x0_18) (b0_18 : x0_18 ≤ IntKind.max .i16) (x0_19 : Int) (a0_19 : IntKind.min .i16 ≤ x0_19) (b0_19 : x0_19 ≤ IntKind.max .i16) (x0_20 : Int) (a0_20 : IntKind.min .i16 ≤ x0_20) (b0_20 : x0_20 ≤ IntKind.max .i16) (x0_21 : Int) (a0_21 : IntKind.min .i16 ≤ x0_21) (b0_21 : x0_21 ≤ IntKind.max .i16) (x0_22 : Int) (a0_22 : IntKind.min .u8 ≤ x0_22) (b0_22 : x0_22 ≤ IntKind.max .u8) (x0_23 : Int) (a0_23 : IntKind.min .u8 ≤ x0_23) (b0_23 : x0_23 ≤ IntKind.max .u8) (x0_24 : Int) (a0_24 : IntKind.min .u8 ≤ x0_24) (b0_24 : x0_24 ≤ IntKind.max .u8) (x0_25 : Int) (a0_25 : IntKind.min .u8 ≤ x0_25) (b0_25 : x0_25 ≤ IntKind.max .u8) (x0_26 : Bool) (x1 : Int) (a1 : IntKind.min .u8 ≤ x1) (b1 : x1 ≤ IntKind.max .u8) (x2 : Int) (a2 : IntKind.min .u8 ≤ x2) (b2 : x2 ≤ IntKind.max .u8) (x3 : Int) (a3 : IntKind.min .u8 ≤ x3) (b3 : x3 ≤ IntKind.max .u8) : lMakes_0 x0_0 x0_1 x0_2 x0_3 x0_4 x0_5 x0_6 x0_7 x0_8 x0_9 x0_10 x0_11 x0_12 x0_13 x0_14 x0_15 x0_16 x0_17 x0_18 x0_19 x0_20 x0_21 x0_22 x0_23 x0_24 x0_25 x0_26 x1 x2 x3 = true := by
  obtain ⟨l0_0, g0_0⟩ := bd_i16 a0_0 b0_0
  have w0_0 : IntKind.wrap .i64 x0_0 = x0_0 := w64_in (by omega) (by omega)
  obtain ⟨l0_1, g0_1⟩ := bd_i16 a0_1 b0_1
  have w0_1 : IntKind.wrap .i64 x0_1 = x0_1 := w64_in (by omega) (by omega)
  obtain ⟨l0_2, g0_2⟩ := bd_i16 a0_2 b0_2
  have w0_2 : IntKind.wrap .i64 x0_2 = x0_2 := w64_in (by omega) (by omega)
  obtain ⟨l0_3, g0_3⟩ := bd_i16 a0_3 b0_3
  have w0_3 : IntKind.wrap .i64 x0_3 = x0_3 := w64_in (by omega) (by omega)
  obtain ⟨l0_4, g0_4⟩ := bd_u8 a0_4 b0_4
  have w0_4 : IntKind.wrap .i64 x0_4 = x0_4 := w64_in (by omega) (by omega)
  obtain ⟨l0_5, g0_5⟩ := bd_u8 a0_5 b0_5
  have w0_5 : IntKind.wrap .i64 x0_5 = x0_5 := w64_in (by omega) (by omega)
  obtain ⟨l0_6, g0_6⟩ := bd_u8 a0_6 b0_6
  have w0_6 : IntKind.wrap .i64 x0_6 = x0_6 := w64_in (by omega) (by omega)
  obtain ⟨l0_7, g0_7⟩ := bd_u8 a0_7 b0_7
  have w0_7 : IntKind.wrap .i64 x0_7 = x0_7 := w64_in (by omega) (by omega)
  obtain ⟨l0_9, g0_9⟩ := bd_i16 a0_9 b0_9
  have w0_9 : IntKind.wrap .i64 x0_9 = x0_9 := w64_in (by omega) (by omega)
  obtain ⟨l0_10, g0_10⟩ := bd_i16 a0_10 b0_10
  have w0_10 : IntKind.wrap .i64 x0_10 = x0_10 := w64_in (by omega) (by omega)
  obtain ⟨l0_11, g0_11⟩ := bd_i16 a0_11 b0_11
  have w0_11 : IntKind.wrap .i64 x0_11 = x0_11 := w64_in (by omega) (by omega)
  obtain ⟨l0_12, g0_12⟩ := bd_i16 a0_12 b0_12
  have w0_12 : IntKind.wrap .i64 x0_12 = x0_12 := w64_in (by omega) (by omega)
  obtain ⟨l0_13, g0_13⟩ := bd_u8 a0_13 b0_13
  have w0_13 : IntKind.wrap .i64 x0_13 = x0_13 := w64_in (by omega) (by omega)
  obtain ⟨l0_14, g0_14⟩ := bd_u8 a0_14 b0_14
  have w0_14 : IntKind.wrap .i64 x0_14 = x0_14 := w64_in (by omega) (by omega)
  obtain ⟨l0_15, g0_15⟩ := bd_u8 a0_15 b0_15
  have w0_15 : IntKind.wrap .i64 x0_15 = x0_15 := w64_in (by omega) (by omega)
  obtain ⟨l0_16, g0_16⟩ := bd_u8 a0_16 b0_16
  have w0_16 : IntKind.wrap .i64 x0_16 = x0_16 := w64_in (by omega) (by omega)
  obtain ⟨l0_18, g0_18⟩ := bd_i16 a0_18 b0_18
  have w0_18 : IntKind.wrap .i64 x0_18 = x0_18 := w64_in (by omega) (by omega)
  obtain ⟨l0_19, g0_19⟩ := bd_i16 a0_19 b0_19
  have w0_19 : IntKind.wrap .i64 x0_19 = x0_19 := w64_in (by omega) (by omega)
  obtain ⟨l0_20, g0_20⟩ := bd_i16 a0_20 b0_20
  have w0_20 : IntKind.wrap .i64 x0_20 = x0_20 := w64_in (by omega) (by omega)
  obtain ⟨l0_21, g0_21⟩ := bd_i16 a0_21 b0_21
  have w0_21 : IntKind.wrap .i64 x0_21 = x0_21 := w64_in (by omega) (by omega)
  obtain ⟨l0_22, g0_22⟩ := bd_u8 a0_22 b0_22
  have w0_22 : IntKind.wrap .i64 x0_22 = x0_22 := w64_in (by omega) (by omega)
  obtain ⟨l0_23, g0_23⟩ := bd_u8 a0_23 b0_23
  have w0_23 : IntKind.wrap .i64 x0_23 = x0_23 := w64_in (by omega) (by omega)
  obtain ⟨l0_24, g0_24⟩ := bd_u8 a0_24 b0_24
  have w0_24 : IntKind.wrap .i64 x0_24 = x0_24 := w64_in (by omega) (by omega)
  obtain ⟨l0_25, g0_25⟩ := bd_u8 a0_25 b0_25
  have w0_25 : IntKind.wrap .i64 x0_25 = x0_25 := w64_in (by omega) (by omega)
  obtain ⟨l1, g1⟩ := bd_u8 a1 b1
  have w1 : IntKind.wrap .i64 x1 = x1 := w64_in (by omega) (by omega)
  obtain ⟨l2, g2⟩ := bd_u8 a2 b2
  have w2 : IntKind.wrap .i64 x2 = x2 := w64_in (by omega) (by omega)
  obtain ⟨l3, g3⟩ := bd_u8 a3 b3
  have w3 : IntKind.wrap .i64 x3 = x3 := w64_in (by omega) (by omega)
  obtain ⟨q, eq, q1, q2, q3⟩ : ∃ q : List (List Int), cClip_0 (l11V_0 x0_0) (l11V_1 x0_1) (l11V_2 x0_2) (l11V_3 x0_3 x0_8) (l11V_4 x0_4) (l11V_5 x0_5) (l11V_6 x0_6) (l11V_7 x0_7) (l11V_0 x0_9) (l11V_1 x0_10) (l11V_2 x0_11) (l11V_3 x0_12 x0_17) (l11V_4 x0_13) (l11V_5 x0_14) (l11V_6 x0_15) (l11V_7 x0_16) (l11V_0 x0_18) (l11V_1 x0_19) (l11V_2 x0_20) (l11V_3 x0_21 x0_26) (l11V_4 x0_22) (l11V_5 x0_23) (l11V_6 x0_24) (l11V_7 x0_25) = q.map fixR ∧ q.length ≤ 16 ∧ q.length ≠ 1 ∧ q.length ≠ 2 := by
    rw [clip_eq]
    exact clipG_q _
  obtain ⟨w, e0, w1⟩ : ∃ w : lMakes_l253_T, lMakes_s0 x0_0 x0_1 x0_2 x0_3 x0_4 x0_5 x0_6 x0_7 x0_8 x0_9 x0_10 x0_11 x0_12 x0_13 x0_14 x0_15 x0_16 x0_17 x0_18 x0_19 x0_20 x0_21 x0_22 x0_23 x0_24 x0_25 x0_26 x1 x2 x3 = some (.e 0, w) ∧ True := by
    unfold lMakes_s0
    refine ⟨_, ms_run (q := q) ?_ ?_ ?_ ?_ ?_ ?_, trivial⟩
    · dsimp only; exact eq
    · omega
    · exact sz_bd l1
    · exact sz_bd l2
    · exact ⟨l3, g3⟩
    · rfl
  unfold lMakes_0
  rw [aw13_t, e0]
  rfl

theorem SetupMakes_obs (x0_0 : Int) (a0_0 : IntKind.min .i16 ≤ x0_0) (b0_0 : x0_0 ≤ IntKind.max .i16) (x0_1 : Int) (a0_1 : IntKind.min .i16 ≤ x0_1) (b0_1 : x0_1 ≤ IntKind.max .i16) (x0_2 : Int) (a0_2 : IntKind.min .i16 ≤ x0_2) (b0_2 : x0_2 ≤ IntKind.max .i16) (x0_3 : Int) (a0_3 : IntKind.min .i16 ≤ x0_3) (b0_3 : x0_3 ≤ IntKind.max .i16) (x0_4 : Int) (a0_4 : IntKind.min .u8 ≤ x0_4) (b0_4 : x0_4 ≤ IntKind.max .u8) (x0_5 : Int) (a0_5 : IntKind.min .u8 ≤ x0_5) (b0_5 : x0_5 ≤ IntKind.max .u8) (x0_6 : Int) (a0_6 : IntKind.min .u8 ≤ x0_6) (b0_6 : x0_6 ≤ IntKind.max .u8) (x0_7 : Int) (a0_7 : IntKind.min .u8 ≤ x0_7) (b0_7 : x0_7 ≤ IntKind.max .u8) (x0_8 : Bool) (x0_9 : Int) (a0_9 : IntKind.min .i16 ≤ x0_9) (b0_9 : x0_9 ≤ IntKind.max .i16) (x0_10 : Int) (a0_10 : IntKind.min .i16 ≤ x0_10) (b0_10 : x0_10 ≤ IntKind.max .i16) (x0_11 : Int) (a0_11 : IntKind.min .i16 ≤ x0_11) (b0_11 : x0_11 ≤ IntKind.max .i16) (x0_12 : Int) (a0_12 : IntKind.min .i16 ≤ x0_12) (b0_12 : x0_12 ≤ IntKind.max .i16) (x0_13 : Int) (a0_13 : IntKind.min .u8 ≤ x0_13) (b0_13 : x0_13 ≤ IntKind.max .u8) (x0_14 : Int) (a0_14 : IntKind.min .u8 ≤ x0_14) (b0_14 : x0_14 ≤ IntKind.max .u8) (x0_15 : Int) (a0_15 : IntKind.min .u8 ≤ x0_15) (b0_15 : x0_15 ≤ IntKind.max .u8) (x0_16 : Int) (a0_16 : IntKind.min .u8 ≤ x0_16) (b0_16 : x0_16 ≤ IntKind.max .u8) (x0_17 : Bool) (x0_18 : Int) (a0_18 : IntKind.min .i16 ≤ x0_18) (b0_18 : x0_18 ≤ IntKind.max .i16) (x0_19 : Int) (a0_19 : IntKind.min .i16 ≤ x0_19) (b0_19 : x0_19 ≤ IntKind.max .i16) (x0_20 : Int) (a0_20 : IntKind.min .i16 ≤ x0_20) (b0_20 : x0_20 ≤ IntKind.max .i16) (x0_21 : Int) (a0_21 : IntKind.min .i16 ≤ x0_21) (b0_21 : x0_21 ≤ IntKind.max .i16) (x0_22 : Int) (a0_22 : IntKind.min .u8 ≤ x0_22) (b0_22 : x0_22 ≤ IntKind.max .u8) (x0_23 : Int) (a0_23 : IntKind.min .u8 ≤ x0_23) (b0_23 : x0_23 ≤ IntKind.max .u8) (x0_24 : Int) (a0_24 : IntKind.min .u8 ≤ x0_24) (b0_24 : x0_24 ≤ IntKind.max .u8) (x0_25 : Int) (a0_25 : IntKind.min .u8 ≤ x0_25) (b0_25 : x0_25 ≤ IntKind.max .u8) (x0_26 : Bool) (x1 : Int) (a1 : IntKind.min .u8 ≤ x1) (b1 : x1 ≤ IntKind.max .u8) (x2 : Int) (a2 : IntKind.min .u8 ≤ x2) (b2 : x2 ≤ IntKind.max .u8) (x3 : Int) (a3 : IntKind.min .u8 ≤ x3) (b3 : x3 ≤ IntKind.max .u8) : Alls (lMakes_o x0_0 x0_1 x0_2 x0_3 x0_4 x0_5 x0_6 x0_7 x0_8 x0_9 x0_10 x0_11 x0_12 x0_13 x0_14 x0_15 x0_16 x0_17 x0_18 x0_19 x0_20 x0_21 x0_22 x0_23 x0_24 x0_25 x0_26 x1 x2 x3) := by
  obtain ⟨l0_0, g0_0⟩ := bd_i16 a0_0 b0_0
  have w0_0 : IntKind.wrap .i64 x0_0 = x0_0 := w64_in (by omega) (by omega)
  obtain ⟨l0_1, g0_1⟩ := bd_i16 a0_1 b0_1
  have w0_1 : IntKind.wrap .i64 x0_1 = x0_1 := w64_in (by omega) (by omega)
  obtain ⟨l0_2, g0_2⟩ := bd_i16 a0_2 b0_2
  have w0_2 : IntKind.wrap .i64 x0_2 = x0_2 := w64_in (by omega) (by omega)
  obtain ⟨l0_3, g0_3⟩ := bd_i16 a0_3 b0_3
  have w0_3 : IntKind.wrap .i64 x0_3 = x0_3 := w64_in (by omega) (by omega)
  obtain ⟨l0_4, g0_4⟩ := bd_u8 a0_4 b0_4
  have w0_4 : IntKind.wrap .i64 x0_4 = x0_4 := w64_in (by omega) (by omega)
  obtain ⟨l0_5, g0_5⟩ := bd_u8 a0_5 b0_5
  have w0_5 : IntKind.wrap .i64 x0_5 = x0_5 := w64_in (by omega) (by omega)
  obtain ⟨l0_6, g0_6⟩ := bd_u8 a0_6 b0_6
  have w0_6 : IntKind.wrap .i64 x0_6 = x0_6 := w64_in (by omega) (by omega)
  obtain ⟨l0_7, g0_7⟩ := bd_u8 a0_7 b0_7
  have w0_7 : IntKind.wrap .i64 x0_7 = x0_7 := w64_in (by omega) (by omega)
  obtain ⟨l0_9, g0_9⟩ := bd_i16 a0_9 b0_9
  have w0_9 : IntKind.wrap .i64 x0_9 = x0_9 := w64_in (by omega) (by omega)
  obtain ⟨l0_10, g0_10⟩ := bd_i16 a0_10 b0_10
  have w0_10 : IntKind.wrap .i64 x0_10 = x0_10 := w64_in (by omega) (by omega)
  obtain ⟨l0_11, g0_11⟩ := bd_i16 a0_11 b0_11
  have w0_11 : IntKind.wrap .i64 x0_11 = x0_11 := w64_in (by omega) (by omega)
  obtain ⟨l0_12, g0_12⟩ := bd_i16 a0_12 b0_12
  have w0_12 : IntKind.wrap .i64 x0_12 = x0_12 := w64_in (by omega) (by omega)
  obtain ⟨l0_13, g0_13⟩ := bd_u8 a0_13 b0_13
  have w0_13 : IntKind.wrap .i64 x0_13 = x0_13 := w64_in (by omega) (by omega)
  obtain ⟨l0_14, g0_14⟩ := bd_u8 a0_14 b0_14
  have w0_14 : IntKind.wrap .i64 x0_14 = x0_14 := w64_in (by omega) (by omega)
  obtain ⟨l0_15, g0_15⟩ := bd_u8 a0_15 b0_15
  have w0_15 : IntKind.wrap .i64 x0_15 = x0_15 := w64_in (by omega) (by omega)
  obtain ⟨l0_16, g0_16⟩ := bd_u8 a0_16 b0_16
  have w0_16 : IntKind.wrap .i64 x0_16 = x0_16 := w64_in (by omega) (by omega)
  obtain ⟨l0_18, g0_18⟩ := bd_i16 a0_18 b0_18
  have w0_18 : IntKind.wrap .i64 x0_18 = x0_18 := w64_in (by omega) (by omega)
  obtain ⟨l0_19, g0_19⟩ := bd_i16 a0_19 b0_19
  have w0_19 : IntKind.wrap .i64 x0_19 = x0_19 := w64_in (by omega) (by omega)
  obtain ⟨l0_20, g0_20⟩ := bd_i16 a0_20 b0_20
  have w0_20 : IntKind.wrap .i64 x0_20 = x0_20 := w64_in (by omega) (by omega)
  obtain ⟨l0_21, g0_21⟩ := bd_i16 a0_21 b0_21
  have w0_21 : IntKind.wrap .i64 x0_21 = x0_21 := w64_in (by omega) (by omega)
  obtain ⟨l0_22, g0_22⟩ := bd_u8 a0_22 b0_22
  have w0_22 : IntKind.wrap .i64 x0_22 = x0_22 := w64_in (by omega) (by omega)
  obtain ⟨l0_23, g0_23⟩ := bd_u8 a0_23 b0_23
  have w0_23 : IntKind.wrap .i64 x0_23 = x0_23 := w64_in (by omega) (by omega)
  obtain ⟨l0_24, g0_24⟩ := bd_u8 a0_24 b0_24
  have w0_24 : IntKind.wrap .i64 x0_24 = x0_24 := w64_in (by omega) (by omega)
  obtain ⟨l0_25, g0_25⟩ := bd_u8 a0_25 b0_25
  have w0_25 : IntKind.wrap .i64 x0_25 = x0_25 := w64_in (by omega) (by omega)
  obtain ⟨l1, g1⟩ := bd_u8 a1 b1
  have w1 : IntKind.wrap .i64 x1 = x1 := w64_in (by omega) (by omega)
  obtain ⟨l2, g2⟩ := bd_u8 a2 b2
  have w2 : IntKind.wrap .i64 x2 = x2 := w64_in (by omega) (by omega)
  obtain ⟨l3, g3⟩ := bd_u8 a3 b3
  have w3 : IntKind.wrap .i64 x3 = x3 := w64_in (by omega) (by omega)
  obtain ⟨q, eq, q1, q2, q3⟩ : ∃ q : List (List Int), cClip_0 (l11V_0 x0_0) (l11V_1 x0_1) (l11V_2 x0_2) (l11V_3 x0_3 x0_8) (l11V_4 x0_4) (l11V_5 x0_5) (l11V_6 x0_6) (l11V_7 x0_7) (l11V_0 x0_9) (l11V_1 x0_10) (l11V_2 x0_11) (l11V_3 x0_12 x0_17) (l11V_4 x0_13) (l11V_5 x0_14) (l11V_6 x0_15) (l11V_7 x0_16) (l11V_0 x0_18) (l11V_1 x0_19) (l11V_2 x0_20) (l11V_3 x0_21 x0_26) (l11V_4 x0_22) (l11V_5 x0_23) (l11V_6 x0_24) (l11V_7 x0_25) = q.map fixR ∧ q.length ≤ 16 ∧ q.length ≠ 1 ∧ q.length ≠ 2 := by
    rw [clip_eq]
    exact clipG_q _
  unfold lMakes_o
  refine ⟨fun _ => by_lok _ (Nat.le_trans (c6_len ..) (by omega)), fun _ => by_lok _ (Nat.le_trans (c7_len ..) (by omega)), fun _ => by_lok _ (Nat.le_trans (c8_len ..) (by omega)), fun _ => by_lok _ (Nat.le_trans (c9_len ..) (by omega)), fun _ => by_lok _ (Nat.le_trans (c10_len ..) (by omega)), fun _ => by_lok _ (Nat.le_trans (c11_len ..) (by omega)), fun _ => by_lok _ (Nat.le_trans (c12_len ..) (by omega)), fun _ _ => fx_lok (Nat.le_trans (c13_len ..) (by omega)), fun _ => by
    refine ms_lok (q := q) ?_ ?_ ?_ ?_ ?_ ?_
    · dsimp only; exact eq
    · omega
    · exact sz_bd l1
    · exact sz_bd l2
    · exact ⟨l3, g3⟩
    · rfl, trivial⟩

end Go.Proofs.Ytbdmaepooahplaa
