/-
  StateAny: any bytes: a state whose bytes they are, or an error.
-/
import Derived.Test.YtcdejlgophpdjaaWe2
import Derived.Test.YtcdejlgophpdjaaVMb
import Derived.Test.YtcdejlgophpdjaaNa
import Derived.Test.YtcdejlgophpdjaaNc
namespace Go.Proofs.Ytcdejlgophpdjaa
open Go Go.RowKit Go.Proofs.Ytcdejlgophpdjaa.V
set_option linter.unusedVariables false
set_option linter.unusedSectionVars false

theorem w8_in {x : Int} (h0 : 0 ≤ x) (h1 : x ≤ 255) : IntKind.wrap .u8 x = x := by
  have e := IntKind.wrap_u8 x
  omega

section
variable {b0 b1 b2 b3 b4 b5 b6 b7 b8 b9 b10 b11 b12 b13 b14 : Int} {rest : List (List Int)}
theorem k_s1 : stTakeK_s1 0 ([b0] :: [b1] :: [b2] :: [b3] :: [b4] :: [b5] :: [b6] :: [b7] :: [b8] :: [b9] :: [b10] :: [b11] :: [b12] :: [b13] :: [b14] :: rest) = [[b0], [b1], [b2], [b3], [b4], [b5], [b6], [b7], [b8], [b9], [b10], [b11], [b12], [b13], [b14], [0], [0], [0], [0], [0], [0], [0], [0], [0], [0], [0], [0], [0], [0], [0]] := by kernel_rfl
theorem k_s18 : stTakeK_s18 0 0 ([b0] :: [b1] :: [b2] :: [b3] :: [b4] :: [b5] :: [b6] :: [b7] :: [b8] :: [b9] :: [b10] :: [b11] :: [b12] :: [b13] :: [b14] :: rest) = bif decide (1 < b1) then 4 else bif (sChk_0 b0 b2 b5 b6 b7 b8 b9 b10 (IntKind.wrap .i64 b11) (IntKind.wrap .i64 b12) (IntKind.wrap .i64 b13) (IntKind.wrap .i64 b14)) != 0 then (sChk_0 b0 b2 b5 b6 b7 b8 b9 b10 (IntKind.wrap .i64 b11) (IntKind.wrap .i64 b12) (IntKind.wrap .i64 b13) (IntKind.wrap .i64 b14)) else 0 := by
  unfold stTakeK_s18 stTakeK_s17 stTakeK_s3 stTakeK_s16 stTakeK_s2 stTakeK_s4 stTakeK_s5 stTakeK_s6 stTakeK_s7 stTakeK_s8 stTakeK_s9 stTakeK_s10 stTakeK_s11 stTakeK_s12 stTakeK_s13 stTakeK_s14 stTakeK_s15
  rw [k_s1]
  rfl
theorem k_bad (h : stTakeK_s18 0 0 ([b0] :: [b1] :: [b2] :: [b3] :: [b4] :: [b5] :: [b6] :: [b7] :: [b8] :: [b9] :: [b10] :: [b11] :: [b12] :: [b13] :: [b14] :: rest) ≠ 0) : stTakeK_s19 0 0 ([b0] :: [b1] :: [b2] :: [b3] :: [b4] :: [b5] :: [b6] :: [b7] :: [b8] :: [b9] :: [b10] :: [b11] :: [b12] :: [b13] :: [b14] :: rest) = true := by
  unfold stTakeK_s19
  exact bne_iff_ne.2 h
theorem k_good (h : stTakeK_s18 0 0 ([b0] :: [b1] :: [b2] :: [b3] :: [b4] :: [b5] :: [b6] :: [b7] :: [b8] :: [b9] :: [b10] :: [b11] :: [b12] :: [b13] :: [b14] :: rest) = 0) : stTakeK_s19 0 0 ([b0] :: [b1] :: [b2] :: [b3] :: [b4] :: [b5] :: [b6] :: [b7] :: [b8] :: [b9] :: [b10] :: [b11] :: [b12] :: [b13] :: [b14] :: rest) = false ∧ b1 ≤ 1 ∧ (sChk_0 b0 b2 b5 b6 b7 b8 b9 b10 (IntKind.wrap .i64 b11) (IntKind.wrap .i64 b12) (IntKind.wrap .i64 b13) (IntKind.wrap .i64 b14)) = 0 := by
  refine ⟨by unfold stTakeK_s19; rw [h]; rfl, ?_⟩
  rw [k_s18] at h
  by_cases h1 : 1 < b1
  · rw [decide_eq_true h1] at h; cases h
  · rw [decide_eq_false h1] at h
    refine ⟨by omega, ?_⟩
    generalize (sChk_0 b0 b2 b5 b6 b7 b8 b9 b10 (IntKind.wrap .i64 b11) (IntKind.wrap .i64 b12) (IntKind.wrap .i64 b13) (IntKind.wrap .i64 b14)) = c at h
    by_cases hc : c = 0
    · exact hc
    · have e : (c != 0) = true := bne_iff_ne.2 hc
      rw [e] at h; exact h
theorem k_z0 (h : stTakeK_s19 0 0 ([b0] :: [b1] :: [b2] :: [b3] :: [b4] :: [b5] :: [b6] :: [b7] :: [b8] :: [b9] :: [b10] :: [b11] :: [b12] :: [b13] :: [b14] :: rest) = true) : stTakeK_0 0 0 ([b0] :: [b1] :: [b2] :: [b3] :: [b4] :: [b5] :: [b6] :: [b7] :: [b8] :: [b9] :: [b10] :: [b11] :: [b12] :: [b13] :: [b14] :: rest) = 0 := by unfold stTakeK_0; rw [h]; rfl
theorem k_z1 (h : stTakeK_s19 0 0 ([b0] :: [b1] :: [b2] :: [b3] :: [b4] :: [b5] :: [b6] :: [b7] :: [b8] :: [b9] :: [b10] :: [b11] :: [b12] :: [b13] :: [b14] :: rest) = true) : stTakeK_1 0 0 ([b0] :: [b1] :: [b2] :: [b3] :: [b4] :: [b5] :: [b6] :: [b7] :: [b8] :: [b9] :: [b10] :: [b11] :: [b12] :: [b13] :: [b14] :: rest) = false := by unfold stTakeK_1; rw [h]; rfl
theorem k_z2 (h : stTakeK_s19 0 0 ([b0] :: [b1] :: [b2] :: [b3] :: [b4] :: [b5] :: [b6] :: [b7] :: [b8] :: [b9] :: [b10] :: [b11] :: [b12] :: [b13] :: [b14] :: rest) = true) : stTakeK_2 0 0 ([b0] :: [b1] :: [b2] :: [b3] :: [b4] :: [b5] :: [b6] :: [b7] :: [b8] :: [b9] :: [b10] :: [b11] :: [b12] :: [b13] :: [b14] :: rest) = 0 := by unfold stTakeK_2; rw [h]; rfl
theorem k_z3 (h : stTakeK_s19 0 0 ([b0] :: [b1] :: [b2] :: [b3] :: [b4] :: [b5] :: [b6] :: [b7] :: [b8] :: [b9] :: [b10] :: [b11] :: [b12] :: [b13] :: [b14] :: rest) = true) : stTakeK_3 0 0 ([b0] :: [b1] :: [b2] :: [b3] :: [b4] :: [b5] :: [b6] :: [b7] :: [b8] :: [b9] :: [b10] :: [b11] :: [b12] :: [b13] :: [b14] :: rest) = 0 := by unfold stTakeK_3; rw [h]; rfl
theorem k_z4 (h : stTakeK_s19 0 0 ([b0] :: [b1] :: [b2] :: [b3] :: [b4] :: [b5] :: [b6] :: [b7] :: [b8] :: [b9] :: [b10] :: [b11] :: [b12] :: [b13] :: [b14] :: rest) = true) : stTakeK_4 0 0 ([b0] :: [b1] :: [b2] :: [b3] :: [b4] :: [b5] :: [b6] :: [b7] :: [b8] :: [b9] :: [b10] :: [b11] :: [b12] :: [b13] :: [b14] :: rest) = 0 := by unfold stTakeK_4; rw [h]; rfl
theorem k_z5 (h : stTakeK_s19 0 0 ([b0] :: [b1] :: [b2] :: [b3] :: [b4] :: [b5] :: [b6] :: [b7] :: [b8] :: [b9] :: [b10] :: [b11] :: [b12] :: [b13] :: [b14] :: rest) = true) : stTakeK_5 0 0 ([b0] :: [b1] :: [b2] :: [b3] :: [b4] :: [b5] :: [b6] :: [b7] :: [b8] :: [b9] :: [b10] :: [b11] :: [b12] :: [b13] :: [b14] :: rest) = 0 := by unfold stTakeK_5; rw [h]; rfl
theorem k_z6 (h : stTakeK_s19 0 0 ([b0] :: [b1] :: [b2] :: [b3] :: [b4] :: [b5] :: [b6] :: [b7] :: [b8] :: [b9] :: [b10] :: [b11] :: [b12] :: [b13] :: [b14] :: rest) = true) : stTakeK_6 0 0 ([b0] :: [b1] :: [b2] :: [b3] :: [b4] :: [b5] :: [b6] :: [b7] :: [b8] :: [b9] :: [b10] :: [b11] :: [b12] :: [b13] :: [b14] :: rest) = 0 := by unfold stTakeK_6; rw [h]; rfl
theorem k_z7 (h : stTakeK_s19 0 0 ([b0] :: [b1] :: [b2] :: [b3] :: [b4] :: [b5] :: [b6] :: [b7] :: [b8] :: [b9] :: [b10] :: [b11] :: [b12] :: [b13] :: [b14] :: rest) = true) : stTakeK_7 0 0 ([b0] :: [b1] :: [b2] :: [b3] :: [b4] :: [b5] :: [b6] :: [b7] :: [b8] :: [b9] :: [b10] :: [b11] :: [b12] :: [b13] :: [b14] :: rest) = 0 := by unfold stTakeK_7; rw [h]; rfl
theorem k_z8 (h : stTakeK_s19 0 0 ([b0] :: [b1] :: [b2] :: [b3] :: [b4] :: [b5] :: [b6] :: [b7] :: [b8] :: [b9] :: [b10] :: [b11] :: [b12] :: [b13] :: [b14] :: rest) = true) : stTakeK_8 0 0 ([b0] :: [b1] :: [b2] :: [b3] :: [b4] :: [b5] :: [b6] :: [b7] :: [b8] :: [b9] :: [b10] :: [b11] :: [b12] :: [b13] :: [b14] :: rest) = 0 := by unfold stTakeK_8; rw [h]; rfl
theorem k_z9 (h : stTakeK_s19 0 0 ([b0] :: [b1] :: [b2] :: [b3] :: [b4] :: [b5] :: [b6] :: [b7] :: [b8] :: [b9] :: [b10] :: [b11] :: [b12] :: [b13] :: [b14] :: rest) = true) : stTakeK_9 0 0 ([b0] :: [b1] :: [b2] :: [b3] :: [b4] :: [b5] :: [b6] :: [b7] :: [b8] :: [b9] :: [b10] :: [b11] :: [b12] :: [b13] :: [b14] :: rest) = 0 := by unfold stTakeK_9; rw [h]; rfl
theorem k_z10 (h : stTakeK_s19 0 0 ([b0] :: [b1] :: [b2] :: [b3] :: [b4] :: [b5] :: [b6] :: [b7] :: [b8] :: [b9] :: [b10] :: [b11] :: [b12] :: [b13] :: [b14] :: rest) = true) : stTakeK_10 0 0 ([b0] :: [b1] :: [b2] :: [b3] :: [b4] :: [b5] :: [b6] :: [b7] :: [b8] :: [b9] :: [b10] :: [b11] :: [b12] :: [b13] :: [b14] :: rest) = 0 := by unfold stTakeK_10; rw [h]; rfl
theorem k_z11 (h : stTakeK_s19 0 0 ([b0] :: [b1] :: [b2] :: [b3] :: [b4] :: [b5] :: [b6] :: [b7] :: [b8] :: [b9] :: [b10] :: [b11] :: [b12] :: [b13] :: [b14] :: rest) = true) : stTakeK_11 0 0 ([b0] :: [b1] :: [b2] :: [b3] :: [b4] :: [b5] :: [b6] :: [b7] :: [b8] :: [b9] :: [b10] :: [b11] :: [b12] :: [b13] :: [b14] :: rest) = 0 := by unfold stTakeK_11; rw [h]; rfl
theorem k_z12 (h : stTakeK_s19 0 0 ([b0] :: [b1] :: [b2] :: [b3] :: [b4] :: [b5] :: [b6] :: [b7] :: [b8] :: [b9] :: [b10] :: [b11] :: [b12] :: [b13] :: [b14] :: rest) = true) : stTakeK_12 0 0 ([b0] :: [b1] :: [b2] :: [b3] :: [b4] :: [b5] :: [b6] :: [b7] :: [b8] :: [b9] :: [b10] :: [b11] :: [b12] :: [b13] :: [b14] :: rest) = 0 := by unfold stTakeK_12; rw [h]; rfl
theorem k_z13 (h : stTakeK_s19 0 0 ([b0] :: [b1] :: [b2] :: [b3] :: [b4] :: [b5] :: [b6] :: [b7] :: [b8] :: [b9] :: [b10] :: [b11] :: [b12] :: [b13] :: [b14] :: rest) = true) : stTakeK_13 0 0 ([b0] :: [b1] :: [b2] :: [b3] :: [b4] :: [b5] :: [b6] :: [b7] :: [b8] :: [b9] :: [b10] :: [b11] :: [b12] :: [b13] :: [b14] :: rest) = 0 := by unfold stTakeK_13; rw [h]; rfl
theorem k_z14 (h : stTakeK_s19 0 0 ([b0] :: [b1] :: [b2] :: [b3] :: [b4] :: [b5] :: [b6] :: [b7] :: [b8] :: [b9] :: [b10] :: [b11] :: [b12] :: [b13] :: [b14] :: rest) = true) : stTakeK_14 0 0 ([b0] :: [b1] :: [b2] :: [b3] :: [b4] :: [b5] :: [b6] :: [b7] :: [b8] :: [b9] :: [b10] :: [b11] :: [b12] :: [b13] :: [b14] :: rest) = 0 := by unfold stTakeK_14; rw [h]; rfl
theorem k_g0 (h : stTakeK_s19 0 0 ([b0] :: [b1] :: [b2] :: [b3] :: [b4] :: [b5] :: [b6] :: [b7] :: [b8] :: [b9] :: [b10] :: [b11] :: [b12] :: [b13] :: [b14] :: rest) = false) : stTakeK_0 0 0 ([b0] :: [b1] :: [b2] :: [b3] :: [b4] :: [b5] :: [b6] :: [b7] :: [b8] :: [b9] :: [b10] :: [b11] :: [b12] :: [b13] :: [b14] :: rest) = b0 := by unfold stTakeK_0 stTakeK_s4; rw [h, k_s1]; rfl
theorem k_g1 (h : stTakeK_s19 0 0 ([b0] :: [b1] :: [b2] :: [b3] :: [b4] :: [b5] :: [b6] :: [b7] :: [b8] :: [b9] :: [b10] :: [b11] :: [b12] :: [b13] :: [b14] :: rest) = false) : stTakeK_1 0 0 ([b0] :: [b1] :: [b2] :: [b3] :: [b4] :: [b5] :: [b6] :: [b7] :: [b8] :: [b9] :: [b10] :: [b11] :: [b12] :: [b13] :: [b14] :: rest) = (b1 == 1) := by unfold stTakeK_1 stTakeK_s2; rw [h, k_s1]; rfl
theorem k_g2 (h : stTakeK_s19 0 0 ([b0] :: [b1] :: [b2] :: [b3] :: [b4] :: [b5] :: [b6] :: [b7] :: [b8] :: [b9] :: [b10] :: [b11] :: [b12] :: [b13] :: [b14] :: rest) = false) : stTakeK_2 0 0 ([b0] :: [b1] :: [b2] :: [b3] :: [b4] :: [b5] :: [b6] :: [b7] :: [b8] :: [b9] :: [b10] :: [b11] :: [b12] :: [b13] :: [b14] :: rest) = b2 := by unfold stTakeK_2 stTakeK_s5; rw [h, k_s1]; rfl
theorem k_g3 (h : stTakeK_s19 0 0 ([b0] :: [b1] :: [b2] :: [b3] :: [b4] :: [b5] :: [b6] :: [b7] :: [b8] :: [b9] :: [b10] :: [b11] :: [b12] :: [b13] :: [b14] :: rest) = false) : stTakeK_3 0 0 ([b0] :: [b1] :: [b2] :: [b3] :: [b4] :: [b5] :: [b6] :: [b7] :: [b8] :: [b9] :: [b10] :: [b11] :: [b12] :: [b13] :: [b14] :: rest) = b3 := by unfold stTakeK_3; rw [h, k_s1]; rfl
theorem k_g4 (h : stTakeK_s19 0 0 ([b0] :: [b1] :: [b2] :: [b3] :: [b4] :: [b5] :: [b6] :: [b7] :: [b8] :: [b9] :: [b10] :: [b11] :: [b12] :: [b13] :: [b14] :: rest) = false) : stTakeK_4 0 0 ([b0] :: [b1] :: [b2] :: [b3] :: [b4] :: [b5] :: [b6] :: [b7] :: [b8] :: [b9] :: [b10] :: [b11] :: [b12] :: [b13] :: [b14] :: rest) = b4 := by unfold stTakeK_4; rw [h, k_s1]; rfl
theorem k_g5 (h : stTakeK_s19 0 0 ([b0] :: [b1] :: [b2] :: [b3] :: [b4] :: [b5] :: [b6] :: [b7] :: [b8] :: [b9] :: [b10] :: [b11] :: [b12] :: [b13] :: [b14] :: rest) = false) : stTakeK_5 0 0 ([b0] :: [b1] :: [b2] :: [b3] :: [b4] :: [b5] :: [b6] :: [b7] :: [b8] :: [b9] :: [b10] :: [b11] :: [b12] :: [b13] :: [b14] :: rest) = b5 := by unfold stTakeK_5 stTakeK_s6; rw [h, k_s1]; rfl
theorem k_g6 (h : stTakeK_s19 0 0 ([b0] :: [b1] :: [b2] :: [b3] :: [b4] :: [b5] :: [b6] :: [b7] :: [b8] :: [b9] :: [b10] :: [b11] :: [b12] :: [b13] :: [b14] :: rest) = false) : stTakeK_6 0 0 ([b0] :: [b1] :: [b2] :: [b3] :: [b4] :: [b5] :: [b6] :: [b7] :: [b8] :: [b9] :: [b10] :: [b11] :: [b12] :: [b13] :: [b14] :: rest) = b6 := by unfold stTakeK_6 stTakeK_s7; rw [h, k_s1]; rfl
theorem k_g7 (h : stTakeK_s19 0 0 ([b0] :: [b1] :: [b2] :: [b3] :: [b4] :: [b5] :: [b6] :: [b7] :: [b8] :: [b9] :: [b10] :: [b11] :: [b12] :: [b13] :: [b14] :: rest) = false) : stTakeK_7 0 0 ([b0] :: [b1] :: [b2] :: [b3] :: [b4] :: [b5] :: [b6] :: [b7] :: [b8] :: [b9] :: [b10] :: [b11] :: [b12] :: [b13] :: [b14] :: rest) = b7 := by unfold stTakeK_7 stTakeK_s8; rw [h, k_s1]; rfl
theorem k_g8 (h : stTakeK_s19 0 0 ([b0] :: [b1] :: [b2] :: [b3] :: [b4] :: [b5] :: [b6] :: [b7] :: [b8] :: [b9] :: [b10] :: [b11] :: [b12] :: [b13] :: [b14] :: rest) = false) : stTakeK_8 0 0 ([b0] :: [b1] :: [b2] :: [b3] :: [b4] :: [b5] :: [b6] :: [b7] :: [b8] :: [b9] :: [b10] :: [b11] :: [b12] :: [b13] :: [b14] :: rest) = b8 := by unfold stTakeK_8 stTakeK_s9; rw [h, k_s1]; rfl
theorem k_g9 (h : stTakeK_s19 0 0 ([b0] :: [b1] :: [b2] :: [b3] :: [b4] :: [b5] :: [b6] :: [b7] :: [b8] :: [b9] :: [b10] :: [b11] :: [b12] :: [b13] :: [b14] :: rest) = false) : stTakeK_9 0 0 ([b0] :: [b1] :: [b2] :: [b3] :: [b4] :: [b5] :: [b6] :: [b7] :: [b8] :: [b9] :: [b10] :: [b11] :: [b12] :: [b13] :: [b14] :: rest) = b9 := by unfold stTakeK_9 stTakeK_s10; rw [h, k_s1]; rfl
theorem k_g10 (h : stTakeK_s19 0 0 ([b0] :: [b1] :: [b2] :: [b3] :: [b4] :: [b5] :: [b6] :: [b7] :: [b8] :: [b9] :: [b10] :: [b11] :: [b12] :: [b13] :: [b14] :: rest) = false) : stTakeK_10 0 0 ([b0] :: [b1] :: [b2] :: [b3] :: [b4] :: [b5] :: [b6] :: [b7] :: [b8] :: [b9] :: [b10] :: [b11] :: [b12] :: [b13] :: [b14] :: rest) = b10 := by unfold stTakeK_10 stTakeK_s11; rw [h, k_s1]; rfl
theorem k_g11 (h : stTakeK_s19 0 0 ([b0] :: [b1] :: [b2] :: [b3] :: [b4] :: [b5] :: [b6] :: [b7] :: [b8] :: [b9] :: [b10] :: [b11] :: [b12] :: [b13] :: [b14] :: rest) = false) : stTakeK_11 0 0 ([b0] :: [b1] :: [b2] :: [b3] :: [b4] :: [b5] :: [b6] :: [b7] :: [b8] :: [b9] :: [b10] :: [b11] :: [b12] :: [b13] :: [b14] :: rest) = IntKind.wrap .i64 b11 := by unfold stTakeK_11 stTakeK_s12; rw [h, k_s1]; rfl
theorem k_g12 (h : stTakeK_s19 0 0 ([b0] :: [b1] :: [b2] :: [b3] :: [b4] :: [b5] :: [b6] :: [b7] :: [b8] :: [b9] :: [b10] :: [b11] :: [b12] :: [b13] :: [b14] :: rest) = false) : stTakeK_12 0 0 ([b0] :: [b1] :: [b2] :: [b3] :: [b4] :: [b5] :: [b6] :: [b7] :: [b8] :: [b9] :: [b10] :: [b11] :: [b12] :: [b13] :: [b14] :: rest) = IntKind.wrap .i64 b12 := by unfold stTakeK_12 stTakeK_s13; rw [h, k_s1]; rfl
theorem k_g13 (h : stTakeK_s19 0 0 ([b0] :: [b1] :: [b2] :: [b3] :: [b4] :: [b5] :: [b6] :: [b7] :: [b8] :: [b9] :: [b10] :: [b11] :: [b12] :: [b13] :: [b14] :: rest) = false) : stTakeK_13 0 0 ([b0] :: [b1] :: [b2] :: [b3] :: [b4] :: [b5] :: [b6] :: [b7] :: [b8] :: [b9] :: [b10] :: [b11] :: [b12] :: [b13] :: [b14] :: rest) = IntKind.wrap .i64 b13 := by unfold stTakeK_13 stTakeK_s14; rw [h, k_s1]; rfl
theorem k_g14 (h : stTakeK_s19 0 0 ([b0] :: [b1] :: [b2] :: [b3] :: [b4] :: [b5] :: [b6] :: [b7] :: [b8] :: [b9] :: [b10] :: [b11] :: [b12] :: [b13] :: [b14] :: rest) = false) : stTakeK_14 0 0 ([b0] :: [b1] :: [b2] :: [b3] :: [b4] :: [b5] :: [b6] :: [b7] :: [b8] :: [b9] :: [b10] :: [b11] :: [b12] :: [b13] :: [b14] :: rest) = IntKind.wrap .i64 b14 := by unfold stTakeK_14 stTakeK_s15; rw [h, k_s1]; rfl
theorem k_16 : stTakeK_16 0 0 ([b0] :: [b1] :: [b2] :: [b3] :: [b4] :: [b5] :: [b6] :: [b7] :: [b8] :: [b9] :: [b10] :: [b11] :: [b12] :: [b13] :: [b14] :: rest) = stTakeK_s18 0 0 ([b0] :: [b1] :: [b2] :: [b3] :: [b4] :: [b5] :: [b6] :: [b7] :: [b8] :: [b9] :: [b10] :: [b11] :: [b12] :: [b13] :: [b14] :: rest) := rfl
end

theorem left_eq {M : List (List Int)} (h : M.length ≤ 1000) : wLeft_0 0 0 M = (M.length : Int) := by
  unfold wLeft_0
  show IntKind.wrap .i64 (Int.ofNat M.length - 0) = _
  have e : Int.ofNat M.length = (M.length : Int) := rfl
  rw [e, w64_in (by omega) (by omega)]; omega

/-- What comes of bytes. -/
theorem any_one {M : List (List Int)} (hb : ∀ row ∈ M, RowFit [.int .u8] row) (hl : M.length ≤ 1000) :
    (((bif !decide (wLeft_0 0 0 M < 15) then stTakeK_16 0 0 M else stTakeF_s17 0) != 0) = true → ((bif !decide (wLeft_0 0 0 M < 15) then stTakeK_0 0 0 M else stTakeF_0 0) == 0 && ((bif !decide (wLeft_0 0 0 M < 15) then stTakeK_1 0 0 M else stTakeF_1 0) == false && ((bif !decide (wLeft_0 0 0 M < 15) then stTakeK_2 0 0 M else stTakeF_2 0) == 0 && ((bif !decide (wLeft_0 0 0 M < 15) then stTakeK_3 0 0 M else stTakeF_3 0) == 0 && ((bif !decide (wLeft_0 0 0 M < 15) then stTakeK_4 0 0 M else stTakeF_4 0) == 0 && ((bif !decide (wLeft_0 0 0 M < 15) then stTakeK_5 0 0 M else stTakeF_5 0) == 0 && ((bif !decide (wLeft_0 0 0 M < 15) then stTakeK_6 0 0 M else stTakeF_6 0) == 0 && ((bif !decide (wLeft_0 0 0 M < 15) then stTakeK_7 0 0 M else stTakeF_7 0) == 0 && ((bif !decide (wLeft_0 0 0 M < 15) then stTakeK_8 0 0 M else stTakeF_8 0) == 0 && ((bif !decide (wLeft_0 0 0 M < 15) then stTakeK_9 0 0 M else stTakeF_9 0) == 0 && ((bif !decide (wLeft_0 0 0 M < 15) then stTakeK_10 0 0 M else stTakeF_10 0) == 0 && ((bif !decide (wLeft_0 0 0 M < 15) then stTakeK_11 0 0 M else stTakeF_11 0) == 0 && ((bif !decide (wLeft_0 0 0 M < 15) then stTakeK_12 0 0 M else stTakeF_12 0) == 0 && ((bif !decide (wLeft_0 0 0 M < 15) then stTakeK_13 0 0 M else stTakeF_13 0) == 0 && ((bif !decide (wLeft_0 0 0 M < 15) then stTakeK_14 0 0 M else stTakeF_14 0) == 0))))))))))))))) = true) ∧ (((bif !decide (wLeft_0 0 0 M < 15) then stTakeK_16 0 0 M else stTakeF_s17 0) != 0) = false → 15 ≤ M.length ∧ (sChk_0 (bif !decide (wLeft_0 0 0 M < 15) then stTakeK_0 0 0 M else stTakeF_0 0) (bif !decide (wLeft_0 0 0 M < 15) then stTakeK_2 0 0 M else stTakeF_2 0) (bif !decide (wLeft_0 0 0 M < 15) then stTakeK_5 0 0 M else stTakeF_5 0) (bif !decide (wLeft_0 0 0 M < 15) then stTakeK_6 0 0 M else stTakeF_6 0) (bif !decide (wLeft_0 0 0 M < 15) then stTakeK_7 0 0 M else stTakeF_7 0) (bif !decide (wLeft_0 0 0 M < 15) then stTakeK_8 0 0 M else stTakeF_8 0) (bif !decide (wLeft_0 0 0 M < 15) then stTakeK_9 0 0 M else stTakeF_9 0) (bif !decide (wLeft_0 0 0 M < 15) then stTakeK_10 0 0 M else stTakeF_10 0) (bif !decide (wLeft_0 0 0 M < 15) then stTakeK_11 0 0 M else stTakeF_11 0) (bif !decide (wLeft_0 0 0 M < 15) then stTakeK_12 0 0 M else stTakeF_12 0) (bif !decide (wLeft_0 0 0 M < 15) then stTakeK_13 0 0 M else stTakeF_13 0) (bif !decide (wLeft_0 0 0 M < 15) then stTakeK_14 0 0 M else stTakeF_14 0) != 0) = false ∧ wBytes_s0 (stPut0_0 (bif !decide (wLeft_0 0 0 M < 15) then stTakeK_0 0 0 M else stTakeF_0 0) (bif !decide (wLeft_0 0 0 M < 15) then stTakeK_1 0 0 M else stTakeF_1 0) (bif !decide (wLeft_0 0 0 M < 15) then stTakeK_2 0 0 M else stTakeF_2 0) (bif !decide (wLeft_0 0 0 M < 15) then stTakeK_3 0 0 M else stTakeF_3 0) (bif !decide (wLeft_0 0 0 M < 15) then stTakeK_4 0 0 M else stTakeF_4 0) (bif !decide (wLeft_0 0 0 M < 15) then stTakeK_5 0 0 M else stTakeF_5 0) (bif !decide (wLeft_0 0 0 M < 15) then stTakeK_6 0 0 M else stTakeF_6 0) (bif !decide (wLeft_0 0 0 M < 15) then stTakeK_7 0 0 M else stTakeF_7 0) (bif !decide (wLeft_0 0 0 M < 15) then stTakeK_8 0 0 M else stTakeF_8 0) (bif !decide (wLeft_0 0 0 M < 15) then stTakeK_9 0 0 M else stTakeF_9 0) (bif !decide (wLeft_0 0 0 M < 15) then stTakeK_10 0 0 M else stTakeF_10 0) (bif !decide (wLeft_0 0 0 M < 15) then stTakeK_11 0 0 M else stTakeF_11 0) (bif !decide (wLeft_0 0 0 M < 15) then stTakeK_12 0 0 M else stTakeF_12 0) (bif !decide (wLeft_0 0 0 M < 15) then stTakeK_13 0 0 M else stTakeF_13 0) (bif !decide (wLeft_0 0 0 M < 15) then stTakeK_14 0 0 M else stTakeF_14 0)) = M.take 15) := by
  rw [left_eq hl]
  by_cases h15 : (M.length : Int) < 15
  · rw [decide_eq_true h15]
    simp only [Bool.not_true, cond_false]
    exact ⟨fun _ => by decide +kernel, fun h => absurd h (by decide +kernel)⟩
  · rw [decide_eq_false h15]
    have hlen : 15 ≤ M.length := by omega
    have one : ∀ r, r ∈ M → ∃ b, r = [b] ∧ 0 ≤ b ∧ b ≤ 255 := fun r hr => by
      obtain ⟨h1, h2⟩ := hb r hr
      match r, h1 with
      | [b], _ => have h3 : IntKind.min .u8 ≤ b ∧ b ≤ IntKind.max .u8 := h2 0 (.int .u8) b rfl rfl; exact ⟨b, rfl, bd_u8 h3.1 h3.2⟩
    match M, hlen, one with
    | r0 :: r1 :: r2 :: r3 :: r4 :: r5 :: r6 :: r7 :: r8 :: r9 :: r10 :: r11 :: r12 :: r13 :: r14 :: rest, _, one =>
      obtain ⟨b0, rfl, l0, u0⟩ := one r0 (by simp)
      obtain ⟨b1, rfl, l1, u1⟩ := one r1 (by simp)
      obtain ⟨b2, rfl, l2, u2⟩ := one r2 (by simp)
      obtain ⟨b3, rfl, l3, u3⟩ := one r3 (by simp)
      obtain ⟨b4, rfl, l4, u4⟩ := one r4 (by simp)
      obtain ⟨b5, rfl, l5, u5⟩ := one r5 (by simp)
      obtain ⟨b6, rfl, l6, u6⟩ := one r6 (by simp)
      obtain ⟨b7, rfl, l7, u7⟩ := one r7 (by simp)
      obtain ⟨b8, rfl, l8, u8⟩ := one r8 (by simp)
      obtain ⟨b9, rfl, l9, u9⟩ := one r9 (by simp)
      obtain ⟨b10, rfl, l10, u10⟩ := one r10 (by simp)
      obtain ⟨b11, rfl, l11, u11⟩ := one r11 (by simp)
      obtain ⟨b12, rfl, l12, u12⟩ := one r12 (by simp)
      obtain ⟨b13, rfl, l13, u13⟩ := one r13 (by simp)
      obtain ⟨b14, rfl, l14, u14⟩ := one r14 (by simp)
      have hgood := k_good (b0 := b0) (b1 := b1) (b2 := b2) (b3 := b3) (b4 := b4) (b5 := b5) (b6 := b6) (b7 := b7) (b8 := b8) (b9 := b9) (b10 := b10) (b11 := b11) (b12 := b12) (b13 := b13) (b14 := b14) (rest := rest)
      simp only [Bool.not_false, cond_true, k_16]
      constructor
      · intro h
        have hz := k_bad (bne_iff_ne.1 h)
        rw [k_z0 hz, k_z1 hz, k_z2 hz, k_z3 hz, k_z4 hz, k_z5 hz, k_z6 hz, k_z7 hz, k_z8 hz, k_z9 hz, k_z10 hz, k_z11 hz, k_z12 hz, k_z13 hz, k_z14 hz]
        rfl
      · intro h
        have h0 : stTakeK_s18 0 0 ([b0] :: [b1] :: [b2] :: [b3] :: [b4] :: [b5] :: [b6] :: [b7] :: [b8] :: [b9] :: [b10] :: [b11] :: [b12] :: [b13] :: [b14] :: rest) = 0 := by simpa using h
        obtain ⟨hz, g1, g2⟩ := hgood h0
        refine ⟨by simp, ?_, ?_⟩
        · rw [k_g0 hz, k_g2 hz, k_g5 hz, k_g6 hz, k_g7 hz, k_g8 hz, k_g9 hz, k_g10 hz, k_g11 hz, k_g12 hz, k_g13 hz, k_g14 hz, g2]; rfl
        · rw [k_g0 hz, k_g1 hz, k_g2 hz, k_g3 hz, k_g4 hz, k_g5 hz, k_g6 hz, k_g7 hz, k_g8 hz, k_g9 hz, k_g10 hz, k_g11 hz, k_g12 hz, k_g13 hz, k_g14 hz]
          have wI : ∀ x : Int, 0 ≤ x → x ≤ 255 → IntKind.wrap .u8 (IntKind.wrap .i64 x) = x := fun x a b => by rw [w64_in (by omega) (by omega), w8_in a b]
          have ef : stPut0_s0 (b1 == 1) = b1 := by
            have : b1 = 0 ∨ b1 = 1 := by omega
            rcases this with rfl | rfl <;> rfl
          show [[b0], [stPut0_s0 (b1 == 1)], [b2], [b3], [b4], [b5], [b6], [b7], [b8], [b9], [b10], [IntKind.wrap .u8 (IntKind.wrap .i64 b11)], [IntKind.wrap .u8 (IntKind.wrap .i64 b12)], [IntKind.wrap .u8 (IntKind.wrap .i64 b13)], [IntKind.wrap .u8 (IntKind.wrap .i64 b14)]] = [[b0], [b1], [b2], [b3], [b4], [b5], [b6], [b7], [b8], [b9], [b10], [b11], [b12], [b13], [b14]]
          rw [ef, wI b11 l11 u11, wI b12 l12 u12, wI b13 l13 u13, wI b14 l14 u14]

end Go.Proofs.Ytcdejlgophpdjaa
