/-
  Where no triangle comes of three vertices, all its numbers are 0 (printed by tools/gengh.py).
-/
import Derived.Test.YtbdmaepooahplaaGg
namespace Go.Proofs.Ytbdmaepooahplaa
open Go Go.RowKit Go.Proofs.Ytbdmaepooahplaa.V
set_option linter.unusedVariables false
set_option linter.unusedSectionVars false
set_option linter.unusedSimpArgs false

theorem mk_zero (v : lMakes_l253_T) (h : lMakes_l253_s24 v = false) : lMakes_l253_s63 v = false := by
  have h2 : sMake_s2 (sOf_0 (lMakes_l253_s3 v) (lMakes_l253_s2 v) (lMakes_l253_T.a2 v)) (sOf_1 (lMakes_l253_s4 v) (lMakes_l253_s2 v) (lMakes_l253_T.a3 v)) (lMakes_l253_s18 v) (lMakes_l253_s19 v) (lMakes_l253_s20 v) (lMakes_l253_s21 v) (Int.tmod (lMakes_l253_T.a0 v) (3 : Int)) = true := by
    have e : lMakes_l253_s24 v = !sMake_s2 (sOf_0 (lMakes_l253_s3 v) (lMakes_l253_s2 v) (lMakes_l253_T.a2 v)) (sOf_1 (lMakes_l253_s4 v) (lMakes_l253_s2 v) (lMakes_l253_T.a3 v)) (lMakes_l253_s18 v) (lMakes_l253_s19 v) (lMakes_l253_s20 v) (lMakes_l253_s21 v) (Int.tmod (lMakes_l253_T.a0 v) (3 : Int)) := mk_24 ..
    rw [h] at e
    cases g : sMake_s2 (sOf_0 (lMakes_l253_s3 v) (lMakes_l253_s2 v) (lMakes_l253_T.a2 v)) (sOf_1 (lMakes_l253_s4 v) (lMakes_l253_s2 v) (lMakes_l253_T.a3 v)) (lMakes_l253_s18 v) (lMakes_l253_s19 v) (lMakes_l253_s20 v) (lMakes_l253_s21 v) (Int.tmod (lMakes_l253_T.a0 v) (3 : Int))
    · rw [g] at e; cases e
    · rfl
  unfold lMakes_l253_s63
  rw [h]
  have z0 : lMakes_l253_s25 v = 0 := by
    unfold lMakes_l253_s25 sMake_0; rw [h2]; rfl
  have z1 : lMakes_l253_s26 v = 0 := by
    unfold lMakes_l253_s26 sMake_1; rw [h2]; rfl
  have z2 : lMakes_l253_s27 v = 0 := by
    unfold lMakes_l253_s27 sMake_2; rw [h2]; rfl
  have z3 : lMakes_l253_s28 v = 0 := by
    unfold lMakes_l253_s28 sMake_3; rw [h2]; rfl
  have z4 : lMakes_l253_s29 v = 0 := by
    unfold lMakes_l253_s29 sMake_4; rw [h2]; rfl
  have z5 : lMakes_l253_s30 v = 0 := by
    unfold lMakes_l253_s30 sMake_5; rw [h2]; rfl
  have z6 : lMakes_l253_s31 v = 0 := by
    unfold lMakes_l253_s31 sMake_6; rw [h2]; rfl
  have z7 : lMakes_l253_s34 v = 0 := by
    unfold lMakes_l253_s34 sMake_7; rw [h2]; rfl
  have z8 : lMakes_l253_s35 v = 0 := by
    unfold lMakes_l253_s35 sMake_8; rw [h2]; rfl
  have z9 : lMakes_l253_s36 v = 0 := by
    unfold lMakes_l253_s36 sMake_9; rw [h2]; rfl
  have z10 : lMakes_l253_s37 v = 0 := by
    unfold lMakes_l253_s37 sMake_10; rw [h2]; rfl
  have z11 : lMakes_l253_s38 v = 0 := by
    unfold lMakes_l253_s38 sMake_11; rw [h2]; rfl
  have z12 : lMakes_l253_s40 v = 0 := by
    unfold lMakes_l253_s40 sMake_12; rw [h2]; rfl
  have z13 : lMakes_l253_s42 v = 0 := by
    unfold lMakes_l253_s42 sMake_13; rw [h2]; rfl
  have z14 : lMakes_l253_s44 v = 0 := by
    unfold lMakes_l253_s44 sMake_14; rw [h2]; rfl
  have z15 : lMakes_l253_s46 v = 0 := by
    unfold lMakes_l253_s46 sMake_15; rw [h2]; rfl
  have z16 : lMakes_l253_s49 v = 0 := by
    unfold lMakes_l253_s49 sMake_16; rw [h2]; rfl
  have z17 : lMakes_l253_s52 v = 0 := by
    unfold lMakes_l253_s52 sMake_17; rw [h2]; rfl
  have z18 : lMakes_l253_s55 v = 0 := by
    unfold lMakes_l253_s55 sMake_18; rw [h2]; rfl
  have z19 : lMakes_l253_s58 v = 0 := by
    unfold lMakes_l253_s58 sMake_19; rw [h2]; rfl
  have z20 : lMakes_l253_s59 v = 0 := by
    unfold lMakes_l253_s59 sMake_20; rw [h2]; rfl
  have z21 : lMakes_l253_s60 v = 0 := by
    unfold lMakes_l253_s60 sMake_21; rw [h2]; rfl
  have z22 : lMakes_l253_s61 v = 0 := by
    unfold lMakes_l253_s61 sMake_22; rw [h2]; rfl
  have z23 : lMakes_l253_s62 v = 0 := by
    unfold lMakes_l253_s62 sMake_23; rw [h2]; rfl
  rw [z0, z1, z2, z3, z4, z5, z6, z7, z8, z9, z10, z11, z12, z13, z14, z15, z16, z17, z18, z19, z20, z21, z22, z23]
  rfl

end Go.Proofs.Ytbdmaepooahplaa
