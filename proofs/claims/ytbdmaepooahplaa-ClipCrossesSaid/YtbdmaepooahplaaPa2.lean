/-
  Contracts of functions of the program, each run on the local memory (printed by a program of this session's own: wip/tools).
-/
import Derived.Test.YtbdmaepooahplaaPa1
namespace Go.Proofs.Ytbdmaepooahplaa
open Go Go.RowKit Go.Proofs.Ytbdmaepooahplaa.V
set_option linter.unusedVariables false

/-! (azulejo/edge.Point).near -/
def eNear_0 (x0_0 : Int) : Int := fWithin_0 x0_0 (16384 : Int)
def eNear_1 (x0_1 : Int) : Int := fWithin_0 x0_1 (16384 : Int)
theorem eNear_p (x0_0 : Int) (x0_1 : Int) : evG Try.prog tabPa1 2000 93 [0, 1, 2] [] [] [.g [.int true .i64 x0_0, .int true .i64 x0_1]] [] = some ([], LV.g [At.int true IntKind.i64 (eNear_0 x0_0), At.int true IntKind.i64 (eNear_1 x0_1)], []) := by kernel_rfl
def eNear_c : Con
  | [.g [.int true .i64 x0_0, .int true .i64 x0_1]], [] => some ([], LV.g [At.int true IntKind.i64 (eNear_0 x0_0), At.int true IntKind.i64 (eNear_1 x0_1)], [])
  | _, _ => none
theorem eNear_ok : ConOK Try.prog 93 (normC eNear_c) := normC_ok (by
  intro args bs obs lv out h ho φ vs w may ha hM
  unfold eNear_c at h
  split at h
  · simp only [Option.some.injEq, Prod.mk.injEq] at h
    obtain ⟨rfl, rfl, rfl⟩ := h
    rename_i x0_0 x0_1
    exact evG_ok tabPa1_ok follows _ _ _ _ _ (eNear_p x0_0 x0_1) ho φ vs w may ha hM
  · cases h)
theorem eNear_en : Enters Try.prog 93 := fun args => by kernel_rfl
-- 103 2 1 ms

/-! azulejo/azulejoref01.Side -/
def rSide_0 (x0_0 : Int) (x0_1 : Int) (x1_0 : Int) (x1_1 : Int) (x2_0 : Int) (x2_1 : Int) : Int := IntKind.wrap IntKind.i64 (IntKind.wrap IntKind.i64 (IntKind.wrap IntKind.i64 (rNear_0 x1_0 - rNear_0 x0_0) * IntKind.wrap IntKind.i64 (rNear_0 x2_1 - rNear_0 x0_1)) - IntKind.wrap IntKind.i64 (IntKind.wrap IntKind.i64 (rNear_0 x1_1 - rNear_0 x0_1) * IntKind.wrap IntKind.i64 (rNear_0 x2_0 - rNear_0 x0_0)))
theorem rSide_p (x0_0 : Int) (x0_1 : Int) (x1_0 : Int) (x1_1 : Int) (x2_0 : Int) (x2_1 : Int) : evG Try.prog tabPa1 2000 73 [0, 1, 2, 3, 4, 5, 6, 7, 8] [] [] [.g [.int true .i64 x0_0, .int true .i64 x0_1], .g [.int true .i64 x1_0, .int true .i64 x1_1], .g [.int true .i64 x2_0, .int true .i64 x2_1]] [] = some ([], LV.a (At.int true IntKind.i64 (rSide_0 x0_0 x0_1 x1_0 x1_1 x2_0 x2_1)), []) := by kernel_rfl
def rSide_c : Con
  | [.g [.int true .i64 x0_0, .int true .i64 x0_1], .g [.int true .i64 x1_0, .int true .i64 x1_1], .g [.int true .i64 x2_0, .int true .i64 x2_1]], [] => some ([], LV.a (At.int true IntKind.i64 (rSide_0 x0_0 x0_1 x1_0 x1_1 x2_0 x2_1)), [])
  | _, _ => none
theorem rSide_ok : ConOK Try.prog 73 (normC rSide_c) := normC_ok (by
  intro args bs obs lv out h ho φ vs w may ha hM
  unfold rSide_c at h
  split at h
  · simp only [Option.some.injEq, Prod.mk.injEq] at h
    obtain ⟨rfl, rfl, rfl⟩ := h
    rename_i x0_0 x0_1 x1_0 x1_1 x2_0 x2_1
    exact evG_ok tabPa1_ok follows _ _ _ _ _ (rSide_p x0_0 x0_1 x1_0 x1_1 x2_0 x2_1) ho φ vs w may ha hM
  · cases h)
theorem rSide_en : Enters Try.prog 73 := fun args => by kernel_rfl
-- 357 4 4 ms

/-! (azulejo/vec.Vec).Within -/
theorem vWithin_p (x0_0 : Int) (x0_1 : Int) (x0_2 : Int) (x0_3 : Int) (x1 : Int) : evG Try.prog tabPa1 2000 58 [0, 1, 2, 4, 5, 6, 7, 8, 9] [] [] [.g [.int true .i64 x0_0, .int true .i64 x0_1, .int true .i64 x0_2, .int true .i64 x0_3], .a (.int true .i64 x1)] [] = some ([], LV.g [At.int true IntKind.i64 (fWithin_0 x0_0 x1), At.int true IntKind.i64 (fWithin_0 x0_1 x1), At.int true IntKind.i64 (fWithin_0 x0_2 x1), At.int true IntKind.i64 (fWithin_0 x0_3 x1)], []) := by kernel_rfl
def vWithin_c : Con
  | [.g [.int true .i64 x0_0, .int true .i64 x0_1, .int true .i64 x0_2, .int true .i64 x0_3], .a (.int true .i64 x1)], [] => some ([], LV.g [At.int true IntKind.i64 (fWithin_0 x0_0 x1), At.int true IntKind.i64 (fWithin_0 x0_1 x1), At.int true IntKind.i64 (fWithin_0 x0_2 x1), At.int true IntKind.i64 (fWithin_0 x0_3 x1)], [])
  | _, _ => none
theorem vWithin_ok : ConOK Try.prog 58 (normC vWithin_c) := normC_ok (by
  intro args bs obs lv out h ho φ vs w may ha hM
  unfold vWithin_c at h
  split at h
  · simp only [Option.some.injEq, Prod.mk.injEq] at h
    obtain ⟨rfl, rfl, rfl⟩ := h
    rename_i x0_0 x0_1 x0_2 x0_3 x1
    exact evG_ok tabPa1_ok follows _ _ _ _ _ (vWithin_p x0_0 x0_1 x0_2 x0_3 x1) ho φ vs w may ha hM
  · cases h)
theorem vWithin_en : Enters Try.prog 58 := fun args => by kernel_rfl
-- 213 1 1 ms

/-! azulejo/azulejoref09.Put -/
def rPut_s0 : Int := Int.ofNat ((2 : Nat) ^ IntKind.bits IntKind.i64)
def rPut_s1 (x0_5 : Int) (x1_1 : Int) (x1_2 : Int) (x1_3 : Int) : Bool := !rHolds_0 x1_1 (IntKind.wrap IntKind.i64 (Int.ofNat (Int.toNat (x1_2 % rPut_s0) &&& Int.toNat (x1_3 % rPut_s0)))) (IntKind.wrap IntKind.i64 (Int.ofNat (Int.toNat (x0_5 % rPut_s0) &&& Int.toNat (x1_3 % rPut_s0))))
def rPut_0 (x0_0 : Int) (x0_4 : Int) (x0_5 : Int) (x1_0 : Int) (x1_1 : Int) (x1_2 : Int) (x1_3 : Int) (x1_7 : Int) (x1_8 : Int) (x2 : Int) (x3_0 : Int) (x3_3 : Int) : Int := bif rPut_s1 x0_5 x1_1 x1_2 x1_3 then x0_0 else bif !rHolds_0 x1_0 x2 x0_4 then x0_0 else bif Int.tmod (Int.fdiv x1_8 ((2 : Int) ^ min (Int.toNat (0 : Int)) (IntKind.bits IntKind.i64))) (2 : Int) == (1 : Int) then rBlend_0 x1_7 (rByte_0 x3_0) x0_0 (rByte_0 x3_3) else x0_0
def rPut_s2 : Int := IntKind.wrap IntKind.i64 ((0 : Int) + (1 : Int))
def rPut_1 (x0_1 : Int) (x0_4 : Int) (x0_5 : Int) (x1_0 : Int) (x1_1 : Int) (x1_2 : Int) (x1_3 : Int) (x1_7 : Int) (x1_8 : Int) (x2 : Int) (x3_1 : Int) (x3_3 : Int) : Int := bif rPut_s1 x0_5 x1_1 x1_2 x1_3 then x0_1 else bif !rHolds_0 x1_0 x2 x0_4 then x0_1 else bif Int.tmod (Int.fdiv x1_8 ((2 : Int) ^ min (Int.toNat rPut_s2) (IntKind.bits IntKind.i64))) (2 : Int) == (1 : Int) then rBlend_0 x1_7 (rByte_0 x3_1) x0_1 (rByte_0 x3_3) else x0_1
def rPut_s3 : Int := IntKind.wrap IntKind.i64 (rPut_s2 + (1 : Int))
def rPut_2 (x0_2 : Int) (x0_4 : Int) (x0_5 : Int) (x1_0 : Int) (x1_1 : Int) (x1_2 : Int) (x1_3 : Int) (x1_7 : Int) (x1_8 : Int) (x2 : Int) (x3_2 : Int) (x3_3 : Int) : Int := bif rPut_s1 x0_5 x1_1 x1_2 x1_3 then x0_2 else bif !rHolds_0 x1_0 x2 x0_4 then x0_2 else bif Int.tmod (Int.fdiv x1_8 ((2 : Int) ^ min (Int.toNat rPut_s3) (IntKind.bits IntKind.i64))) (2 : Int) == (1 : Int) then rBlend_0 x1_7 (rByte_0 x3_2) x0_2 (rByte_0 x3_3) else x0_2
def rPut_3 (x0_3 : Int) (x0_4 : Int) (x0_5 : Int) (x1_0 : Int) (x1_1 : Int) (x1_2 : Int) (x1_3 : Int) (x1_7 : Int) (x1_8 : Int) (x2 : Int) (x3_3 : Int) : Int := bif rPut_s1 x0_5 x1_1 x1_2 x1_3 then x0_3 else bif !rHolds_0 x1_0 x2 x0_4 then x0_3 else bif Int.tmod (Int.fdiv x1_8 ((2 : Int) ^ min (Int.toNat (IntKind.wrap IntKind.i64 (rPut_s3 + (1 : Int)))) (IntKind.bits IntKind.i64))) (2 : Int) == (1 : Int) then rBlend_0 x1_7 (rByte_0 x3_3) x0_3 (rByte_0 x3_3) else x0_3
def rPut_4 (x0_4 : Int) (x0_5 : Int) (x1_0 : Int) (x1_1 : Int) (x1_2 : Int) (x1_3 : Int) (x1_9 : Bool) (x2 : Int) : Int := bif rPut_s1 x0_5 x1_1 x1_2 x1_3 then x0_4 else bif !rHolds_0 x1_0 x2 x0_4 then x0_4 else bif x1_9 then x2 else x0_4
def rPut_5 (x0_4 : Int) (x0_5 : Int) (x1_0 : Int) (x1_1 : Int) (x1_2 : Int) (x1_3 : Int) (x1_4 : Int) (x1_5 : Int) (x1_6 : Int) (x2 : Int) : Int := bif rPut_s1 x0_5 x1_1 x1_2 x1_3 then rDo_0 x1_4 x0_5 x1_2 else bif !rHolds_0 x1_0 x2 x0_4 then rDo_0 x1_5 x0_5 x1_2 else rDo_0 x1_6 x0_5 x1_2
theorem rPut_p (x0_0 : Int) (x0_1 : Int) (x0_2 : Int) (x0_3 : Int) (x0_4 : Int) (x0_5 : Int) (x1_0 : Int) (x1_1 : Int) (x1_2 : Int) (x1_3 : Int) (x1_4 : Int) (x1_5 : Int) (x1_6 : Int) (x1_7 : Int) (x1_8 : Int) (x1_9 : Bool) (x2 : Int) (x3_0 : Int) (x3_1 : Int) (x3_2 : Int) (x3_3 : Int) : evG Try.prog tabPa1 2000 31 [0, 1, 2, 3, 4, 5, 7, 8, 9, 10, 24, 40, 59, 66, 74] [] [] [.g [.int true .i64 x0_0, .int true .i64 x0_1, .int true .i64 x0_2, .int true .i64 x0_3, .int true .i64 x0_4, .int true .i64 x0_5], .g [.int true .i64 x1_0, .int true .i64 x1_1, .int true .i64 x1_2, .int true .i64 x1_3, .int true .i64 x1_4, .int true .i64 x1_5, .int true .i64 x1_6, .int true .i64 x1_7, .int true .i64 x1_8, .bool true x1_9], .a (.int true .i64 x2), .g [.int true .i64 x3_0, .int true .i64 x3_1, .int true .i64 x3_2, .int true .i64 x3_3]] [] = some ([], LV.g [At.int true IntKind.i64 (rPut_0 x0_0 x0_4 x0_5 x1_0 x1_1 x1_2 x1_3 x1_7 x1_8 x2 x3_0 x3_3), At.int true IntKind.i64 (rPut_1 x0_1 x0_4 x0_5 x1_0 x1_1 x1_2 x1_3 x1_7 x1_8 x2 x3_1 x3_3), At.int true IntKind.i64 (rPut_2 x0_2 x0_4 x0_5 x1_0 x1_1 x1_2 x1_3 x1_7 x1_8 x2 x3_2 x3_3), At.int true IntKind.i64 (rPut_3 x0_3 x0_4 x0_5 x1_0 x1_1 x1_2 x1_3 x1_7 x1_8 x2 x3_3), At.int true IntKind.i64 (rPut_4 x0_4 x0_5 x1_0 x1_1 x1_2 x1_3 x1_9 x2), At.int true IntKind.i64 (rPut_5 x0_4 x0_5 x1_0 x1_1 x1_2 x1_3 x1_4 x1_5 x1_6 x2)], []) := by kernel_rfl
def rPut_c : Con
  | [.g [.int true .i64 x0_0, .int true .i64 x0_1, .int true .i64 x0_2, .int true .i64 x0_3, .int true .i64 x0_4, .int true .i64 x0_5], .g [.int true .i64 x1_0, .int true .i64 x1_1, .int true .i64 x1_2, .int true .i64 x1_3, .int true .i64 x1_4, .int true .i64 x1_5, .int true .i64 x1_6, .int true .i64 x1_7, .int true .i64 x1_8, .bool true x1_9], .a (.int true .i64 x2), .g [.int true .i64 x3_0, .int true .i64 x3_1, .int true .i64 x3_2, .int true .i64 x3_3]], [] => some ([], LV.g [At.int true IntKind.i64 (rPut_0 x0_0 x0_4 x0_5 x1_0 x1_1 x1_2 x1_3 x1_7 x1_8 x2 x3_0 x3_3), At.int true IntKind.i64 (rPut_1 x0_1 x0_4 x0_5 x1_0 x1_1 x1_2 x1_3 x1_7 x1_8 x2 x3_1 x3_3), At.int true IntKind.i64 (rPut_2 x0_2 x0_4 x0_5 x1_0 x1_1 x1_2 x1_3 x1_7 x1_8 x2 x3_2 x3_3), At.int true IntKind.i64 (rPut_3 x0_3 x0_4 x0_5 x1_0 x1_1 x1_2 x1_3 x1_7 x1_8 x2 x3_3), At.int true IntKind.i64 (rPut_4 x0_4 x0_5 x1_0 x1_1 x1_2 x1_3 x1_9 x2), At.int true IntKind.i64 (rPut_5 x0_4 x0_5 x1_0 x1_1 x1_2 x1_3 x1_4 x1_5 x1_6 x2)], [])
  | _, _ => none
theorem rPut_ok : ConOK Try.prog 31 (normC rPut_c) := normC_ok (by
  intro args bs obs lv out h ho φ vs w may ha hM
  unfold rPut_c at h
  split at h
  · simp only [Option.some.injEq, Prod.mk.injEq] at h
    obtain ⟨rfl, rfl, rfl⟩ := h
    rename_i x0_0 x0_1 x0_2 x0_3 x0_4 x0_5 x1_0 x1_1 x1_2 x1_3 x1_4 x1_5 x1_6 x1_7 x1_8 x1_9 x2 x3_0 x3_1 x3_2 x3_3
    exact evG_ok tabPa1_ok follows _ _ _ _ _ (rPut_p x0_0 x0_1 x0_2 x0_3 x0_4 x0_5 x1_0 x1_1 x1_2 x1_3 x1_4 x1_5 x1_6 x1_7 x1_8 x1_9 x2 x3_0 x3_1 x3_2 x3_3) ho φ vs w may ha hM
  · cases h)
theorem rPut_en : Enters Try.prog 31 := fun args => by kernel_rfl
-- 813 129 20 ms

/-! azulejo/pixel.Blend -/
def pBlend_s0 : Int := Int.ofNat ((2 : Nat) ^ IntKind.bits IntKind.u8)
def pBlend_s1 : Nat := Int.toNat ((1 : Int) % pBlend_s0)
def pBlend_s2 (x2_3 : Int) : Int := IntKind.wrap IntKind.i64 ((255 : Int) - IntKind.wrap IntKind.i64 x2_3)
def pBlend_s3 (x2_0 : Int) (x3_0 : Int) : Int := IntKind.wrap IntKind.i64 (IntKind.wrap IntKind.i64 x2_0 + IntKind.wrap IntKind.i64 x3_0)
def pBlend_0 (x0 : Int) (x1 : Int) (x2_0 : Int) (x2_3 : Int) (x3_0 : Int) : Int := bif IntKind.wrap IntKind.u8 (Int.ofNat (Int.toNat (Int.fdiv x1 ((2 : Int) ^ min (Int.toNat (0 : Int)) (IntKind.bits IntKind.u8)) % pBlend_s0) &&& pBlend_s1)) == (0 : Int) then x3_0 else IntKind.wrap IntKind.u8 (bif x0 == (1 : Int) then IntKind.wrap IntKind.i64 (Int.tdiv (IntKind.wrap IntKind.i64 (IntKind.wrap IntKind.i64 (IntKind.wrap IntKind.i64 (IntKind.wrap IntKind.i64 x2_0 * IntKind.wrap IntKind.i64 x2_3) + IntKind.wrap IntKind.i64 (IntKind.wrap IntKind.i64 x3_0 * pBlend_s2 x2_3)) + (127 : Int))) (255 : Int)) else bif x0 == (2 : Int) then if (255 : Int) < pBlend_s3 x2_0 x3_0 then (255 : Int) else pBlend_s3 x2_0 x3_0 else bif x0 == (3 : Int) then pPart_0 (IntKind.wrap IntKind.i64 x2_0) (IntKind.wrap IntKind.i64 x3_0) else IntKind.wrap IntKind.i64 x2_0)
def pBlend_s4 : Int := IntKind.wrap IntKind.i64 ((0 : Int) + (1 : Int))
def pBlend_s5 (x2_1 : Int) (x3_1 : Int) : Int := IntKind.wrap IntKind.i64 (IntKind.wrap IntKind.i64 x2_1 + IntKind.wrap IntKind.i64 x3_1)
def pBlend_1 (x0 : Int) (x1 : Int) (x2_1 : Int) (x2_3 : Int) (x3_1 : Int) : Int := bif IntKind.wrap IntKind.u8 (Int.ofNat (Int.toNat (Int.fdiv x1 ((2 : Int) ^ min (Int.toNat pBlend_s4) (IntKind.bits IntKind.u8)) % pBlend_s0) &&& pBlend_s1)) == (0 : Int) then x3_1 else IntKind.wrap IntKind.u8 (bif x0 == (1 : Int) then IntKind.wrap IntKind.i64 (Int.tdiv (IntKind.wrap IntKind.i64 (IntKind.wrap IntKind.i64 (IntKind.wrap IntKind.i64 (IntKind.wrap IntKind.i64 x2_1 * IntKind.wrap IntKind.i64 x2_3) + IntKind.wrap IntKind.i64 (IntKind.wrap IntKind.i64 x3_1 * pBlend_s2 x2_3)) + (127 : Int))) (255 : Int)) else bif x0 == (2 : Int) then if (255 : Int) < pBlend_s5 x2_1 x3_1 then (255 : Int) else pBlend_s5 x2_1 x3_1 else bif x0 == (3 : Int) then pPart_0 (IntKind.wrap IntKind.i64 x2_1) (IntKind.wrap IntKind.i64 x3_1) else IntKind.wrap IntKind.i64 x2_1)
def pBlend_s6 : Int := IntKind.wrap IntKind.i64 (pBlend_s4 + (1 : Int))
def pBlend_s7 (x2_2 : Int) (x3_2 : Int) : Int := IntKind.wrap IntKind.i64 (IntKind.wrap IntKind.i64 x2_2 + IntKind.wrap IntKind.i64 x3_2)
def pBlend_2 (x0 : Int) (x1 : Int) (x2_2 : Int) (x2_3 : Int) (x3_2 : Int) : Int := bif IntKind.wrap IntKind.u8 (Int.ofNat (Int.toNat (Int.fdiv x1 ((2 : Int) ^ min (Int.toNat pBlend_s6) (IntKind.bits IntKind.u8)) % pBlend_s0) &&& pBlend_s1)) == (0 : Int) then x3_2 else IntKind.wrap IntKind.u8 (bif x0 == (1 : Int) then IntKind.wrap IntKind.i64 (Int.tdiv (IntKind.wrap IntKind.i64 (IntKind.wrap IntKind.i64 (IntKind.wrap IntKind.i64 (IntKind.wrap IntKind.i64 x2_2 * IntKind.wrap IntKind.i64 x2_3) + IntKind.wrap IntKind.i64 (IntKind.wrap IntKind.i64 x3_2 * pBlend_s2 x2_3)) + (127 : Int))) (255 : Int)) else bif x0 == (2 : Int) then if (255 : Int) < pBlend_s7 x2_2 x3_2 then (255 : Int) else pBlend_s7 x2_2 x3_2 else bif x0 == (3 : Int) then pPart_0 (IntKind.wrap IntKind.i64 x2_2) (IntKind.wrap IntKind.i64 x3_2) else IntKind.wrap IntKind.i64 x2_2)
def pBlend_s8 (x2_3 : Int) (x3_3 : Int) : Int := IntKind.wrap IntKind.i64 (IntKind.wrap IntKind.i64 x2_3 + IntKind.wrap IntKind.i64 x3_3)
def pBlend_3 (x0 : Int) (x1 : Int) (x2_3 : Int) (x3_3 : Int) : Int := bif IntKind.wrap IntKind.u8 (Int.ofNat (Int.toNat (Int.fdiv x1 ((2 : Int) ^ min (Int.toNat (IntKind.wrap IntKind.i64 (pBlend_s6 + (1 : Int)))) (IntKind.bits IntKind.u8)) % pBlend_s0) &&& pBlend_s1)) == (0 : Int) then x3_3 else IntKind.wrap IntKind.u8 (bif x0 == (1 : Int) then IntKind.wrap IntKind.i64 (Int.tdiv (IntKind.wrap IntKind.i64 (IntKind.wrap IntKind.i64 (IntKind.wrap IntKind.i64 (IntKind.wrap IntKind.i64 x2_3 * IntKind.wrap IntKind.i64 x2_3) + IntKind.wrap IntKind.i64 (IntKind.wrap IntKind.i64 x3_3 * pBlend_s2 x2_3)) + (127 : Int))) (255 : Int)) else bif x0 == (2 : Int) then if (255 : Int) < pBlend_s8 x2_3 x3_3 then (255 : Int) else pBlend_s8 x2_3 x3_3 else bif x0 == (3 : Int) then pPart_0 (IntKind.wrap IntKind.i64 x2_3) (IntKind.wrap IntKind.i64 x3_3) else IntKind.wrap IntKind.i64 x2_3)
theorem pBlend_p (x0 : Int) (x1 : Int) (x2_0 : Int) (x2_1 : Int) (x2_2 : Int) (x2_3 : Int) (x3_0 : Int) (x3_1 : Int) (x3_2 : Int) (x3_3 : Int) : evG Try.prog tabPa1 2000 35 [0, 1, 2, 3, 6, 7, 8, 9, 10, 11, 12, 13, 18, 19, 25, 34, 35, 47, 53] [] [] [.a (.int true .u8 x0), .a (.int true .u8 x1), .g [.int true .u8 x2_0, .int true .u8 x2_1, .int true .u8 x2_2, .int true .u8 x2_3], .g [.int true .u8 x3_0, .int true .u8 x3_1, .int true .u8 x3_2, .int true .u8 x3_3]] [] = some ([], LV.g [At.int true IntKind.u8 (pBlend_0 x0 x1 x2_0 x2_3 x3_0), At.int true IntKind.u8 (pBlend_1 x0 x1 x2_1 x2_3 x3_1), At.int true IntKind.u8 (pBlend_2 x0 x1 x2_2 x2_3 x3_2), At.int true IntKind.u8 (pBlend_3 x0 x1 x2_3 x3_3)], []) := by kernel_rfl
def pBlend_c : Con
  | [.a (.int true .u8 x0), .a (.int true .u8 x1), .g [.int true .u8 x2_0, .int true .u8 x2_1, .int true .u8 x2_2, .int true .u8 x2_3], .g [.int true .u8 x3_0, .int true .u8 x3_1, .int true .u8 x3_2, .int true .u8 x3_3]], [] => some ([], LV.g [At.int true IntKind.u8 (pBlend_0 x0 x1 x2_0 x2_3 x3_0), At.int true IntKind.u8 (pBlend_1 x0 x1 x2_1 x2_3 x3_1), At.int true IntKind.u8 (pBlend_2 x0 x1 x2_2 x2_3 x3_2), At.int true IntKind.u8 (pBlend_3 x0 x1 x2_3 x3_3)], [])
  | _, _ => none
theorem pBlend_ok : ConOK Try.prog 35 (normC pBlend_c) := normC_ok (by
  intro args bs obs lv out h ho φ vs w may ha hM
  unfold pBlend_c at h
  split at h
  · simp only [Option.some.injEq, Prod.mk.injEq] at h
    obtain ⟨rfl, rfl, rfl⟩ := h
    rename_i x0 x1 x2_0 x2_1 x2_2 x2_3 x3_0 x3_1 x3_2 x3_3
    exact evG_ok tabPa1_ok follows _ _ _ _ _ (pBlend_p x0 x1 x2_0 x2_1 x2_2 x2_3 x3_0 x3_1 x3_2 x3_3) ho φ vs w may ha hM
  · cases h)
theorem pBlend_en : Enters Try.prog 35 := fun args => by kernel_rfl
-- 758 25 30 ms

/-! azulejo/pixel.Bytes -/
def pBytes_s0 : Int := (2 : Int) ^ min (Int.toNat (16 : Int)) (IntKind.bits IntKind.i64)
def pBytes_0 (x0_0 : Int) : Int := IntKind.wrap IntKind.u8 (Int.fdiv (IntKind.wrap IntKind.i64 (IntKind.wrap IntKind.i64 (vmColour_0 x0_0 * (255 : Int)) + (32768 : Int))) pBytes_s0)
def pBytes_1 (x0_1 : Int) : Int := IntKind.wrap IntKind.u8 (Int.fdiv (IntKind.wrap IntKind.i64 (IntKind.wrap IntKind.i64 (vmColour_1 x0_1 * (255 : Int)) + (32768 : Int))) pBytes_s0)
def pBytes_2 (x0_2 : Int) : Int := IntKind.wrap IntKind.u8 (Int.fdiv (IntKind.wrap IntKind.i64 (IntKind.wrap IntKind.i64 (vmColour_2 x0_2 * (255 : Int)) + (32768 : Int))) pBytes_s0)
def pBytes_3 (x0_3 : Int) : Int := IntKind.wrap IntKind.u8 (Int.fdiv (IntKind.wrap IntKind.i64 (IntKind.wrap IntKind.i64 (vmColour_3 x0_3 * (255 : Int)) + (32768 : Int))) pBytes_s0)
theorem pBytes_p (x0_0 : Int) (x0_1 : Int) (x0_2 : Int) (x0_3 : Int) : evG Try.prog tabPa1 2000 36 [0, 1, 2, 3, 4, 5, 7, 8, 9] [] [] [.g [.int true .i64 x0_0, .int true .i64 x0_1, .int true .i64 x0_2, .int true .i64 x0_3]] [] = some ([], LV.g [At.int true IntKind.u8 (pBytes_0 x0_0), At.int true IntKind.u8 (pBytes_1 x0_1), At.int true IntKind.u8 (pBytes_2 x0_2), At.int true IntKind.u8 (pBytes_3 x0_3)], []) := by kernel_rfl
def pBytes_c : Con
  | [.g [.int true .i64 x0_0, .int true .i64 x0_1, .int true .i64 x0_2, .int true .i64 x0_3]], [] => some ([], LV.g [At.int true IntKind.u8 (pBytes_0 x0_0), At.int true IntKind.u8 (pBytes_1 x0_1), At.int true IntKind.u8 (pBytes_2 x0_2), At.int true IntKind.u8 (pBytes_3 x0_3)], [])
  | _, _ => none
theorem pBytes_ok : ConOK Try.prog 36 (normC pBytes_c) := normC_ok (by
  intro args bs obs lv out h ho φ vs w may ha hM
  unfold pBytes_c at h
  split at h
  · simp only [Option.some.injEq, Prod.mk.injEq] at h
    obtain ⟨rfl, rfl, rfl⟩ := h
    rename_i x0_0 x0_1 x0_2 x0_3
    exact evG_ok tabPa1_ok follows _ _ _ _ _ (pBytes_p x0_0 x0_1 x0_2 x0_3) ho φ vs w may ha hM
  · cases h)
theorem pBytes_en : Enters Try.prog 36 := fun args => by kernel_rfl
-- 194 5 8 ms

/-! (azulejo/pixel.Pixel).Sees -/
def pSees_0 (x0_0 : Int) (x0_4 : Int) (x1_0 : Int) (x2 : Int) : Int := bif !stHolds_0 x1_0 x2 x0_4 then x0_0 else x0_0
def pSees_1 (x0_1 : Int) (x0_4 : Int) (x1_0 : Int) (x2 : Int) : Int := bif !stHolds_0 x1_0 x2 x0_4 then x0_1 else x0_1
def pSees_2 (x0_2 : Int) (x0_4 : Int) (x1_0 : Int) (x2 : Int) : Int := bif !stHolds_0 x1_0 x2 x0_4 then x0_2 else x0_2
def pSees_3 (x0_3 : Int) (x0_4 : Int) (x1_0 : Int) (x2 : Int) : Int := bif !stHolds_0 x1_0 x2 x0_4 then x0_3 else x0_3
def pSees_s0 (x2 : Int) : Int := if x2 < (0 : Int) then (0 : Int) else x2
def pSees_4 (x0_4 : Int) (x1_0 : Int) (x1_1 : Bool) (x2 : Int) : Int := bif !stHolds_0 x1_0 x2 x0_4 then x0_4 else bif x1_1 then if (65535 : Int) < pSees_s0 x2 then (65535 : Int) else pSees_s0 x2 else x0_4
def pSees_5 (x0_4 : Int) (x0_5 : Int) (x1_0 : Int) (x2 : Int) : Int := bif !stHolds_0 x1_0 x2 x0_4 then x0_5 else x0_5
def pSees_6 (x0_4 : Int) (x1_0 : Int) (x2 : Int) : Bool := bif !stHolds_0 x1_0 x2 x0_4 then false else true
theorem pSees_p (x0_0 : Int) (x0_1 : Int) (x0_2 : Int) (x0_3 : Int) (x0_4 : Int) (x0_5 : Int) (x1_0 : Int) (x1_1 : Bool) (x1_2 : Int) (x1_3 : Int) (x1_4 : Int) (x1_5 : Int) (x1_6 : Int) (x1_7 : Int) (x1_8 : Int) (x1_9 : Int) (x1_10 : Int) (x1_11 : Int) (x1_12 : Int) (x1_13 : Int) (x1_14 : Int) (x2 : Int) : evG Try.prog tabPa1 2000 39 [0, 1, 2, 3, 4, 6, 7, 14, 17] [] [] [.g [.int true .u8 x0_0, .int true .u8 x0_1, .int true .u8 x0_2, .int true .u8 x0_3, .int true .i64 x0_4, .int true .u8 x0_5], .g [.int true .u8 x1_0, .bool true x1_1, .int true .u8 x1_2, .int true .u8 x1_3, .int true .u8 x1_4, .int true .u8 x1_5, .int true .u8 x1_6, .int true .u8 x1_7, .int true .u8 x1_8, .int true .u8 x1_9, .int true .u8 x1_10, .int true .i64 x1_11, .int true .i64 x1_12, .int true .i64 x1_13, .int true .i64 x1_14], .a (.int true .i64 x2)] [] = some ([], LV.t [LV.g [At.int true IntKind.u8 (pSees_0 x0_0 x0_4 x1_0 x2), At.int true IntKind.u8 (pSees_1 x0_1 x0_4 x1_0 x2), At.int true IntKind.u8 (pSees_2 x0_2 x0_4 x1_0 x2), At.int true IntKind.u8 (pSees_3 x0_3 x0_4 x1_0 x2), At.int true IntKind.i64 (pSees_4 x0_4 x1_0 x1_1 x2), At.int true IntKind.u8 (pSees_5 x0_4 x0_5 x1_0 x2)], LV.a (At.bool true (pSees_6 x0_4 x1_0 x2))], []) := by kernel_rfl
def pSees_c : Con
  | [.g [.int true .u8 x0_0, .int true .u8 x0_1, .int true .u8 x0_2, .int true .u8 x0_3, .int true .i64 x0_4, .int true .u8 x0_5], .g [.int true .u8 x1_0, .bool true x1_1, .int true .u8 x1_2, .int true .u8 x1_3, .int true .u8 x1_4, .int true .u8 x1_5, .int true .u8 x1_6, .int true .u8 x1_7, .int true .u8 x1_8, .int true .u8 x1_9, .int true .u8 x1_10, .int true .i64 x1_11, .int true .i64 x1_12, .int true .i64 x1_13, .int true .i64 x1_14], .a (.int true .i64 x2)], [] => some ([], LV.t [LV.g [At.int true IntKind.u8 (pSees_0 x0_0 x0_4 x1_0 x2), At.int true IntKind.u8 (pSees_1 x0_1 x0_4 x1_0 x2), At.int true IntKind.u8 (pSees_2 x0_2 x0_4 x1_0 x2), At.int true IntKind.u8 (pSees_3 x0_3 x0_4 x1_0 x2), At.int true IntKind.i64 (pSees_4 x0_4 x1_0 x1_1 x2), At.int true IntKind.u8 (pSees_5 x0_4 x0_5 x1_0 x2)], LV.a (At.bool true (pSees_6 x0_4 x1_0 x2))], [])
  | _, _ => none
theorem pSees_ok : ConOK Try.prog 39 (normC pSees_c) := normC_ok (by
  intro args bs obs lv out h ho φ vs w may ha hM
  unfold pSees_c at h
  split at h
  · simp only [Option.some.injEq, Prod.mk.injEq] at h
    obtain ⟨rfl, rfl, rfl⟩ := h
    rename_i x0_0 x0_1 x0_2 x0_3 x0_4 x0_5 x1_0 x1_1 x1_2 x1_3 x1_4 x1_5 x1_6 x1_7 x1_8 x1_9 x1_10 x1_11 x1_12 x1_13 x1_14 x2
    exact evG_ok tabPa1_ok follows _ _ _ _ _ (pSees_p x0_0 x0_1 x0_2 x0_3 x0_4 x0_5 x1_0 x1_1 x1_2 x1_3 x1_4 x1_5 x1_6 x1_7 x1_8 x1_9 x1_10 x1_11 x1_12 x1_13 x1_14 x2) ho φ vs w may ha hM
  · cases h)
theorem pSees_en : Enters Try.prog 39 := fun args => by kernel_rfl
-- 163 18 10 ms

def tabPa2 : Tab := (93, normC eNear_c) :: (73, normC rSide_c) :: (58, normC vWithin_c) :: (31, normC rPut_c) :: (35, normC pBlend_c) :: (36, normC pBytes_c) :: (39, normC pSees_c) :: tabPa1
theorem tabPa2_ok : TOK Try.prog tabPa2 := TOK.cons eNear_en eNear_ok (TOK.cons rSide_en rSide_ok (TOK.cons vWithin_en vWithin_ok (TOK.cons rPut_en rPut_ok (TOK.cons pBlend_en pBlend_ok (TOK.cons pBytes_en pBytes_ok (TOK.cons pSees_en pSees_ok (tabPa1_ok)))))))

end Go.Proofs.Ytbdmaepooahplaa
