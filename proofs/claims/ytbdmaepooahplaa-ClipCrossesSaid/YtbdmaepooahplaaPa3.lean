/-
  Contracts of functions of the program, each run on the local memory (printed by a program of this session's own: wip/tools).
-/
import Derived.Test.YtbdmaepooahplaaPa2
namespace Go.Proofs.Ytbdmaepooahplaa
open Go Go.RowKit Go.Proofs.Ytbdmaepooahplaa.V
set_option linter.unusedVariables false

/-! azulejo/edge.Side -/
def eSide_0 (x0_0 : Int) (x0_1 : Int) (x1_0 : Int) (x1_1 : Int) (x2_0 : Int) (x2_1 : Int) : Int := IntKind.wrap IntKind.i64 (IntKind.wrap IntKind.i64 (IntKind.wrap IntKind.i64 (eNear_0 x1_0 - eNear_0 x0_0) * IntKind.wrap IntKind.i64 (eNear_1 x2_1 - eNear_1 x0_1)) - IntKind.wrap IntKind.i64 (IntKind.wrap IntKind.i64 (eNear_1 x1_1 - eNear_1 x0_1) * IntKind.wrap IntKind.i64 (eNear_0 x2_0 - eNear_0 x0_0)))
theorem eSide_p (x0_0 : Int) (x0_1 : Int) (x1_0 : Int) (x1_1 : Int) (x2_0 : Int) (x2_1 : Int) : evG Try.prog tabPa2 2000 89 [0, 1, 2, 3, 4, 5, 6] [] [] [.g [.int true .i64 x0_0, .int true .i64 x0_1], .g [.int true .i64 x1_0, .int true .i64 x1_1], .g [.int true .i64 x2_0, .int true .i64 x2_1]] [] = some ([], LV.a (At.int true IntKind.i64 (eSide_0 x0_0 x0_1 x1_0 x1_1 x2_0 x2_1)), []) := by kernel_rfl
def eSide_c : Con
  | [.g [.int true .i64 x0_0, .int true .i64 x0_1], .g [.int true .i64 x1_0, .int true .i64 x1_1], .g [.int true .i64 x2_0, .int true .i64 x2_1]], [] => some ([], LV.a (At.int true IntKind.i64 (eSide_0 x0_0 x0_1 x1_0 x1_1 x2_0 x2_1)), [])
  | _, _ => none
theorem eSide_ok : ConOK Try.prog 89 (normC eSide_c) := normC_ok (by
  intro args bs obs lv out h ho φ vs w may ha hM
  unfold eSide_c at h
  split at h
  · simp only [Option.some.injEq, Prod.mk.injEq] at h
    obtain ⟨rfl, rfl, rfl⟩ := h
    rename_i x0_0 x0_1 x1_0 x1_1 x2_0 x2_1
    exact evG_ok tabPa2_ok follows _ _ _ _ _ (eSide_p x0_0 x0_1 x1_0 x1_1 x2_0 x2_1) ho φ vs w may ha hM
  · cases h)
theorem eSide_en : Enters Try.prog 89 := fun args => by kernel_rfl
-- 127 5 3 ms

/-! azulejo/edge.Owns -/
def eOwns_0 (x0_0 : Int) (x0_1 : Int) (x1_0 : Int) (x1_1 : Int) : Bool := bif decide (eNear_1 x1_1 < eNear_1 x0_1) then true else bif eNear_1 x0_1 == eNear_1 x1_1 then decide (eNear_0 x0_0 < eNear_0 x1_0) else false
theorem eOwns_p (x0_0 : Int) (x0_1 : Int) (x1_0 : Int) (x1_1 : Int) : evG Try.prog tabPa2 2000 83 [0, 1, 2, 3, 4] [] [] [.g [.int true .i64 x0_0, .int true .i64 x0_1], .g [.int true .i64 x1_0, .int true .i64 x1_1]] [] = some ([], LV.a (At.bool true (eOwns_0 x0_0 x0_1 x1_0 x1_1)), []) := by kernel_rfl
def eOwns_c : Con
  | [.g [.int true .i64 x0_0, .int true .i64 x0_1], .g [.int true .i64 x1_0, .int true .i64 x1_1]], [] => some ([], LV.a (At.bool true (eOwns_0 x0_0 x0_1 x1_0 x1_1)), [])
  | _, _ => none
theorem eOwns_ok : ConOK Try.prog 83 (normC eOwns_c) := normC_ok (by
  intro args bs obs lv out h ho φ vs w may ha hM
  unfold eOwns_c at h
  split at h
  · simp only [Option.some.injEq, Prod.mk.injEq] at h
    obtain ⟨rfl, rfl, rfl⟩ := h
    rename_i x0_0 x0_1 x1_0 x1_1
    exact evG_ok tabPa2_ok follows _ _ _ _ _ (eOwns_p x0_0 x0_1 x1_0 x1_1) ho φ vs w may ha hM
  · cases h)
theorem eOwns_en : Enters Try.prog 83 := fun args => by kernel_rfl
-- 115 9 2 ms

/-! azulejo/azulejoref01.Covers -/
def rCovers_s0 (x0_0 : Int) (x0_1 : Int) (x0_2 : Int) (x0_3 : Int) (x1_0 : Int) (x1_1 : Int) : Bool := decide (rSide_0 x0_0 x0_1 x0_2 x0_3 x1_0 x1_1 < (0 : Int))
def rCovers_s1 (x0_0 : Int) (x0_1 : Int) (x0_2 : Int) (x0_3 : Int) (x1_0 : Int) (x1_1 : Int) : Bool := bif rSide_0 x0_0 x0_1 x0_2 x0_3 x1_0 x1_1 == (0 : Int) then bif !decide (rNear_0 x0_3 < rNear_0 x0_1) then !bif rNear_0 x0_3 == rNear_0 x0_1 then decide (rNear_0 x0_0 < rNear_0 x0_2) else false else false else false
def rCovers_s2 (x0_2 : Int) (x0_3 : Int) (x0_4 : Int) (x0_5 : Int) (x1_0 : Int) (x1_1 : Int) : Bool := decide (rSide_0 x0_2 x0_3 x0_4 x0_5 x1_0 x1_1 < (0 : Int))
def rCovers_s3 (x0_2 : Int) (x0_3 : Int) (x0_4 : Int) (x0_5 : Int) (x1_0 : Int) (x1_1 : Int) : Bool := bif rSide_0 x0_2 x0_3 x0_4 x0_5 x1_0 x1_1 == (0 : Int) then bif !decide (rNear_0 x0_5 < rNear_0 x0_3) then !bif rNear_0 x0_5 == rNear_0 x0_3 then decide (rNear_0 x0_2 < rNear_0 x0_4) else false else false else false
def rCovers_s4 (x0_0 : Int) (x0_1 : Int) (x0_4 : Int) (x0_5 : Int) (x1_0 : Int) (x1_1 : Int) : Bool := decide (rSide_0 x0_4 x0_5 x0_0 x0_1 x1_0 x1_1 < (0 : Int))
def rCovers_0 (x0_0 : Int) (x0_1 : Int) (x0_2 : Int) (x0_3 : Int) (x0_4 : Int) (x0_5 : Int) (x1_0 : Int) (x1_1 : Int) : Bool := bif decide (rSide_0 x0_0 x0_1 x0_2 x0_3 x0_4 x0_5 ≤ (0 : Int)) then false else bif rCovers_s0 x0_0 x0_1 x0_2 x0_3 x1_0 x1_1 || !rCovers_s0 x0_0 x0_1 x0_2 x0_3 x1_0 x1_1 && rCovers_s1 x0_0 x0_1 x0_2 x0_3 x1_0 x1_1 || !rCovers_s0 x0_0 x0_1 x0_2 x0_3 x1_0 x1_1 && !rCovers_s1 x0_0 x0_1 x0_2 x0_3 x1_0 x1_1 && (rCovers_s2 x0_2 x0_3 x0_4 x0_5 x1_0 x1_1 || !rCovers_s2 x0_2 x0_3 x0_4 x0_5 x1_0 x1_1 && rCovers_s3 x0_2 x0_3 x0_4 x0_5 x1_0 x1_1 || !rCovers_s2 x0_2 x0_3 x0_4 x0_5 x1_0 x1_1 && !rCovers_s3 x0_2 x0_3 x0_4 x0_5 x1_0 x1_1 && (rCovers_s4 x0_0 x0_1 x0_4 x0_5 x1_0 x1_1 || !rCovers_s4 x0_0 x0_1 x0_4 x0_5 x1_0 x1_1 && bif rSide_0 x0_4 x0_5 x0_0 x0_1 x1_0 x1_1 == (0 : Int) then bif !decide (rNear_0 x0_1 < rNear_0 x0_5) then !bif rNear_0 x0_1 == rNear_0 x0_5 then decide (rNear_0 x0_4 < rNear_0 x0_0) else false else false else false)) then false else true
theorem rCovers_p (x0_0 : Int) (x0_1 : Int) (x0_2 : Int) (x0_3 : Int) (x0_4 : Int) (x0_5 : Int) (x1_0 : Int) (x1_1 : Int) : evG Try.prog tabPa2 2000 72 [0, 1, 2, 3, 4, 5, 6, 7, 8, 9, 10, 18, 20, 36, 69] [] [] [.g [.int true .i64 x0_0, .int true .i64 x0_1, .int true .i64 x0_2, .int true .i64 x0_3, .int true .i64 x0_4, .int true .i64 x0_5], .g [.int true .i64 x1_0, .int true .i64 x1_1]] [] = some ([], LV.a (At.bool true (rCovers_0 x0_0 x0_1 x0_2 x0_3 x0_4 x0_5 x1_0 x1_1)), []) := by kernel_rfl
def rCovers_c : Con
  | [.g [.int true .i64 x0_0, .int true .i64 x0_1, .int true .i64 x0_2, .int true .i64 x0_3, .int true .i64 x0_4, .int true .i64 x0_5], .g [.int true .i64 x1_0, .int true .i64 x1_1]], [] => some ([], LV.a (At.bool true (rCovers_0 x0_0 x0_1 x0_2 x0_3 x0_4 x0_5 x1_0 x1_1)), [])
  | _, _ => none
theorem rCovers_ok : ConOK Try.prog 72 (normC rCovers_c) := normC_ok (by
  intro args bs obs lv out h ho φ vs w may ha hM
  unfold rCovers_c at h
  split at h
  · simp only [Option.some.injEq, Prod.mk.injEq] at h
    obtain ⟨rfl, rfl, rfl⟩ := h
    rename_i x0_0 x0_1 x0_2 x0_3 x0_4 x0_5 x1_0 x1_1
    exact evG_ok tabPa2_ok follows _ _ _ _ _ (rCovers_p x0_0 x0_1 x0_2 x0_3 x0_4 x0_5 x1_0 x1_1) ho φ vs w may ha hM
  · cases h)
theorem rCovers_en : Enters Try.prog 72 := fun args => by kernel_rfl
-- 1016 138 13 ms

/-! (azulejo/pixel.Pixel).Put -/
def pPut_s0 : Int := Int.ofNat ((2 : Nat) ^ IntKind.bits IntKind.u8)
def pPut_s1 (x0_5 : Int) (x1_2 : Int) (x1_3 : Int) (x1_4 : Int) : Bool := !stHolds_0 x1_2 (IntKind.wrap IntKind.i64 (IntKind.wrap IntKind.u8 (Int.ofNat (Int.toNat (x1_3 % pPut_s0) &&& Int.toNat (x1_4 % pPut_s0))))) (IntKind.wrap IntKind.i64 (IntKind.wrap IntKind.u8 (Int.ofNat (Int.toNat (x0_5 % pPut_s0) &&& Int.toNat (x1_4 % pPut_s0)))))
def pPut_0 (x0_0 : Int) (x0_4 : Int) (x0_5 : Int) (x1_0 : Int) (x1_2 : Int) (x1_3 : Int) (x1_4 : Int) (x1_8 : Int) (x1_9 : Int) (x2 : Int) (x3_0 : Int) (x3_3 : Int) : Int := bif pPut_s1 x0_5 x1_2 x1_3 x1_4 then x0_0 else bif !pSees_6 x0_4 x1_0 x2 then x0_0 else pBlend_0 x1_8 x1_9 (pBytes_0 x3_0) (pBytes_3 x3_3) x0_0
def pPut_1 (x0_1 : Int) (x0_4 : Int) (x0_5 : Int) (x1_0 : Int) (x1_2 : Int) (x1_3 : Int) (x1_4 : Int) (x1_8 : Int) (x1_9 : Int) (x2 : Int) (x3_1 : Int) (x3_3 : Int) : Int := bif pPut_s1 x0_5 x1_2 x1_3 x1_4 then x0_1 else bif !pSees_6 x0_4 x1_0 x2 then x0_1 else pBlend_1 x1_8 x1_9 (pBytes_1 x3_1) (pBytes_3 x3_3) x0_1
def pPut_2 (x0_2 : Int) (x0_4 : Int) (x0_5 : Int) (x1_0 : Int) (x1_2 : Int) (x1_3 : Int) (x1_4 : Int) (x1_8 : Int) (x1_9 : Int) (x2 : Int) (x3_2 : Int) (x3_3 : Int) : Int := bif pPut_s1 x0_5 x1_2 x1_3 x1_4 then x0_2 else bif !pSees_6 x0_4 x1_0 x2 then x0_2 else pBlend_2 x1_8 x1_9 (pBytes_2 x3_2) (pBytes_3 x3_3) x0_2
def pPut_3 (x0_3 : Int) (x0_4 : Int) (x0_5 : Int) (x1_0 : Int) (x1_2 : Int) (x1_3 : Int) (x1_4 : Int) (x1_8 : Int) (x1_9 : Int) (x2 : Int) (x3_3 : Int) : Int := bif pPut_s1 x0_5 x1_2 x1_3 x1_4 then x0_3 else bif !pSees_6 x0_4 x1_0 x2 then x0_3 else pBlend_3 x1_8 x1_9 (pBytes_3 x3_3) x0_3
def pPut_4 (x0_4 : Int) (x0_5 : Int) (x1_0 : Int) (x1_1 : Bool) (x1_2 : Int) (x1_3 : Int) (x1_4 : Int) (x2 : Int) : Int := bif pPut_s1 x0_5 x1_2 x1_3 x1_4 then x0_4 else bif !pSees_6 x0_4 x1_0 x2 then x0_4 else pSees_4 x0_4 x1_0 x1_1 x2
def pPut_5 (x0_4 : Int) (x0_5 : Int) (x1_0 : Int) (x1_2 : Int) (x1_3 : Int) (x1_4 : Int) (x1_5 : Int) (x1_6 : Int) (x1_7 : Int) (x2 : Int) : Int := bif pPut_s1 x0_5 x1_2 x1_3 x1_4 then stDo_0 x1_5 x0_5 x1_3 else bif !pSees_6 x0_4 x1_0 x2 then stDo_0 x1_6 x0_5 x1_3 else stDo_0 x1_7 x0_5 x1_3
theorem pPut_p (x0_0 : Int) (x0_1 : Int) (x0_2 : Int) (x0_3 : Int) (x0_4 : Int) (x0_5 : Int) (x1_0 : Int) (x1_1 : Bool) (x1_2 : Int) (x1_3 : Int) (x1_4 : Int) (x1_5 : Int) (x1_6 : Int) (x1_7 : Int) (x1_8 : Int) (x1_9 : Int) (x1_10 : Int) (x1_11 : Int) (x1_12 : Int) (x1_13 : Int) (x1_14 : Int) (x2 : Int) (x3_0 : Int) (x3_1 : Int) (x3_2 : Int) (x3_3 : Int) : evG Try.prog tabPa2 2000 30 [0, 1, 2, 3, 4, 5, 7, 8, 9, 10, 26, 44] [] [] [.g [.int true .u8 x0_0, .int true .u8 x0_1, .int true .u8 x0_2, .int true .u8 x0_3, .int true .i64 x0_4, .int true .u8 x0_5], .g [.int true .u8 x1_0, .bool true x1_1, .int true .u8 x1_2, .int true .u8 x1_3, .int true .u8 x1_4, .int true .u8 x1_5, .int true .u8 x1_6, .int true .u8 x1_7, .int true .u8 x1_8, .int true .u8 x1_9, .int true .u8 x1_10, .int true .i64 x1_11, .int true .i64 x1_12, .int true .i64 x1_13, .int true .i64 x1_14], .a (.int true .i64 x2), .g [.int true .i64 x3_0, .int true .i64 x3_1, .int true .i64 x3_2, .int true .i64 x3_3]] [] = some ([], LV.g [At.int true IntKind.u8 (pPut_0 x0_0 x0_4 x0_5 x1_0 x1_2 x1_3 x1_4 x1_8 x1_9 x2 x3_0 x3_3), At.int true IntKind.u8 (pPut_1 x0_1 x0_4 x0_5 x1_0 x1_2 x1_3 x1_4 x1_8 x1_9 x2 x3_1 x3_3), At.int true IntKind.u8 (pPut_2 x0_2 x0_4 x0_5 x1_0 x1_2 x1_3 x1_4 x1_8 x1_9 x2 x3_2 x3_3), At.int true IntKind.u8 (pPut_3 x0_3 x0_4 x0_5 x1_0 x1_2 x1_3 x1_4 x1_8 x1_9 x2 x3_3), At.int true IntKind.i64 (pPut_4 x0_4 x0_5 x1_0 x1_1 x1_2 x1_3 x1_4 x2), At.int true IntKind.u8 (pPut_5 x0_4 x0_5 x1_0 x1_2 x1_3 x1_4 x1_5 x1_6 x1_7 x2)], []) := by kernel_rfl
def pPut_c : Con
  | [.g [.int true .u8 x0_0, .int true .u8 x0_1, .int true .u8 x0_2, .int true .u8 x0_3, .int true .i64 x0_4, .int true .u8 x0_5], .g [.int true .u8 x1_0, .bool true x1_1, .int true .u8 x1_2, .int true .u8 x1_3, .int true .u8 x1_4, .int true .u8 x1_5, .int true .u8 x1_6, .int true .u8 x1_7, .int true .u8 x1_8, .int true .u8 x1_9, .int true .u8 x1_10, .int true .i64 x1_11, .int true .i64 x1_12, .int true .i64 x1_13, .int true .i64 x1_14], .a (.int true .i64 x2), .g [.int true .i64 x3_0, .int true .i64 x3_1, .int true .i64 x3_2, .int true .i64 x3_3]], [] => some ([], LV.g [At.int true IntKind.u8 (pPut_0 x0_0 x0_4 x0_5 x1_0 x1_2 x1_3 x1_4 x1_8 x1_9 x2 x3_0 x3_3), At.int true IntKind.u8 (pPut_1 x0_1 x0_4 x0_5 x1_0 x1_2 x1_3 x1_4 x1_8 x1_9 x2 x3_1 x3_3), At.int true IntKind.u8 (pPut_2 x0_2 x0_4 x0_5 x1_0 x1_2 x1_3 x1_4 x1_8 x1_9 x2 x3_2 x3_3), At.int true IntKind.u8 (pPut_3 x0_3 x0_4 x0_5 x1_0 x1_2 x1_3 x1_4 x1_8 x1_9 x2 x3_3), At.int true IntKind.i64 (pPut_4 x0_4 x0_5 x1_0 x1_1 x1_2 x1_3 x1_4 x2), At.int true IntKind.u8 (pPut_5 x0_4 x0_5 x1_0 x1_2 x1_3 x1_4 x1_5 x1_6 x1_7 x2)], [])
  | _, _ => none
theorem pPut_ok : ConOK Try.prog 30 (normC pPut_c) := normC_ok (by
  intro args bs obs lv out h ho φ vs w may ha hM
  unfold pPut_c at h
  split at h
  · simp only [Option.some.injEq, Prod.mk.injEq] at h
    obtain ⟨rfl, rfl, rfl⟩ := h
    rename_i x0_0 x0_1 x0_2 x0_3 x0_4 x0_5 x1_0 x1_1 x1_2 x1_3 x1_4 x1_5 x1_6 x1_7 x1_8 x1_9 x1_10 x1_11 x1_12 x1_13 x1_14 x2 x3_0 x3_1 x3_2 x3_3
    exact evG_ok tabPa2_ok follows _ _ _ _ _ (pPut_p x0_0 x0_1 x0_2 x0_3 x0_4 x0_5 x1_0 x1_1 x1_2 x1_3 x1_4 x1_5 x1_6 x1_7 x1_8 x1_9 x1_10 x1_11 x1_12 x1_13 x1_14 x2 x3_0 x3_1 x3_2 x3_3) ho φ vs w may ha hM
  · cases h)
theorem pPut_en : Enters Try.prog 30 := fun args => by kernel_rfl
-- 495 63 13 ms

def tabPa3 : Tab := (89, normC eSide_c) :: (83, normC eOwns_c) :: (72, normC rCovers_c) :: (30, normC pPut_c) :: tabPa2
theorem tabPa3_ok : TOK Try.prog tabPa3 := TOK.cons eSide_en eSide_ok (TOK.cons eOwns_en eOwns_ok (TOK.cons rCovers_en rCovers_ok (TOK.cons pPut_en pPut_ok (tabPa2_ok))))

end Go.Proofs.Ytbdmaepooahplaa
