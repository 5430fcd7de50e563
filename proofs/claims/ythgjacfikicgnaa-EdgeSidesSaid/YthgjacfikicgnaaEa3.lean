/-
  Contracts of functions of the program, each run on the local memory (printed by a program of this session's own: wip/tools).
-/
import Derived.Test.YthgjacfikicgnaaEa2
namespace Go.Proofs.Ythgjacfikicgnaa
open Go Go.RowKit Go.Proofs.Ythgjacfikicgnaa.V
set_option linter.unusedVariables false

/-! azulejo/edge.Side -/
def eSide_0 (x0_0 : Int) (x0_1 : Int) (x1_0 : Int) (x1_1 : Int) (x2_0 : Int) (x2_1 : Int) : Int := IntKind.wrap IntKind.i64 (IntKind.wrap IntKind.i64 (IntKind.wrap IntKind.i64 (eNear_0 x1_0 - eNear_0 x0_0) * IntKind.wrap IntKind.i64 (eNear_1 x2_1 - eNear_1 x0_1)) - IntKind.wrap IntKind.i64 (IntKind.wrap IntKind.i64 (eNear_1 x1_1 - eNear_1 x0_1) * IntKind.wrap IntKind.i64 (eNear_0 x2_0 - eNear_0 x0_0)))
theorem eSide_p (x0_0 : Int) (x0_1 : Int) (x1_0 : Int) (x1_1 : Int) (x2_0 : Int) (x2_1 : Int) : evG Try.prog tabEa2 2000 40 [0, 1, 2, 3, 4, 5, 6] [] [] [.g [.int true .i64 x0_0, .int true .i64 x0_1], .g [.int true .i64 x1_0, .int true .i64 x1_1], .g [.int true .i64 x2_0, .int true .i64 x2_1]] [] = some ([], LV.a (At.int true IntKind.i64 (eSide_0 x0_0 x0_1 x1_0 x1_1 x2_0 x2_1)), []) := by kernel_rfl
def eSide_c : Con
  | [.g [.int true .i64 x0_0, .int true .i64 x0_1], .g [.int true .i64 x1_0, .int true .i64 x1_1], .g [.int true .i64 x2_0, .int true .i64 x2_1]], [] => some ([], LV.a (At.int true IntKind.i64 (eSide_0 x0_0 x0_1 x1_0 x1_1 x2_0 x2_1)), [])
  | _, _ => none
theorem eSide_ok : ConOK Try.prog 40 (normC eSide_c) := normC_ok (by
  intro args bs obs lv out h ho φ vs w may ha hM
  unfold eSide_c at h
  split at h
  · simp only [Option.some.injEq, Prod.mk.injEq] at h
    obtain ⟨rfl, rfl, rfl⟩ := h
    rename_i x0_0 x0_1 x1_0 x1_1 x2_0 x2_1
    exact evG_ok tabEa2_ok follows _ _ _ _ _ (eSide_p x0_0 x0_1 x1_0 x1_1 x2_0 x2_1) ho φ vs w may ha hM
  · cases h)
theorem eSide_en : Enters Try.prog 40 := fun args => by kernel_rfl
-- 207 4 4 ms

/-! azulejo/edge.Owns -/
def eOwns_0 (x0_0 : Int) (x0_1 : Int) (x1_0 : Int) (x1_1 : Int) : Bool := bif decide (eNear_1 x1_1 < eNear_1 x0_1) then true else bif eNear_1 x0_1 == eNear_1 x1_1 then decide (eNear_0 x0_0 < eNear_0 x1_0) else false
theorem eOwns_p (x0_0 : Int) (x0_1 : Int) (x1_0 : Int) (x1_1 : Int) : evG Try.prog tabEa2 2000 44 [0, 1, 2, 3, 4] [] [] [.g [.int true .i64 x0_0, .int true .i64 x0_1], .g [.int true .i64 x1_0, .int true .i64 x1_1]] [] = some ([], LV.a (At.bool true (eOwns_0 x0_0 x0_1 x1_0 x1_1)), []) := by kernel_rfl
def eOwns_c : Con
  | [.g [.int true .i64 x0_0, .int true .i64 x0_1], .g [.int true .i64 x1_0, .int true .i64 x1_1]], [] => some ([], LV.a (At.bool true (eOwns_0 x0_0 x0_1 x1_0 x1_1)), [])
  | _, _ => none
theorem eOwns_ok : ConOK Try.prog 44 (normC eOwns_c) := normC_ok (by
  intro args bs obs lv out h ho φ vs w may ha hM
  unfold eOwns_c at h
  split at h
  · simp only [Option.some.injEq, Prod.mk.injEq] at h
    obtain ⟨rfl, rfl, rfl⟩ := h
    rename_i x0_0 x0_1 x1_0 x1_1
    exact evG_ok tabEa2_ok follows _ _ _ _ _ (eOwns_p x0_0 x0_1 x1_0 x1_1) ho φ vs w may ha hM
  · cases h)
theorem eOwns_en : Enters Try.prog 44 := fun args => by kernel_rfl
-- 199 11 2 ms

/-! (azulejo/edge.Tri).Box -/
def eBox_s0 (x0_0 : Int) (x0_2 : Int) : Int := if eNear_0 x0_2 < eNear_0 x0_0 then eNear_0 x0_2 else eNear_0 x0_0
def eBox_0 (x0_0 : Int) (x0_2 : Int) (x0_4 : Int) : Int := if eNear_0 x0_4 < eBox_s0 x0_0 x0_2 then eNear_0 x0_4 else eBox_s0 x0_0 x0_2
def eBox_s1 (x0_1 : Int) (x0_3 : Int) : Int := if eNear_1 x0_3 < eNear_1 x0_1 then eNear_1 x0_3 else eNear_1 x0_1
def eBox_1 (x0_1 : Int) (x0_3 : Int) (x0_5 : Int) : Int := if eNear_1 x0_5 < eBox_s1 x0_1 x0_3 then eNear_1 x0_5 else eBox_s1 x0_1 x0_3
def eBox_s2 (x0_0 : Int) (x0_2 : Int) : Int := if eNear_0 x0_0 < eNear_0 x0_2 then eNear_0 x0_2 else eNear_0 x0_0
def eBox_2 (x0_0 : Int) (x0_2 : Int) (x0_4 : Int) : Int := if eBox_s2 x0_0 x0_2 < eNear_0 x0_4 then eNear_0 x0_4 else eBox_s2 x0_0 x0_2
def eBox_s3 (x0_1 : Int) (x0_3 : Int) : Int := if eNear_1 x0_1 < eNear_1 x0_3 then eNear_1 x0_3 else eNear_1 x0_1
def eBox_3 (x0_1 : Int) (x0_3 : Int) (x0_5 : Int) : Int := if eBox_s3 x0_1 x0_3 < eNear_1 x0_5 then eNear_1 x0_5 else eBox_s3 x0_1 x0_3
theorem eBox_p (x0_0 : Int) (x0_1 : Int) (x0_2 : Int) (x0_3 : Int) (x0_4 : Int) (x0_5 : Int) : evG Try.prog tabEa2 2000 45 [0, 1, 2, 3, 4, 5, 7, 14, 15, 16, 17] [] [] [.g [.int true .i64 x0_0, .int true .i64 x0_1, .int true .i64 x0_2, .int true .i64 x0_3, .int true .i64 x0_4, .int true .i64 x0_5]] [] = some ([], LV.t [LV.g [At.int true IntKind.i64 (eBox_0 x0_0 x0_2 x0_4), At.int true IntKind.i64 (eBox_1 x0_1 x0_3 x0_5)], LV.g [At.int true IntKind.i64 (eBox_2 x0_0 x0_2 x0_4), At.int true IntKind.i64 (eBox_3 x0_1 x0_3 x0_5)]], []) := by kernel_rfl
def eBox_c : Con
  | [.g [.int true .i64 x0_0, .int true .i64 x0_1, .int true .i64 x0_2, .int true .i64 x0_3, .int true .i64 x0_4, .int true .i64 x0_5]], [] => some ([], LV.t [LV.g [At.int true IntKind.i64 (eBox_0 x0_0 x0_2 x0_4), At.int true IntKind.i64 (eBox_1 x0_1 x0_3 x0_5)], LV.g [At.int true IntKind.i64 (eBox_2 x0_0 x0_2 x0_4), At.int true IntKind.i64 (eBox_3 x0_1 x0_3 x0_5)]], [])
  | _, _ => none
theorem eBox_ok : ConOK Try.prog 45 (normC eBox_c) := normC_ok (by
  intro args bs obs lv out h ho φ vs w may ha hM
  unfold eBox_c at h
  split at h
  · simp only [Option.some.injEq, Prod.mk.injEq] at h
    obtain ⟨rfl, rfl, rfl⟩ := h
    rename_i x0_0 x0_1 x0_2 x0_3 x0_4 x0_5
    exact evG_ok tabEa2_ok follows _ _ _ _ _ (eBox_p x0_0 x0_1 x0_2 x0_3 x0_4 x0_5) ho φ vs w may ha hM
  · cases h)
theorem eBox_en : Enters Try.prog 45 := fun args => by kernel_rfl
-- 416 11 37 ms

/-! azulejo/azulejoref01.Covers -/
def r1Covers_s0 (x0_0 : Int) (x0_1 : Int) (x0_2 : Int) (x0_3 : Int) (x1_0 : Int) (x1_1 : Int) : Bool := decide (r1Side_0 x0_0 x0_1 x0_2 x0_3 x1_0 x1_1 < 0)
def r1Covers_s1 (x0_0 : Int) (x0_1 : Int) (x0_2 : Int) (x0_3 : Int) (x1_0 : Int) (x1_1 : Int) : Bool := bif r1Side_0 x0_0 x0_1 x0_2 x0_3 x1_0 x1_1 == 0 then bif !decide (r1near_0 x0_3 < r1near_0 x0_1) then !bif r1near_0 x0_3 == r1near_0 x0_1 then decide (r1near_0 x0_0 < r1near_0 x0_2) else false else false else false
def r1Covers_s2 (x0_2 : Int) (x0_3 : Int) (x0_4 : Int) (x0_5 : Int) (x1_0 : Int) (x1_1 : Int) : Bool := decide (r1Side_0 x0_2 x0_3 x0_4 x0_5 x1_0 x1_1 < 0)
def r1Covers_s3 (x0_2 : Int) (x0_3 : Int) (x0_4 : Int) (x0_5 : Int) (x1_0 : Int) (x1_1 : Int) : Bool := bif r1Side_0 x0_2 x0_3 x0_4 x0_5 x1_0 x1_1 == 0 then bif !decide (r1near_0 x0_5 < r1near_0 x0_3) then !bif r1near_0 x0_5 == r1near_0 x0_3 then decide (r1near_0 x0_2 < r1near_0 x0_4) else false else false else false
def r1Covers_s4 (x0_0 : Int) (x0_1 : Int) (x0_4 : Int) (x0_5 : Int) (x1_0 : Int) (x1_1 : Int) : Bool := decide (r1Side_0 x0_4 x0_5 x0_0 x0_1 x1_0 x1_1 < 0)
def r1Covers_0 (x0_0 : Int) (x0_1 : Int) (x0_2 : Int) (x0_3 : Int) (x0_4 : Int) (x0_5 : Int) (x1_0 : Int) (x1_1 : Int) : Bool := bif decide (r1Side_0 x0_0 x0_1 x0_2 x0_3 x0_4 x0_5 ≤ 0) then false else bif r1Covers_s0 x0_0 x0_1 x0_2 x0_3 x1_0 x1_1 || !r1Covers_s0 x0_0 x0_1 x0_2 x0_3 x1_0 x1_1 && r1Covers_s1 x0_0 x0_1 x0_2 x0_3 x1_0 x1_1 || !r1Covers_s0 x0_0 x0_1 x0_2 x0_3 x1_0 x1_1 && !r1Covers_s1 x0_0 x0_1 x0_2 x0_3 x1_0 x1_1 && (r1Covers_s2 x0_2 x0_3 x0_4 x0_5 x1_0 x1_1 || !r1Covers_s2 x0_2 x0_3 x0_4 x0_5 x1_0 x1_1 && r1Covers_s3 x0_2 x0_3 x0_4 x0_5 x1_0 x1_1 || !r1Covers_s2 x0_2 x0_3 x0_4 x0_5 x1_0 x1_1 && !r1Covers_s3 x0_2 x0_3 x0_4 x0_5 x1_0 x1_1 && (r1Covers_s4 x0_0 x0_1 x0_4 x0_5 x1_0 x1_1 || !r1Covers_s4 x0_0 x0_1 x0_4 x0_5 x1_0 x1_1 && bif r1Side_0 x0_4 x0_5 x0_0 x0_1 x1_0 x1_1 == 0 then bif !decide (r1near_0 x0_1 < r1near_0 x0_5) then !bif r1near_0 x0_1 == r1near_0 x0_5 then decide (r1near_0 x0_4 < r1near_0 x0_0) else false else false else false)) then false else true
theorem r1Covers_p (x0_0 : Int) (x0_1 : Int) (x0_2 : Int) (x0_3 : Int) (x0_4 : Int) (x0_5 : Int) (x1_0 : Int) (x1_1 : Int) : evG Try.prog tabEa2 2000 48 [0, 1, 2, 3, 4, 5, 6, 7, 8, 9, 10, 18, 20, 36, 69] [] [] [.g [.int true .i64 x0_0, .int true .i64 x0_1, .int true .i64 x0_2, .int true .i64 x0_3, .int true .i64 x0_4, .int true .i64 x0_5], .g [.int true .i64 x1_0, .int true .i64 x1_1]] [] = some ([], LV.a (At.bool true (r1Covers_0 x0_0 x0_1 x0_2 x0_3 x0_4 x0_5 x1_0 x1_1)), []) := by kernel_rfl
def r1Covers_c : Con
  | [.g [.int true .i64 x0_0, .int true .i64 x0_1, .int true .i64 x0_2, .int true .i64 x0_3, .int true .i64 x0_4, .int true .i64 x0_5], .g [.int true .i64 x1_0, .int true .i64 x1_1]], [] => some ([], LV.a (At.bool true (r1Covers_0 x0_0 x0_1 x0_2 x0_3 x0_4 x0_5 x1_0 x1_1)), [])
  | _, _ => none
theorem r1Covers_ok : ConOK Try.prog 48 (normC r1Covers_c) := normC_ok (by
  intro args bs obs lv out h ho φ vs w may ha hM
  unfold r1Covers_c at h
  split at h
  · simp only [Option.some.injEq, Prod.mk.injEq] at h
    obtain ⟨rfl, rfl, rfl⟩ := h
    rename_i x0_0 x0_1 x0_2 x0_3 x0_4 x0_5 x1_0 x1_1
    exact evG_ok tabEa2_ok follows _ _ _ _ _ (r1Covers_p x0_0 x0_1 x0_2 x0_3 x0_4 x0_5 x1_0 x1_1) ho φ vs w may ha hM
  · cases h)
theorem r1Covers_en : Enters Try.prog 48 := fun args => by kernel_rfl
-- 1352 168 22 ms

def tabEa3 : Tab := (40, normC eSide_c) :: (44, normC eOwns_c) :: (45, normC eBox_c) :: (48, normC r1Covers_c) :: tabEa2
theorem tabEa3_ok : TOK Try.prog tabEa3 := TOK.cons eSide_en eSide_ok (TOK.cons eOwns_en eOwns_ok (TOK.cons eBox_en eBox_ok (TOK.cons r1Covers_en r1Covers_ok (tabEa2_ok))))

end Go.Proofs.Ythgjacfikicgnaa
