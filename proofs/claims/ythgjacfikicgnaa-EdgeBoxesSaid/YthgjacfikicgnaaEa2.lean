/-
  Contracts of functions of the program, each run on the local memory (printed by a program of this session's own: wip/tools).
-/
import Derived.Test.YthgjacfikicgnaaEa1
namespace Go.Proofs.Ythgjacfikicgnaa
open Go Go.RowKit Go.Proofs.Ythgjacfikicgnaa.V
set_option linter.unusedVariables false

/-! (azulejo/edge.Point).near -/
def eNear_0 (x0_0 : Int) : Int := fWithin_0 x0_0 16384
def eNear_1 (x0_1 : Int) : Int := fWithin_0 x0_1 16384
theorem eNear_p (x0_0 : Int) (x0_1 : Int) : evG Try.prog tabEa1 2000 76 [0, 1, 2] [] [] [.g [.int true .i64 x0_0, .int true .i64 x0_1]] [] = some ([], LV.g [At.int true IntKind.i64 (eNear_0 x0_0), At.int true IntKind.i64 (eNear_1 x0_1)], []) := by kernel_rfl
def eNear_c : Con
  | [.g [.int true .i64 x0_0, .int true .i64 x0_1]], [] => some ([], LV.g [At.int true IntKind.i64 (eNear_0 x0_0), At.int true IntKind.i64 (eNear_1 x0_1)], [])
  | _, _ => none
theorem eNear_ok : ConOK Try.prog 76 (normC eNear_c) := normC_ok (by
  intro args bs obs lv out h ho φ vs w may ha hM
  unfold eNear_c at h
  split at h
  · simp only [Option.some.injEq, Prod.mk.injEq] at h
    obtain ⟨rfl, rfl, rfl⟩ := h
    rename_i x0_0 x0_1
    exact evG_ok tabEa1_ok follows _ _ _ _ _ (eNear_p x0_0 x0_1) ho φ vs w may ha hM
  · cases h)
theorem eNear_en : Enters Try.prog 76 := fun args => by kernel_rfl
-- 116 2 3 ms

/-! azulejo/azulejoref01.Side -/
def r1Side_0 (x0_0 : Int) (x0_1 : Int) (x1_0 : Int) (x1_1 : Int) (x2_0 : Int) (x2_1 : Int) : Int := IntKind.wrap IntKind.i64 (IntKind.wrap IntKind.i64 (IntKind.wrap IntKind.i64 (r1near_0 x1_0 - r1near_0 x0_0) * IntKind.wrap IntKind.i64 (r1near_0 x2_1 - r1near_0 x0_1)) - IntKind.wrap IntKind.i64 (IntKind.wrap IntKind.i64 (r1near_0 x1_1 - r1near_0 x0_1) * IntKind.wrap IntKind.i64 (r1near_0 x2_0 - r1near_0 x0_0)))
theorem r1Side_p (x0_0 : Int) (x0_1 : Int) (x1_0 : Int) (x1_1 : Int) (x2_0 : Int) (x2_1 : Int) : evG Try.prog tabEa1 2000 47 [0, 1, 2, 3, 4, 5, 6, 7, 8] [] [] [.g [.int true .i64 x0_0, .int true .i64 x0_1], .g [.int true .i64 x1_0, .int true .i64 x1_1], .g [.int true .i64 x2_0, .int true .i64 x2_1]] [] = some ([], LV.a (At.int true IntKind.i64 (r1Side_0 x0_0 x0_1 x1_0 x1_1 x2_0 x2_1)), []) := by kernel_rfl
def r1Side_c : Con
  | [.g [.int true .i64 x0_0, .int true .i64 x0_1], .g [.int true .i64 x1_0, .int true .i64 x1_1], .g [.int true .i64 x2_0, .int true .i64 x2_1]], [] => some ([], LV.a (At.int true IntKind.i64 (r1Side_0 x0_0 x0_1 x1_0 x1_1 x2_0 x2_1)), [])
  | _, _ => none
theorem r1Side_ok : ConOK Try.prog 47 (normC r1Side_c) := normC_ok (by
  intro args bs obs lv out h ho φ vs w may ha hM
  unfold r1Side_c at h
  split at h
  · simp only [Option.some.injEq, Prod.mk.injEq] at h
    obtain ⟨rfl, rfl, rfl⟩ := h
    rename_i x0_0 x0_1 x1_0 x1_1 x2_0 x2_1
    exact evG_ok tabEa1_ok follows _ _ _ _ _ (r1Side_p x0_0 x0_1 x1_0 x1_1 x2_0 x2_1) ho φ vs w may ha hM
  · cases h)
theorem r1Side_en : Enters Try.prog 47 := fun args => by kernel_rfl
-- 358 8 7 ms

def tabEa2 : Tab := (76, normC eNear_c) :: (47, normC r1Side_c) :: tabEa1
theorem tabEa2_ok : TOK Try.prog tabEa2 := TOK.cons eNear_en eNear_ok (TOK.cons r1Side_en r1Side_ok (tabEa1_ok))

end Go.Proofs.Ythgjacfikicgnaa
