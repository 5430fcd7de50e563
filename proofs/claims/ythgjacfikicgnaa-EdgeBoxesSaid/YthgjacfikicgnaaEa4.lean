/-
  Contracts of functions of the program, each run on the local memory (printed by a program of this session's own: wip/tools).
-/
import Derived.Test.YthgjacfikicgnaaEa3
namespace Go.Proofs.Ythgjacfikicgnaa
open Go Go.RowKit Go.Proofs.Ythgjacfikicgnaa.V
set_option linter.unusedVariables false

/-! (azulejo/edge.Tri).Area -/
def eArea_0 (x0_0 : Int) (x0_1 : Int) (x0_2 : Int) (x0_3 : Int) (x0_4 : Int) (x0_5 : Int) : Int := eSide_0 x0_0 x0_1 x0_2 x0_3 x0_4 x0_5
theorem eArea_p (x0_0 : Int) (x0_1 : Int) (x0_2 : Int) (x0_3 : Int) (x0_4 : Int) (x0_5 : Int) : evG Try.prog tabEa3 2000 38 [0, 1, 2] [] [] [.g [.int true .i64 x0_0, .int true .i64 x0_1, .int true .i64 x0_2, .int true .i64 x0_3, .int true .i64 x0_4, .int true .i64 x0_5]] [] = some ([], LV.a (At.int true IntKind.i64 (eArea_0 x0_0 x0_1 x0_2 x0_3 x0_4 x0_5)), []) := by kernel_rfl
def eArea_c : Con
  | [.g [.int true .i64 x0_0, .int true .i64 x0_1, .int true .i64 x0_2, .int true .i64 x0_3, .int true .i64 x0_4, .int true .i64 x0_5]], [] => some ([], LV.a (At.int true IntKind.i64 (eArea_0 x0_0 x0_1 x0_2 x0_3 x0_4 x0_5)), [])
  | _, _ => none
theorem eArea_ok : ConOK Try.prog 38 (normC eArea_c) := normC_ok (by
  intro args bs obs lv out h ho φ vs w may ha hM
  unfold eArea_c at h
  split at h
  · simp only [Option.some.injEq, Prod.mk.injEq] at h
    obtain ⟨rfl, rfl, rfl⟩ := h
    rename_i x0_0 x0_1 x0_2 x0_3 x0_4 x0_5
    exact evG_ok tabEa3_ok follows _ _ _ _ _ (eArea_p x0_0 x0_1 x0_2 x0_3 x0_4 x0_5) ho φ vs w may ha hM
  · cases h)
theorem eArea_en : Enters Try.prog 38 := fun args => by kernel_rfl
-- 80 2 3 ms

/-! (azulejo/edge.Tri).Weights -/
def eWeights_0 (x0_2 : Int) (x0_3 : Int) (x0_4 : Int) (x0_5 : Int) (x1_0 : Int) (x1_1 : Int) : Int := eSide_0 x0_2 x0_3 x0_4 x0_5 x1_0 x1_1
def eWeights_1 (x0_0 : Int) (x0_1 : Int) (x0_4 : Int) (x0_5 : Int) (x1_0 : Int) (x1_1 : Int) : Int := eSide_0 x0_4 x0_5 x0_0 x0_1 x1_0 x1_1
def eWeights_2 (x0_0 : Int) (x0_1 : Int) (x0_2 : Int) (x0_3 : Int) (x1_0 : Int) (x1_1 : Int) : Int := eSide_0 x0_0 x0_1 x0_2 x0_3 x1_0 x1_1
theorem eWeights_p (x0_0 : Int) (x0_1 : Int) (x0_2 : Int) (x0_3 : Int) (x0_4 : Int) (x0_5 : Int) (x1_0 : Int) (x1_1 : Int) : evG Try.prog tabEa3 2000 41 [0, 1, 2, 3, 4] [] [] [.g [.int true .i64 x0_0, .int true .i64 x0_1, .int true .i64 x0_2, .int true .i64 x0_3, .int true .i64 x0_4, .int true .i64 x0_5], .g [.int true .i64 x1_0, .int true .i64 x1_1]] [] = some ([], LV.g [At.int true IntKind.i64 (eWeights_0 x0_2 x0_3 x0_4 x0_5 x1_0 x1_1), At.int true IntKind.i64 (eWeights_1 x0_0 x0_1 x0_4 x0_5 x1_0 x1_1), At.int true IntKind.i64 (eWeights_2 x0_0 x0_1 x0_2 x0_3 x1_0 x1_1)], []) := by kernel_rfl
def eWeights_c : Con
  | [.g [.int true .i64 x0_0, .int true .i64 x0_1, .int true .i64 x0_2, .int true .i64 x0_3, .int true .i64 x0_4, .int true .i64 x0_5], .g [.int true .i64 x1_0, .int true .i64 x1_1]], [] => some ([], LV.g [At.int true IntKind.i64 (eWeights_0 x0_2 x0_3 x0_4 x0_5 x1_0 x1_1), At.int true IntKind.i64 (eWeights_1 x0_0 x0_1 x0_4 x0_5 x1_0 x1_1), At.int true IntKind.i64 (eWeights_2 x0_0 x0_1 x0_2 x0_3 x1_0 x1_1)], [])
  | _, _ => none
theorem eWeights_ok : ConOK Try.prog 41 (normC eWeights_c) := normC_ok (by
  intro args bs obs lv out h ho φ vs w may ha hM
  unfold eWeights_c at h
  split at h
  · simp only [Option.some.injEq, Prod.mk.injEq] at h
    obtain ⟨rfl, rfl, rfl⟩ := h
    rename_i x0_0 x0_1 x0_2 x0_3 x0_4 x0_5 x1_0 x1_1
    exact evG_ok tabEa3_ok follows _ _ _ _ _ (eWeights_p x0_0 x0_1 x0_2 x0_3 x0_4 x0_5 x1_0 x1_1) ho φ vs w may ha hM
  · cases h)
theorem eWeights_en : Enters Try.prog 41 := fun args => by kernel_rfl
-- 223 1 4 ms

def tabEa4 : Tab := (38, normC eArea_c) :: (41, normC eWeights_c) :: tabEa3
theorem tabEa4_ok : TOK Try.prog tabEa4 := TOK.cons eArea_en eArea_ok (TOK.cons eWeights_en eWeights_ok (tabEa3_ok))

end Go.Proofs.Ythgjacfikicgnaa
