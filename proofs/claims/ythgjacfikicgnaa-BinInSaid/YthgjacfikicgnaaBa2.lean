/-
  Contracts of functions of the program, each run on the local memory (printed by a program of this session's own: wip/tools).
-/
import Derived.Test.YthgjacfikicgnaaBa1
namespace Go.Proofs.Ythgjacfikicgnaa
open Go Go.RowKit Go.Proofs.Ythgjacfikicgnaa.V
set_option linter.unusedVariables false

/-! (azulejo/bin.Grid).Cols -/
theorem bCols_p (x0_0 : Int) (x0_1 : Int) : evG Try.prog tabBa1 2000 51 [0, 1, 2] [] [] [.g [.int true .i64 x0_0, .int true .i64 x0_1]] [] = some ([], LV.a (At.int true IntKind.i64 (bTiles_0 x0_0)), []) := by kernel_rfl
def bCols_c : Con
  | [.g [.int true .i64 x0_0, .int true .i64 x0_1]], [] => some ([], LV.a (At.int true IntKind.i64 (bTiles_0 x0_0)), [])
  | _, _ => none
theorem bCols_ok : ConOK Try.prog 51 (normC bCols_c) := normC_ok (by
  intro args bs obs lv out h ho φ vs w may ha hM
  unfold bCols_c at h
  split at h
  · simp only [Option.some.injEq, Prod.mk.injEq] at h
    obtain ⟨rfl, rfl, rfl⟩ := h
    rename_i x0_0 x0_1
    exact evG_ok tabBa1_ok follows _ _ _ _ _ (bCols_p x0_0 x0_1) ho φ vs w may ha hM
  · cases h)
theorem bCols_en : Enters Try.prog 51 := fun args => by kernel_rfl
-- 43 1 0 ms

/-! (azulejo/bin.Grid).Rows -/
theorem bRows_p (x0_0 : Int) (x0_1 : Int) : evG Try.prog tabBa1 2000 52 [0, 1, 2] [] [] [.g [.int true .i64 x0_0, .int true .i64 x0_1]] [] = some ([], LV.a (At.int true IntKind.i64 (bTiles_0 x0_1)), []) := by kernel_rfl
def bRows_c : Con
  | [.g [.int true .i64 x0_0, .int true .i64 x0_1]], [] => some ([], LV.a (At.int true IntKind.i64 (bTiles_0 x0_1)), [])
  | _, _ => none
theorem bRows_ok : ConOK Try.prog 52 (normC bRows_c) := normC_ok (by
  intro args bs obs lv out h ho φ vs w may ha hM
  unfold bRows_c at h
  split at h
  · simp only [Option.some.injEq, Prod.mk.injEq] at h
    obtain ⟨rfl, rfl, rfl⟩ := h
    rename_i x0_0 x0_1
    exact evG_ok tabBa1_ok follows _ _ _ _ _ (bRows_p x0_0 x0_1) ho φ vs w may ha hM
  · cases h)
theorem bRows_en : Enters Try.prog 52 := fun args => by kernel_rfl
-- 37 1 0 ms

def tabBa2 : Tab := (51, normC bCols_c) :: (52, normC bRows_c) :: tabBa1
theorem tabBa2_ok : TOK Try.prog tabBa2 := TOK.cons bCols_en bCols_ok (TOK.cons bRows_en bRows_ok (tabBa1_ok))

end Go.Proofs.Ythgjacfikicgnaa
