/-
  Contracts of functions of the program, each run on the local memory (printed by a program of this session's own: wip/tools).
-/
import Derived.Test.YtcdejlgophpdjaaFa1
namespace Go.Proofs.Ytcdejlgophpdjaa
open Go Go.RowKit Go.Proofs.Ytcdejlgophpdjaa.V
set_option linter.unusedVariables false

/-! math/bits.Mul -/
theorem bMul_p (x0 : Int) (x1 : Int) : evG Try.prog tabFa1 2000 131 [0, 1, 4, 5, 6, 7, 8, 9] [] [] [.a (.int true .u64 x0), .a (.int true .u64 x1)] [] = some ([], LV.t [LV.a (At.int true IntKind.u64 (bMul64_0 x0 x1)), LV.a (At.int true IntKind.u64 (bMul64_1 x0 x1))], []) := by kernel_rfl
def bMul_c : Con
  | [.a (.int true .u64 x0), .a (.int true .u64 x1)], [] => some ([], LV.t [LV.a (At.int true IntKind.u64 (bMul64_0 x0 x1)), LV.a (At.int true IntKind.u64 (bMul64_1 x0 x1))], [])
  | _, _ => none
theorem bMul_ok : ConOK Try.prog 131 (normC bMul_c) := normC_ok (by
  intro args bs obs lv out h ho φ vs w may ha hM
  unfold bMul_c at h
  split at h
  · simp only [Option.some.injEq, Prod.mk.injEq] at h
    obtain ⟨rfl, rfl, rfl⟩ := h
    rename_i x0 x1
    exact evG_ok tabFa1_ok follows _ _ _ _ _ (bMul_p x0 x1) ho φ vs w may ha hM
  · cases h)
theorem bMul_en : Enters Try.prog 131 := fun args => by kernel_rfl
-- 64 2 0 ms

/-! (azulejo/bin.Grid).Cols -/
theorem bCols_p (x0_0 : Int) (x0_1 : Int) : evG Try.prog tabFa1 2000 36 [0, 1, 2] [] [] [.g [.int true .i64 x0_0, .int true .i64 x0_1]] [] = some ([], LV.a (At.int true IntKind.i64 (bTiles_0 x0_0)), []) := by kernel_rfl
def bCols_c : Con
  | [.g [.int true .i64 x0_0, .int true .i64 x0_1]], [] => some ([], LV.a (At.int true IntKind.i64 (bTiles_0 x0_0)), [])
  | _, _ => none
theorem bCols_ok : ConOK Try.prog 36 (normC bCols_c) := normC_ok (by
  intro args bs obs lv out h ho φ vs w may ha hM
  unfold bCols_c at h
  split at h
  · simp only [Option.some.injEq, Prod.mk.injEq] at h
    obtain ⟨rfl, rfl, rfl⟩ := h
    rename_i x0_0 x0_1
    exact evG_ok tabFa1_ok follows _ _ _ _ _ (bCols_p x0_0 x0_1) ho φ vs w may ha hM
  · cases h)
theorem bCols_en : Enters Try.prog 36 := fun args => by kernel_rfl
-- 79 1 0 ms

/-! (azulejo/bin.Grid).Rows -/
theorem bRows_p (x0_0 : Int) (x0_1 : Int) : evG Try.prog tabFa1 2000 100 [0, 1, 2] [] [] [.g [.int true .i64 x0_0, .int true .i64 x0_1]] [] = some ([], LV.a (At.int true IntKind.i64 (bTiles_0 x0_1)), []) := by kernel_rfl
def bRows_c : Con
  | [.g [.int true .i64 x0_0, .int true .i64 x0_1]], [] => some ([], LV.a (At.int true IntKind.i64 (bTiles_0 x0_1)), [])
  | _, _ => none
theorem bRows_ok : ConOK Try.prog 100 (normC bRows_c) := normC_ok (by
  intro args bs obs lv out h ho φ vs w may ha hM
  unfold bRows_c at h
  split at h
  · simp only [Option.some.injEq, Prod.mk.injEq] at h
    obtain ⟨rfl, rfl, rfl⟩ := h
    rename_i x0_0 x0_1
    exact evG_ok tabFa1_ok follows _ _ _ _ _ (bRows_p x0_0 x0_1) ho φ vs w may ha hM
  · cases h)
theorem bRows_en : Enters Try.prog 100 := fun args => by kernel_rfl
-- 91 1 0 ms

def tabFa2 : Tab := (131, normC bMul_c) :: (36, normC bCols_c) :: (100, normC bRows_c) :: tabFa1
theorem tabFa2_ok : TOK Try.prog tabFa2 := TOK.cons bMul_en bMul_ok (TOK.cons bCols_en bCols_ok (TOK.cons bRows_en bRows_ok (tabFa1_ok)))

end Go.Proofs.Ytcdejlgophpdjaa
