/-
  Contracts of functions of the program, each run on the local memory (printed by a program of this session's own: wip/tools).
-/
import Derived.Test.YtcdejlgophpdjaaFa2
namespace Go.Proofs.Ytcdejlgophpdjaa
open Go Go.RowKit Go.Proofs.Ytcdejlgophpdjaa.V
set_option linter.unusedVariables false

/-! (azulejo/bin.Grid).Tiles -/
def bGTiles_0 (x0_0 : Int) (x0_1 : Int) : Int := IntKind.wrap IntKind.i64 (bTiles_0 x0_0 * bTiles_0 x0_1)
theorem bGTiles_p (x0_0 : Int) (x0_1 : Int) : evG Try.prog tabFa2 2000 29 [0, 1, 2] [] [] [.g [.int true .i64 x0_0, .int true .i64 x0_1]] [] = some ([], LV.a (At.int true IntKind.i64 (bGTiles_0 x0_0 x0_1)), []) := by kernel_rfl
def bGTiles_c : Con
  | [.g [.int true .i64 x0_0, .int true .i64 x0_1]], [] => some ([], LV.a (At.int true IntKind.i64 (bGTiles_0 x0_0 x0_1)), [])
  | _, _ => none
theorem bGTiles_ok : ConOK Try.prog 29 (normC bGTiles_c) := normC_ok (by
  intro args bs obs lv out h ho φ vs w may ha hM
  unfold bGTiles_c at h
  split at h
  · simp only [Option.some.injEq, Prod.mk.injEq] at h
    obtain ⟨rfl, rfl, rfl⟩ := h
    rename_i x0_0 x0_1
    exact evG_ok tabFa2_ok follows _ _ _ _ _ (bGTiles_p x0_0 x0_1) ho φ vs w may ha hM
  · cases h)
theorem bGTiles_en : Enters Try.prog 29 := fun args => by kernel_rfl
-- 68 2 2 ms

def tabFa3 : Tab := (29, normC bGTiles_c) :: tabFa2
theorem tabFa3_ok : TOK Try.prog tabFa3 := TOK.cons bGTiles_en bGTiles_ok (tabFa2_ok)

end Go.Proofs.Ytcdejlgophpdjaa
