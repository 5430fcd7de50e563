/-
  Contracts of functions of the program, each run on the local memory (printed by a program of this session's own: wip/tools).
-/
import Derived.Test.YtcdejlgophpdjaaFa3
namespace Go.Proofs.Ytcdejlgophpdjaa
open Go Go.RowKit Go.Proofs.Ytcdejlgophpdjaa.V
set_option linter.unusedVariables false

/-! (azulejo/bin.Grid).Box -/
def bBox_s0 (x0_0 : Int) (x0_1 : Int) (x1 : Int) : Bool := bif decide (x1 < (0 : Int)) then true else decide (bGTiles_0 x0_0 x0_1 ≤ x1)
def bBox_s1 (x0_0 : Int) (x1 : Int) : Int := IntKind.wrap IntKind.i64 (Int.tmod x1 (bTiles_0 x0_0) * (8 : Int))
def bBox_0 (x0_0 : Int) (x0_1 : Int) (x1 : Int) : Int := bif bBox_s0 x0_0 x0_1 x1 then (0 : Int) else bBox_s1 x0_0 x1
def bBox_s2 (x0_0 : Int) (x1 : Int) : Int := IntKind.wrap IntKind.i64 (IntKind.wrap IntKind.i64 (Int.tdiv x1 (bTiles_0 x0_0)) * (8 : Int))
def bBox_1 (x0_0 : Int) (x0_1 : Int) (x1 : Int) : Int := bif bBox_s0 x0_0 x0_1 x1 then (0 : Int) else bBox_s2 x0_0 x1
def bBox_s3 (x0_0 : Int) (x1 : Int) : Int := IntKind.wrap IntKind.i64 (bBox_s1 x0_0 x1 + (8 : Int))
def bBox_2 (x0_0 : Int) (x0_1 : Int) (x1 : Int) : Int := bif bBox_s0 x0_0 x0_1 x1 then (0 : Int) else if x0_0 < bBox_s3 x0_0 x1 then x0_0 else bBox_s3 x0_0 x1
def bBox_s4 (x0_0 : Int) (x1 : Int) : Int := IntKind.wrap IntKind.i64 (bBox_s2 x0_0 x1 + (8 : Int))
def bBox_3 (x0_0 : Int) (x0_1 : Int) (x1 : Int) : Int := bif bBox_s0 x0_0 x0_1 x1 then (0 : Int) else if x0_1 < bBox_s4 x0_0 x1 then x0_1 else bBox_s4 x0_0 x1
def bBox_o (x0_0 : Int) (x0_1 : Int) (x1 : Int) : List Prop := [(!bBox_s0 x0_0 x0_1 x1) = true → bTiles_0 x0_0 ≠ (0 : Int), (!bBox_s0 x0_0 x0_1 x1) = true → bTiles_0 x0_0 ≠ (0 : Int)]
theorem bBox_p (x0_0 : Int) (x0_1 : Int) (x1 : Int) : evG Try.prog tabFa3 2000 31 [0, 1, 2, 4, 5, 6, 14] [] [] [.g [.int true .i64 x0_0, .int true .i64 x0_1], .a (.int true .i64 x1)] [] = some (bBox_o x0_0 x0_1 x1, LV.g [At.int true IntKind.i64 (bBox_0 x0_0 x0_1 x1), At.int true IntKind.i64 (bBox_1 x0_0 x0_1 x1), At.int true IntKind.i64 (bBox_2 x0_0 x0_1 x1), At.int true IntKind.i64 (bBox_3 x0_0 x0_1 x1)], []) := by kernel_rfl
def bBox_c : Con
  | [.g [.int true .i64 x0_0, .int true .i64 x0_1], .a (.int true .i64 x1)], [] => some (bBox_o x0_0 x0_1 x1, LV.g [At.int true IntKind.i64 (bBox_0 x0_0 x0_1 x1), At.int true IntKind.i64 (bBox_1 x0_0 x0_1 x1), At.int true IntKind.i64 (bBox_2 x0_0 x0_1 x1), At.int true IntKind.i64 (bBox_3 x0_0 x0_1 x1)], [])
  | _, _ => none
theorem bBox_ok : ConOK Try.prog 31 (normC bBox_c) := normC_ok (by
  intro args bs obs lv out h ho φ vs w may ha hM
  unfold bBox_c at h
  split at h
  · simp only [Option.some.injEq, Prod.mk.injEq] at h
    obtain ⟨rfl, rfl, rfl⟩ := h
    rename_i x0_0 x0_1 x1
    exact evG_ok tabFa3_ok follows _ _ _ _ _ (bBox_p x0_0 x0_1 x1) ho φ vs w may ha hM
  · cases h)
theorem bBox_en : Enters Try.prog 31 := fun args => by kernel_rfl
-- 410 107 10 ms

def tabFa4 : Tab := (31, normC bBox_c) :: tabFa3
theorem tabFa4_ok : TOK Try.prog tabFa4 := TOK.cons bBox_en bBox_ok (tabFa3_ok)

end Go.Proofs.Ytcdejlgophpdjaa
