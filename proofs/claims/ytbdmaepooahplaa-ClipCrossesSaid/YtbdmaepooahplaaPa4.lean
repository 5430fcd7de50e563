/-
  Contracts of functions of the program, each run on the local memory (printed by a program of this session's own: wip/tools).
-/
import Derived.Test.YtbdmaepooahplaaPa3
namespace Go.Proofs.Ytbdmaepooahplaa
open Go Go.RowKit Go.Proofs.Ytbdmaepooahplaa.V
set_option linter.unusedVariables false

/-! (azulejo/edge.Tri).Area -/
def tArea_0 (x0_0 : Int) (x0_1 : Int) (x0_2 : Int) (x0_3 : Int) (x0_4 : Int) (x0_5 : Int) : Int := eSide_0 x0_0 x0_1 x0_2 x0_3 x0_4 x0_5
theorem tArea_p (x0_0 : Int) (x0_1 : Int) (x0_2 : Int) (x0_3 : Int) (x0_4 : Int) (x0_5 : Int) : evG Try.prog tabPa3 2000 68 [0, 1, 2] [] [] [.g [.int true .i64 x0_0, .int true .i64 x0_1, .int true .i64 x0_2, .int true .i64 x0_3, .int true .i64 x0_4, .int true .i64 x0_5]] [] = some ([], LV.a (At.int true IntKind.i64 (tArea_0 x0_0 x0_1 x0_2 x0_3 x0_4 x0_5)), []) := by kernel_rfl
def tArea_c : Con
  | [.g [.int true .i64 x0_0, .int true .i64 x0_1, .int true .i64 x0_2, .int true .i64 x0_3, .int true .i64 x0_4, .int true .i64 x0_5]], [] => some ([], LV.a (At.int true IntKind.i64 (tArea_0 x0_0 x0_1 x0_2 x0_3 x0_4 x0_5)), [])
  | _, _ => none
theorem tArea_ok : ConOK Try.prog 68 (normC tArea_c) := normC_ok (by
  intro args bs obs lv out h ho φ vs w may ha hM
  unfold tArea_c at h
  split at h
  · simp only [Option.some.injEq, Prod.mk.injEq] at h
    obtain ⟨rfl, rfl, rfl⟩ := h
    rename_i x0_0 x0_1 x0_2 x0_3 x0_4 x0_5
    exact evG_ok tabPa3_ok follows _ _ _ _ _ (tArea_p x0_0 x0_1 x0_2 x0_3 x0_4 x0_5) ho φ vs w may ha hM
  · cases h)
theorem tArea_en : Enters Try.prog 68 := fun args => by kernel_rfl
-- 63 1 2 ms

/-! (azulejo/edge.Tri).Weights -/
def tWeights_0 (x0_2 : Int) (x0_3 : Int) (x0_4 : Int) (x0_5 : Int) (x1_0 : Int) (x1_1 : Int) : Int := eSide_0 x0_2 x0_3 x0_4 x0_5 x1_0 x1_1
def tWeights_1 (x0_0 : Int) (x0_1 : Int) (x0_4 : Int) (x0_5 : Int) (x1_0 : Int) (x1_1 : Int) : Int := eSide_0 x0_4 x0_5 x0_0 x0_1 x1_0 x1_1
def tWeights_2 (x0_0 : Int) (x0_1 : Int) (x0_2 : Int) (x0_3 : Int) (x1_0 : Int) (x1_1 : Int) : Int := eSide_0 x0_0 x0_1 x0_2 x0_3 x1_0 x1_1
theorem tWeights_p (x0_0 : Int) (x0_1 : Int) (x0_2 : Int) (x0_3 : Int) (x0_4 : Int) (x0_5 : Int) (x1_0 : Int) (x1_1 : Int) : evG Try.prog tabPa3 2000 70 [0, 1, 2, 3, 4] [] [] [.g [.int true .i64 x0_0, .int true .i64 x0_1, .int true .i64 x0_2, .int true .i64 x0_3, .int true .i64 x0_4, .int true .i64 x0_5], .g [.int true .i64 x1_0, .int true .i64 x1_1]] [] = some ([], LV.g [At.int true IntKind.i64 (tWeights_0 x0_2 x0_3 x0_4 x0_5 x1_0 x1_1), At.int true IntKind.i64 (tWeights_1 x0_0 x0_1 x0_4 x0_5 x1_0 x1_1), At.int true IntKind.i64 (tWeights_2 x0_0 x0_1 x0_2 x0_3 x1_0 x1_1)], []) := by kernel_rfl
def tWeights_c : Con
  | [.g [.int true .i64 x0_0, .int true .i64 x0_1, .int true .i64 x0_2, .int true .i64 x0_3, .int true .i64 x0_4, .int true .i64 x0_5], .g [.int true .i64 x1_0, .int true .i64 x1_1]], [] => some ([], LV.g [At.int true IntKind.i64 (tWeights_0 x0_2 x0_3 x0_4 x0_5 x1_0 x1_1), At.int true IntKind.i64 (tWeights_1 x0_0 x0_1 x0_4 x0_5 x1_0 x1_1), At.int true IntKind.i64 (tWeights_2 x0_0 x0_1 x0_2 x0_3 x1_0 x1_1)], [])
  | _, _ => none
theorem tWeights_ok : ConOK Try.prog 70 (normC tWeights_c) := normC_ok (by
  intro args bs obs lv out h ho φ vs w may ha hM
  unfold tWeights_c at h
  split at h
  · simp only [Option.some.injEq, Prod.mk.injEq] at h
    obtain ⟨rfl, rfl, rfl⟩ := h
    rename_i x0_0 x0_1 x0_2 x0_3 x0_4 x0_5 x1_0 x1_1
    exact evG_ok tabPa3_ok follows _ _ _ _ _ (tWeights_p x0_0 x0_1 x0_2 x0_3 x0_4 x0_5 x1_0 x1_1) ho φ vs w may ha hM
  · cases h)
theorem tWeights_en : Enters Try.prog 70 := fun args => by kernel_rfl
-- 210 1 3 ms

/-! azulejo/azulejolaw19.Awake -/
def aw19_0 : Bool := bif pPut_0 (0 : Int) (0 : Int) (0 : Int) stPlain_0 stPlain_1 stPlain_2 stPlain_3 stPlain_7 stPlain_8 (9 : Int) (65536 : Int) (65536 : Int) == (255 : Int) && (pPut_1 (0 : Int) (0 : Int) (0 : Int) stPlain_0 stPlain_1 stPlain_2 stPlain_3 stPlain_7 stPlain_8 (9 : Int) (0 : Int) (65536 : Int) == (0 : Int) && (pPut_2 (0 : Int) (0 : Int) (0 : Int) stPlain_0 stPlain_1 stPlain_2 stPlain_3 stPlain_7 stPlain_8 (9 : Int) (32768 : Int) (65536 : Int) == (128 : Int) && pPut_3 (0 : Int) (0 : Int) (0 : Int) stPlain_0 stPlain_1 stPlain_2 stPlain_3 stPlain_7 stPlain_8 (9 : Int) (65536 : Int) == (255 : Int))) then pPut_4 (0 : Int) (0 : Int) stPlain_0 false stPlain_1 stPlain_2 stPlain_3 (9 : Int) == (0 : Int) else false
theorem aw19_p  : evG Try.prog tabPa3 2000 27 [0, 1] [] [] [] [] = some ([], LV.a (At.bool true aw19_0), []) := by kernel_rfl
def aw19_c : Con
  | [], [] => some ([], LV.a (At.bool true aw19_0), [])
  | _, _ => none
theorem aw19_ok : ConOK Try.prog 27 (normC aw19_c) := normC_ok (by
  intro args bs obs lv out h ho φ vs w may ha hM
  unfold aw19_c at h
  split at h
  · simp only [Option.some.injEq, Prod.mk.injEq] at h
    obtain ⟨rfl, rfl, rfl⟩ := h
    exact evG_ok tabPa3_ok follows _ _ _ _ _ (aw19_p ) ho φ vs w may ha hM
  · cases h)
theorem aw19_en : Enters Try.prog 27 := fun args => by kernel_rfl
-- 120 3 5 ms

def tabPa4 : Tab := (68, normC tArea_c) :: (70, normC tWeights_c) :: (27, normC aw19_c) :: tabPa3
theorem tabPa4_ok : TOK Try.prog tabPa4 := TOK.cons tArea_en tArea_ok (TOK.cons tWeights_en tWeights_ok (TOK.cons aw19_en aw19_ok (tabPa3_ok)))

end Go.Proofs.Ytbdmaepooahplaa
