/-
  Contracts of functions of the program, each run on the local memory (printed by a program of this session's own: wip/tools).
-/
import Derived.Test.YthgjacfikicgnaaVL
namespace Go.Proofs.Ythgjacfikicgnaa
open Go Go.RowKit Go.Proofs.Ythgjacfikicgnaa.V
set_option linter.unusedVariables false

/-! azulejo/fix.Within -/
def fWithin_s0 (x0 : Int) (x1 : Int) : Int := if x1 < x0 then x1 else x0
def fWithin_s1 (x1 : Int) : Int := IntKind.wrap IntKind.i64 (0 - x1)
def fWithin_0 (x0 : Int) (x1 : Int) : Int := if fWithin_s0 x0 x1 < fWithin_s1 x1 then fWithin_s1 x1 else fWithin_s0 x0 x1
theorem fWithin_p (x0 : Int) (x1 : Int) : evG Try.prog tabVL 2000 24 [0, 1, 4] [] [] [.a (.int true .i64 x0), .a (.int true .i64 x1)] [] = some ([], LV.a (At.int true IntKind.i64 (fWithin_0 x0 x1)), []) := by kernel_rfl
def fWithin_c : Con
  | [.a (.int true .i64 x0), .a (.int true .i64 x1)], [] => some ([], LV.a (At.int true IntKind.i64 (fWithin_0 x0 x1)), [])
  | _, _ => none
theorem fWithin_ok : ConOK Try.prog 24 (normC fWithin_c) := normC_ok (by
  intro args bs obs lv out h ho φ vs w may ha hM
  unfold fWithin_c at h
  split at h
  · simp only [Option.some.injEq, Prod.mk.injEq] at h
    obtain ⟨rfl, rfl, rfl⟩ := h
    rename_i x0 x1
    exact evG_ok tabVL_ok follows _ _ _ _ _ (fWithin_p x0 x1) ho φ vs w may ha hM
  · cases h)
theorem fWithin_en : Enters Try.prog 24 := fun args => by kernel_rfl
-- 53 4 4 ms

/-! azulejo/azulejoref01.near -/
def r1near_0 (x0 : Int) : Int := bif decide (16384 < x0) then 16384 else bif decide (x0 < -16384) then -16384 else x0
theorem r1near_p (x0 : Int) : evG Try.prog tabVL 2000 77 [0, 2, 4, 6] [] [] [.a (.int true .i64 x0)] [] = some ([], LV.a (At.int true IntKind.i64 (r1near_0 x0)), []) := by kernel_rfl
def r1near_c : Con
  | [.a (.int true .i64 x0)], [] => some ([], LV.a (At.int true IntKind.i64 (r1near_0 x0)), [])
  | _, _ => none
theorem r1near_ok : ConOK Try.prog 77 (normC r1near_c) := normC_ok (by
  intro args bs obs lv out h ho φ vs w may ha hM
  unfold r1near_c at h
  split at h
  · simp only [Option.some.injEq, Prod.mk.injEq] at h
    obtain ⟨rfl, rfl, rfl⟩ := h
    rename_i x0
    exact evG_ok tabVL_ok follows _ _ _ _ _ (r1near_p x0) ho φ vs w may ha hM
  · cases h)
theorem r1near_en : Enters Try.prog 77 := fun args => by kernel_rfl
-- 57 4 2 ms

/-! (azulejo/azulejolaw03.Small).Tri -/
theorem sTri_p (x0_0 : Int) (x0_1 : Int) (x0_2 : Int) (x0_3 : Int) (x0_4 : Int) (x0_5 : Int) : evG Try.prog tabVL 2000 42 [0, 1, 2, 3, 4, 5, 6, 7, 8] [] [] [.g [.int true .i8 x0_0, .int true .i8 x0_1, .int true .i8 x0_2, .int true .i8 x0_3, .int true .i8 x0_4, .int true .i8 x0_5]] [] = some ([], LV.g [At.int true IntKind.i64 (IntKind.wrap IntKind.i64 x0_0), At.int true IntKind.i64 (IntKind.wrap IntKind.i64 x0_1), At.int true IntKind.i64 (IntKind.wrap IntKind.i64 x0_2), At.int true IntKind.i64 (IntKind.wrap IntKind.i64 x0_3), At.int true IntKind.i64 (IntKind.wrap IntKind.i64 x0_4), At.int true IntKind.i64 (IntKind.wrap IntKind.i64 x0_5)], []) := by kernel_rfl
def sTri_c : Con
  | [.g [.int true .i8 x0_0, .int true .i8 x0_1, .int true .i8 x0_2, .int true .i8 x0_3, .int true .i8 x0_4, .int true .i8 x0_5]], [] => some ([], LV.g [At.int true IntKind.i64 (IntKind.wrap IntKind.i64 x0_0), At.int true IntKind.i64 (IntKind.wrap IntKind.i64 x0_1), At.int true IntKind.i64 (IntKind.wrap IntKind.i64 x0_2), At.int true IntKind.i64 (IntKind.wrap IntKind.i64 x0_3), At.int true IntKind.i64 (IntKind.wrap IntKind.i64 x0_4), At.int true IntKind.i64 (IntKind.wrap IntKind.i64 x0_5)], [])
  | _, _ => none
theorem sTri_ok : ConOK Try.prog 42 (normC sTri_c) := normC_ok (by
  intro args bs obs lv out h ho φ vs w may ha hM
  unfold sTri_c at h
  split at h
  · simp only [Option.some.injEq, Prod.mk.injEq] at h
    obtain ⟨rfl, rfl, rfl⟩ := h
    rename_i x0_0 x0_1 x0_2 x0_3 x0_4 x0_5
    exact evG_ok tabVL_ok follows _ _ _ _ _ (sTri_p x0_0 x0_1 x0_2 x0_3 x0_4 x0_5) ho φ vs w may ha hM
  · cases h)
theorem sTri_en : Enters Try.prog 42 := fun args => by kernel_rfl
-- 367 4 1 ms

/-! (azulejo/edge.Tri).Turned -/
theorem eTurned_p (x0_0 : Int) (x0_1 : Int) (x0_2 : Int) (x0_3 : Int) (x0_4 : Int) (x0_5 : Int) : evG Try.prog tabVL 2000 43 [0, 1, 2] [] [] [.g [.int true .i64 x0_0, .int true .i64 x0_1, .int true .i64 x0_2, .int true .i64 x0_3, .int true .i64 x0_4, .int true .i64 x0_5]] [] = some ([], LV.g [At.int true IntKind.i64 x0_0, At.int true IntKind.i64 x0_1, At.int true IntKind.i64 x0_4, At.int true IntKind.i64 x0_5, At.int true IntKind.i64 x0_2, At.int true IntKind.i64 x0_3], []) := by kernel_rfl
def eTurned_c : Con
  | [.g [.int true .i64 x0_0, .int true .i64 x0_1, .int true .i64 x0_2, .int true .i64 x0_3, .int true .i64 x0_4, .int true .i64 x0_5]], [] => some ([], LV.g [At.int true IntKind.i64 x0_0, At.int true IntKind.i64 x0_1, At.int true IntKind.i64 x0_4, At.int true IntKind.i64 x0_5, At.int true IntKind.i64 x0_2, At.int true IntKind.i64 x0_3], [])
  | _, _ => none
theorem eTurned_ok : ConOK Try.prog 43 (normC eTurned_c) := normC_ok (by
  intro args bs obs lv out h ho φ vs w may ha hM
  unfold eTurned_c at h
  split at h
  · simp only [Option.some.injEq, Prod.mk.injEq] at h
    obtain ⟨rfl, rfl, rfl⟩ := h
    rename_i x0_0 x0_1 x0_2 x0_3 x0_4 x0_5
    exact evG_ok tabVL_ok follows _ _ _ _ _ (eTurned_p x0_0 x0_1 x0_2 x0_3 x0_4 x0_5) ho φ vs w may ha hM
  · cases h)
theorem eTurned_en : Enters Try.prog 43 := fun args => by kernel_rfl
-- 90 1 0 ms

/-! azulejo/azulejolaw03.ref -/
theorem l3ref_p (x0_0 : Int) (x0_1 : Int) (x0_2 : Int) (x0_3 : Int) (x0_4 : Int) (x0_5 : Int) : evG Try.prog tabVL 2000 46 [0, 1, 2] [] [] [.g [.int true .i64 x0_0, .int true .i64 x0_1, .int true .i64 x0_2, .int true .i64 x0_3, .int true .i64 x0_4, .int true .i64 x0_5]] [] = some ([], LV.g [At.int true IntKind.i64 x0_0, At.int true IntKind.i64 x0_1, At.int true IntKind.i64 x0_2, At.int true IntKind.i64 x0_3, At.int true IntKind.i64 x0_4, At.int true IntKind.i64 x0_5], []) := by kernel_rfl
def l3ref_c : Con
  | [.g [.int true .i64 x0_0, .int true .i64 x0_1, .int true .i64 x0_2, .int true .i64 x0_3, .int true .i64 x0_4, .int true .i64 x0_5]], [] => some ([], LV.g [At.int true IntKind.i64 x0_0, At.int true IntKind.i64 x0_1, At.int true IntKind.i64 x0_2, At.int true IntKind.i64 x0_3, At.int true IntKind.i64 x0_4, At.int true IntKind.i64 x0_5], [])
  | _, _ => none
theorem l3ref_ok : ConOK Try.prog 46 (normC l3ref_c) := normC_ok (by
  intro args bs obs lv out h ho φ vs w may ha hM
  unfold l3ref_c at h
  split at h
  · simp only [Option.some.injEq, Prod.mk.injEq] at h
    obtain ⟨rfl, rfl, rfl⟩ := h
    rename_i x0_0 x0_1 x0_2 x0_3 x0_4 x0_5
    exact evG_ok tabVL_ok follows _ _ _ _ _ (l3ref_p x0_0 x0_1 x0_2 x0_3 x0_4 x0_5) ho φ vs w may ha hM
  · cases h)
theorem l3ref_en : Enters Try.prog 46 := fun args => by kernel_rfl
-- 182 1 0 ms

/-! azulejo/azulejolaw03.EdgeShared$1 -/
theorem lShared1_p (x0_0 : Int) (x0_1 : Int) : evG Try.prog tabVL 2000 37 [0, 1, 2] [] [] [.g [.int true .i8 x0_0, .int true .i8 x0_1]] [] = some ([], LV.g [At.int true IntKind.i64 (IntKind.wrap IntKind.i64 x0_0), At.int true IntKind.i64 (IntKind.wrap IntKind.i64 x0_1)], []) := by kernel_rfl
def lShared1_c : Con
  | [.g [.int true .i8 x0_0, .int true .i8 x0_1]], [] => some ([], LV.g [At.int true IntKind.i64 (IntKind.wrap IntKind.i64 x0_0), At.int true IntKind.i64 (IntKind.wrap IntKind.i64 x0_1)], [])
  | _, _ => none
theorem lShared1_ok : ConOK Try.prog 37 (normC lShared1_c) := normC_ok (by
  intro args bs obs lv out h ho φ vs w may ha hM
  unfold lShared1_c at h
  split at h
  · simp only [Option.some.injEq, Prod.mk.injEq] at h
    obtain ⟨rfl, rfl, rfl⟩ := h
    rename_i x0_0 x0_1
    exact evG_ok tabVL_ok follows _ _ _ _ _ (lShared1_p x0_0 x0_1) ho φ vs w may ha hM
  · cases h)
theorem lShared1_en : Enters Try.prog 37 := fun args => by kernel_rfl
-- 90 3 0 ms

/-! azulejo/azulejolaw03.EdgeSides$1 -/
def lSides1_s0 (x0 : Int) : Int := if x0 < -16384 then -16384 else x0
def lSides1_0 (x0 : Int) : Int := if 16384 < lSides1_s0 x0 then 16384 else lSides1_s0 x0
theorem lSides1_p (x0 : Int) : evG Try.prog tabVL 2000 49 [0, 2] [] [] [.a (.int true .i64 x0)] [] = some ([], LV.a (At.int true IntKind.i64 (lSides1_0 x0)), []) := by kernel_rfl
def lSides1_c : Con
  | [.a (.int true .i64 x0)], [] => some ([], LV.a (At.int true IntKind.i64 (lSides1_0 x0)), [])
  | _, _ => none
theorem lSides1_ok : ConOK Try.prog 49 (normC lSides1_c) := normC_ok (by
  intro args bs obs lv out h ho φ vs w may ha hM
  unfold lSides1_c at h
  split at h
  · simp only [Option.some.injEq, Prod.mk.injEq] at h
    obtain ⟨rfl, rfl, rfl⟩ := h
    rename_i x0
    exact evG_ok tabVL_ok follows _ _ _ _ _ (lSides1_p x0) ho φ vs w may ha hM
  · cases h)
theorem lSides1_en : Enters Try.prog 49 := fun args => by kernel_rfl
-- 31 3 3 ms

def tabEa1 : Tab := (24, normC fWithin_c) :: (77, normC r1near_c) :: (42, normC sTri_c) :: (43, normC eTurned_c) :: (46, normC l3ref_c) :: (37, normC lShared1_c) :: (49, normC lSides1_c) :: tabVL
theorem tabEa1_ok : TOK Try.prog tabEa1 := TOK.cons fWithin_en fWithin_ok (TOK.cons r1near_en r1near_ok (TOK.cons sTri_en sTri_ok (TOK.cons eTurned_en eTurned_ok (TOK.cons l3ref_en l3ref_ok (TOK.cons lShared1_en lShared1_ok (TOK.cons lSides1_en lSides1_ok (tabVL_ok)))))))

end Go.Proofs.Ythgjacfikicgnaa
