/-
  Contracts of functions of the program, each run on the local memory (printed by a program of this session's own: wip/tools).
-/
import Derived.Test.YthgjacfikicgnaaVL
namespace Go.Proofs.Ythgjacfikicgnaa
open Go Go.RowKit Go.Proofs.Ythgjacfikicgnaa.V
set_option linter.unusedVariables false

/-! azulejo/bin.tiles -/
def bTiles_s0 (x0 : Int) : Int := if x0 < (0 : Int) then (0 : Int) else x0
def bTiles_0 (x0 : Int) : Int := IntKind.wrap IntKind.i64 (Int.tdiv (IntKind.wrap IntKind.i64 (IntKind.wrap IntKind.i64 ((if (64 : Int) < bTiles_s0 x0 then (64 : Int) else bTiles_s0 x0) + (8 : Int)) - (1 : Int))) (8 : Int))
theorem bTiles_p (x0 : Int) : evG Try.prog tabVL 2000 78 [0, 2] [] [] [.a (.int true .i64 x0)] [] = some ([], LV.a (At.int true IntKind.i64 (bTiles_0 x0)), []) := by kernel_rfl
def bTiles_c : Con
  | [.a (.int true .i64 x0)], [] => some ([], LV.a (At.int true IntKind.i64 (bTiles_0 x0)), [])
  | _, _ => none
theorem bTiles_ok : ConOK Try.prog 78 (normC bTiles_c) := normC_ok (by
  intro args bs obs lv out h ho φ vs w may ha hM
  unfold bTiles_c at h
  split at h
  · simp only [Option.some.injEq, Prod.mk.injEq] at h
    obtain ⟨rfl, rfl, rfl⟩ := h
    rename_i x0
    exact evG_ok tabVL_ok follows _ _ _ _ _ (bTiles_p x0) ho φ vs w may ha hM
  · cases h)
theorem bTiles_en : Enters Try.prog 78 := fun args => by kernel_rfl
-- 55 5 4 ms

/-! azulejo/azulejolaw16.in -/
def l16in_0 (x0_0 : Int) (x0_1 : Int) (x0_2 : Int) (x0_3 : Int) (x1 : Int) (x2 : Int) : Bool := bif decide (x0_0 ≤ x1) then bif decide (x1 < x0_2) then bif decide (x0_1 ≤ x2) then decide (x2 < x0_3) else false else false else false
theorem l16in_p (x0_0 : Int) (x0_1 : Int) (x0_2 : Int) (x0_3 : Int) (x1 : Int) (x2 : Int) : evG Try.prog tabVL 2000 54 [0, 1, 2, 3, 6] [] [] [.g [.int true .i64 x0_0, .int true .i64 x0_1, .int true .i64 x0_2, .int true .i64 x0_3], .a (.int true .i64 x1), .a (.int true .i64 x2)] [] = some ([], LV.a (At.bool true (l16in_0 x0_0 x0_1 x0_2 x0_3 x1 x2)), []) := by kernel_rfl
def l16in_c : Con
  | [.g [.int true .i64 x0_0, .int true .i64 x0_1, .int true .i64 x0_2, .int true .i64 x0_3], .a (.int true .i64 x1), .a (.int true .i64 x2)], [] => some ([], LV.a (At.bool true (l16in_0 x0_0 x0_1 x0_2 x0_3 x1 x2)), [])
  | _, _ => none
theorem l16in_ok : ConOK Try.prog 54 (normC l16in_c) := normC_ok (by
  intro args bs obs lv out h ho φ vs w may ha hM
  unfold l16in_c at h
  split at h
  · simp only [Option.some.injEq, Prod.mk.injEq] at h
    obtain ⟨rfl, rfl, rfl⟩ := h
    rename_i x0_0 x0_1 x0_2 x0_3 x1 x2
    exact evG_ok tabVL_ok follows _ _ _ _ _ (l16in_p x0_0 x0_1 x0_2 x0_3 x1 x2) ho φ vs w may ha hM
  · cases h)
theorem l16in_en : Enters Try.prog 54 := fun args => by kernel_rfl
-- 171 13 3 ms

/-! azulejo/bin.Meet -/
def bMeet_s0 (x0_2 : Int) (x1_2 : Int) : Int := if x1_2 < x0_2 then x1_2 else x0_2
def bMeet_s1 (x0_0 : Int) (x1_0 : Int) : Int := if x0_0 < x1_0 then x1_0 else x0_0
def bMeet_s2 (x0_3 : Int) (x1_3 : Int) : Int := if x1_3 < x0_3 then x1_3 else x0_3
def bMeet_s3 (x0_1 : Int) (x1_1 : Int) : Int := if x0_1 < x1_1 then x1_1 else x0_1
def bMeet_s4 (x0_0 : Int) (x0_1 : Int) (x0_2 : Int) (x0_3 : Int) (x1_0 : Int) (x1_1 : Int) (x1_2 : Int) (x1_3 : Int) : Bool := bif decide (bMeet_s0 x0_2 x1_2 ≤ bMeet_s1 x0_0 x1_0) then true else decide (bMeet_s2 x0_3 x1_3 ≤ bMeet_s3 x0_1 x1_1)
def bMeet_0 (x0_0 : Int) (x0_1 : Int) (x0_2 : Int) (x0_3 : Int) (x1_0 : Int) (x1_1 : Int) (x1_2 : Int) (x1_3 : Int) : Int := bif bMeet_s4 x0_0 x0_1 x0_2 x0_3 x1_0 x1_1 x1_2 x1_3 then (0 : Int) else bMeet_s1 x0_0 x1_0
def bMeet_1 (x0_0 : Int) (x0_1 : Int) (x0_2 : Int) (x0_3 : Int) (x1_0 : Int) (x1_1 : Int) (x1_2 : Int) (x1_3 : Int) : Int := bif bMeet_s4 x0_0 x0_1 x0_2 x0_3 x1_0 x1_1 x1_2 x1_3 then (0 : Int) else bMeet_s3 x0_1 x1_1
def bMeet_2 (x0_0 : Int) (x0_1 : Int) (x0_2 : Int) (x0_3 : Int) (x1_0 : Int) (x1_1 : Int) (x1_2 : Int) (x1_3 : Int) : Int := bif bMeet_s4 x0_0 x0_1 x0_2 x0_3 x1_0 x1_1 x1_2 x1_3 then (0 : Int) else bMeet_s0 x0_2 x1_2
def bMeet_3 (x0_0 : Int) (x0_1 : Int) (x0_2 : Int) (x0_3 : Int) (x1_0 : Int) (x1_1 : Int) (x1_2 : Int) (x1_3 : Int) : Int := bif bMeet_s4 x0_0 x0_1 x0_2 x0_3 x1_0 x1_1 x1_2 x1_3 then (0 : Int) else bMeet_s2 x0_3 x1_3
theorem bMeet_p (x0_0 : Int) (x0_1 : Int) (x0_2 : Int) (x0_3 : Int) (x1_0 : Int) (x1_1 : Int) (x1_2 : Int) (x1_3 : Int) : evG Try.prog tabVL 2000 56 [0, 1, 2, 3, 4, 5, 38] [] [] [.g [.int true .i64 x0_0, .int true .i64 x0_1, .int true .i64 x0_2, .int true .i64 x0_3], .g [.int true .i64 x1_0, .int true .i64 x1_1, .int true .i64 x1_2, .int true .i64 x1_3]] [] = some ([], LV.g [At.int true IntKind.i64 (bMeet_0 x0_0 x0_1 x0_2 x0_3 x1_0 x1_1 x1_2 x1_3), At.int true IntKind.i64 (bMeet_1 x0_0 x0_1 x0_2 x0_3 x1_0 x1_1 x1_2 x1_3), At.int true IntKind.i64 (bMeet_2 x0_0 x0_1 x0_2 x0_3 x1_0 x1_1 x1_2 x1_3), At.int true IntKind.i64 (bMeet_3 x0_0 x0_1 x0_2 x0_3 x1_0 x1_1 x1_2 x1_3)], []) := by kernel_rfl
def bMeet_c : Con
  | [.g [.int true .i64 x0_0, .int true .i64 x0_1, .int true .i64 x0_2, .int true .i64 x0_3], .g [.int true .i64 x1_0, .int true .i64 x1_1, .int true .i64 x1_2, .int true .i64 x1_3]], [] => some ([], LV.g [At.int true IntKind.i64 (bMeet_0 x0_0 x0_1 x0_2 x0_3 x1_0 x1_1 x1_2 x1_3), At.int true IntKind.i64 (bMeet_1 x0_0 x0_1 x0_2 x0_3 x1_0 x1_1 x1_2 x1_3), At.int true IntKind.i64 (bMeet_2 x0_0 x0_1 x0_2 x0_3 x1_0 x1_1 x1_2 x1_3), At.int true IntKind.i64 (bMeet_3 x0_0 x0_1 x0_2 x0_3 x1_0 x1_1 x1_2 x1_3)], [])
  | _, _ => none
theorem bMeet_ok : ConOK Try.prog 56 (normC bMeet_c) := normC_ok (by
  intro args bs obs lv out h ho φ vs w may ha hM
  unfold bMeet_c at h
  split at h
  · simp only [Option.some.injEq, Prod.mk.injEq] at h
    obtain ⟨rfl, rfl, rfl⟩ := h
    rename_i x0_0 x0_1 x0_2 x0_3 x1_0 x1_1 x1_2 x1_3
    exact evG_ok tabVL_ok follows _ _ _ _ _ (bMeet_p x0_0 x0_1 x0_2 x0_3 x1_0 x1_1 x1_2 x1_3) ho φ vs w may ha hM
  · cases h)
theorem bMeet_en : Enters Try.prog 56 := fun args => by kernel_rfl
-- 275 22 17 ms

def tabBa1 : Tab := (78, normC bTiles_c) :: (54, normC l16in_c) :: (56, normC bMeet_c) :: tabVL
theorem tabBa1_ok : TOK Try.prog tabBa1 := TOK.cons bTiles_en bTiles_ok (TOK.cons l16in_en l16in_ok (TOK.cons bMeet_en bMeet_ok (tabVL_ok)))

end Go.Proofs.Ythgjacfikicgnaa
