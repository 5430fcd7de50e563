/-
  Contracts of functions of the program, each run on the local memory (printed by a program of this session's own: wip/tools).
-/
import Derived.Test.YtbdmaepooahplaaCa1
namespace Go.Proofs.Ytbdmaepooahplaa
open Go Go.RowKit Go.Proofs.Ytbdmaepooahplaa.V
set_option linter.unusedVariables false

/-! azulejo/azulejoref01.Floor -/
def rFloor_s0 (x1 : Int) : Bool := decide (x1 < (0 : Int))
def rFloor_s1 (x0 : Int) : Int := IntKind.wrap IntKind.i64 ((0 : Int) - x0)
def rFloor_s2 (x1 : Int) : Int := IntKind.wrap IntKind.i64 ((0 : Int) - x1)
def rFloor_s3 (x0 : Int) : Bool := decide ((0 : Int) ≤ x0)
def rFloor_0 (x0 : Int) (x1 : Int) : Int := bif x1 == (0 : Int) then (0 : Int) else bif rFloor_s0 x1 then rFloor0_0 (rFloor_s1 x0) (rFloor_s2 x1) else bif rFloor_s3 x0 then IntKind.wrap IntKind.i64 (Int.tdiv x0 x1) else IntKind.wrap IntKind.i64 ((0 : Int) - IntKind.wrap IntKind.i64 (Int.tdiv (IntKind.wrap IntKind.i64 (IntKind.wrap IntKind.i64 (x1 - (1 : Int)) - x0)) x1))
def rFloor_o (x0 : Int) (x1 : Int) : List Prop := [(!x1 == (0 : Int)) = true → rFloor_s0 x1 = true → (!rFloor_s2 x1 == (0 : Int)) = true → rFloor0_s0 (rFloor_s2 x1) = true → False, (!x1 == (0 : Int)) = true → rFloor_s0 x1 = true → (!rFloor_s2 x1 == (0 : Int)) = true → (!rFloor0_s0 (rFloor_s2 x1)) = true → rFloor0_s1 (rFloor_s1 x0) = true → rFloor_s2 x1 ≠ (0 : Int), (!x1 == (0 : Int)) = true → rFloor_s0 x1 = true → (!rFloor_s2 x1 == (0 : Int)) = true → (!rFloor0_s0 (rFloor_s2 x1)) = true → (!rFloor0_s1 (rFloor_s1 x0)) = true → rFloor_s2 x1 ≠ (0 : Int), (!x1 == (0 : Int)) = true → (!rFloor_s0 x1) = true → rFloor_s3 x0 = true → x1 ≠ (0 : Int), (!x1 == (0 : Int)) = true → (!rFloor_s0 x1) = true → (!rFloor_s3 x0) = true → x1 ≠ (0 : Int)]
theorem rFloor_p (x0 : Int) (x1 : Int) : evG Try.prog tabCa1 2000 94 [0, 1, 4, 6, 8, 15] [] [] [.a (.int true .i64 x0), .a (.int true .i64 x1)] [] = some (rFloor_o x0 x1, LV.a (At.int true IntKind.i64 (rFloor_0 x0 x1)), []) := by kernel_rfl
def rFloor_c : Con
  | [.a (.int true .i64 x0), .a (.int true .i64 x1)], [] => some (rFloor_o x0 x1, LV.a (At.int true IntKind.i64 (rFloor_0 x0 x1)), [])
  | _, _ => none
theorem rFloor_ok : ConOK Try.prog 94 (normC rFloor_c) := normC_ok (by
  intro args bs obs lv out h ho φ vs w may ha hM
  unfold rFloor_c at h
  split at h
  · simp only [Option.some.injEq, Prod.mk.injEq] at h
    obtain ⟨rfl, rfl, rfl⟩ := h
    rename_i x0 x1
    exact evG_ok tabCa1_ok follows _ _ _ _ _ (rFloor_p x0 x1) ho φ vs w may ha hM
  · cases h)
theorem rFloor_en : Enters Try.prog 94 := fun args => by kernel_rfl
-- 103 10 8 ms

/-! azulejo/clip.Cross -/
def cCross_s0 (x0_0 : Int) (x0_1 : Int) (x0_2 : Int) (x0_3 : Int) (x1_0 : Int) (x1_1 : Int) (x1_2 : Int) (x1_3 : Int) (x2 : Int) : Bool := bif decide (cInside_0 x0_0 x0_1 x0_2 x0_3 x2 < (0 : Int)) then true else decide ((0 : Int) ≤ cInside_0 x1_0 x1_1 x1_2 x1_3 x2)
def cCross_0 (x0_0 : Int) (x0_1 : Int) (x0_2 : Int) (x0_3 : Int) (x1_0 : Int) (x1_1 : Int) (x1_2 : Int) (x1_3 : Int) (x2 : Int) : Int := bif cCross_s0 x0_0 x0_1 x0_2 x0_3 x1_0 x1_1 x1_2 x1_3 x2 then x0_0 else crossB_0 x0_0 x1_0 (cInside_0 x0_0 x0_1 x0_2 x0_3 x2) (cInside_0 x1_0 x1_1 x1_2 x1_3 x2)
def cCross_1 (x0_0 : Int) (x0_1 : Int) (x0_2 : Int) (x0_3 : Int) (x1_0 : Int) (x1_1 : Int) (x1_2 : Int) (x1_3 : Int) (x2 : Int) : Int := bif cCross_s0 x0_0 x0_1 x0_2 x0_3 x1_0 x1_1 x1_2 x1_3 x2 then x0_1 else crossB_1 x0_1 x1_1 (cInside_0 x0_0 x0_1 x0_2 x0_3 x2) (cInside_0 x1_0 x1_1 x1_2 x1_3 x2)
def cCross_2 (x0_0 : Int) (x0_1 : Int) (x0_2 : Int) (x0_3 : Int) (x1_0 : Int) (x1_1 : Int) (x1_2 : Int) (x1_3 : Int) (x2 : Int) : Int := bif cCross_s0 x0_0 x0_1 x0_2 x0_3 x1_0 x1_1 x1_2 x1_3 x2 then x0_2 else crossB_2 x0_2 x1_2 (cInside_0 x0_0 x0_1 x0_2 x0_3 x2) (cInside_0 x1_0 x1_1 x1_2 x1_3 x2)
def cCross_3 (x0_0 : Int) (x0_1 : Int) (x0_2 : Int) (x0_3 : Int) (x1_0 : Int) (x1_1 : Int) (x1_2 : Int) (x1_3 : Int) (x2 : Int) : Int := bif cCross_s0 x0_0 x0_1 x0_2 x0_3 x1_0 x1_1 x1_2 x1_3 x2 then x0_3 else crossB_3 x0_3 x1_3 (cInside_0 x0_0 x0_1 x0_2 x0_3 x2) (cInside_0 x1_0 x1_1 x1_2 x1_3 x2)
def cCross_4 (x0_0 : Int) (x0_1 : Int) (x0_2 : Int) (x0_3 : Int) (x0_4 : Int) (x1_0 : Int) (x1_1 : Int) (x1_2 : Int) (x1_3 : Int) (x1_4 : Int) (x2 : Int) : Int := bif cCross_s0 x0_0 x0_1 x0_2 x0_3 x1_0 x1_1 x1_2 x1_3 x2 then x0_4 else crossB_0 x0_4 x1_4 (cInside_0 x0_0 x0_1 x0_2 x0_3 x2) (cInside_0 x1_0 x1_1 x1_2 x1_3 x2)
def cCross_5 (x0_0 : Int) (x0_1 : Int) (x0_2 : Int) (x0_3 : Int) (x0_5 : Int) (x1_0 : Int) (x1_1 : Int) (x1_2 : Int) (x1_3 : Int) (x1_5 : Int) (x2 : Int) : Int := bif cCross_s0 x0_0 x0_1 x0_2 x0_3 x1_0 x1_1 x1_2 x1_3 x2 then x0_5 else crossB_1 x0_5 x1_5 (cInside_0 x0_0 x0_1 x0_2 x0_3 x2) (cInside_0 x1_0 x1_1 x1_2 x1_3 x2)
def cCross_6 (x0_0 : Int) (x0_1 : Int) (x0_2 : Int) (x0_3 : Int) (x0_6 : Int) (x1_0 : Int) (x1_1 : Int) (x1_2 : Int) (x1_3 : Int) (x1_6 : Int) (x2 : Int) : Int := bif cCross_s0 x0_0 x0_1 x0_2 x0_3 x1_0 x1_1 x1_2 x1_3 x2 then x0_6 else crossB_2 x0_6 x1_6 (cInside_0 x0_0 x0_1 x0_2 x0_3 x2) (cInside_0 x1_0 x1_1 x1_2 x1_3 x2)
def cCross_7 (x0_0 : Int) (x0_1 : Int) (x0_2 : Int) (x0_3 : Int) (x0_7 : Int) (x1_0 : Int) (x1_1 : Int) (x1_2 : Int) (x1_3 : Int) (x1_7 : Int) (x2 : Int) : Int := bif cCross_s0 x0_0 x0_1 x0_2 x0_3 x1_0 x1_1 x1_2 x1_3 x2 then x0_7 else crossB_3 x0_7 x1_7 (cInside_0 x0_0 x0_1 x0_2 x0_3 x2) (cInside_0 x1_0 x1_1 x1_2 x1_3 x2)
theorem cCross_p (x0_0 : Int) (x0_1 : Int) (x0_2 : Int) (x0_3 : Int) (x0_4 : Int) (x0_5 : Int) (x0_6 : Int) (x0_7 : Int) (x1_0 : Int) (x1_1 : Int) (x1_2 : Int) (x1_3 : Int) (x1_4 : Int) (x1_5 : Int) (x1_6 : Int) (x1_7 : Int) (x2 : Int) : evG Try.prog tabCa1 2000 61 [0, 1, 2, 3, 4, 6, 7, 8, 9, 21] [] [] [.g [.int true .i64 x0_0, .int true .i64 x0_1, .int true .i64 x0_2, .int true .i64 x0_3, .int true .i64 x0_4, .int true .i64 x0_5, .int true .i64 x0_6, .int true .i64 x0_7], .g [.int true .i64 x1_0, .int true .i64 x1_1, .int true .i64 x1_2, .int true .i64 x1_3, .int true .i64 x1_4, .int true .i64 x1_5, .int true .i64 x1_6, .int true .i64 x1_7], .a (.int true .i64 x2)] [] = some ([], LV.g [At.int true IntKind.i64 (cCross_0 x0_0 x0_1 x0_2 x0_3 x1_0 x1_1 x1_2 x1_3 x2), At.int true IntKind.i64 (cCross_1 x0_0 x0_1 x0_2 x0_3 x1_0 x1_1 x1_2 x1_3 x2), At.int true IntKind.i64 (cCross_2 x0_0 x0_1 x0_2 x0_3 x1_0 x1_1 x1_2 x1_3 x2), At.int true IntKind.i64 (cCross_3 x0_0 x0_1 x0_2 x0_3 x1_0 x1_1 x1_2 x1_3 x2), At.int true IntKind.i64 (cCross_4 x0_0 x0_1 x0_2 x0_3 x0_4 x1_0 x1_1 x1_2 x1_3 x1_4 x2), At.int true IntKind.i64 (cCross_5 x0_0 x0_1 x0_2 x0_3 x0_5 x1_0 x1_1 x1_2 x1_3 x1_5 x2), At.int true IntKind.i64 (cCross_6 x0_0 x0_1 x0_2 x0_3 x0_6 x1_0 x1_1 x1_2 x1_3 x1_6 x2), At.int true IntKind.i64 (cCross_7 x0_0 x0_1 x0_2 x0_3 x0_7 x1_0 x1_1 x1_2 x1_3 x1_7 x2)], []) := by kernel_rfl
def cCross_c : Con
  | [.g [.int true .i64 x0_0, .int true .i64 x0_1, .int true .i64 x0_2, .int true .i64 x0_3, .int true .i64 x0_4, .int true .i64 x0_5, .int true .i64 x0_6, .int true .i64 x0_7], .g [.int true .i64 x1_0, .int true .i64 x1_1, .int true .i64 x1_2, .int true .i64 x1_3, .int true .i64 x1_4, .int true .i64 x1_5, .int true .i64 x1_6, .int true .i64 x1_7], .a (.int true .i64 x2)], [] => some ([], LV.g [At.int true IntKind.i64 (cCross_0 x0_0 x0_1 x0_2 x0_3 x1_0 x1_1 x1_2 x1_3 x2), At.int true IntKind.i64 (cCross_1 x0_0 x0_1 x0_2 x0_3 x1_0 x1_1 x1_2 x1_3 x2), At.int true IntKind.i64 (cCross_2 x0_0 x0_1 x0_2 x0_3 x1_0 x1_1 x1_2 x1_3 x2), At.int true IntKind.i64 (cCross_3 x0_0 x0_1 x0_2 x0_3 x1_0 x1_1 x1_2 x1_3 x2), At.int true IntKind.i64 (cCross_4 x0_0 x0_1 x0_2 x0_3 x0_4 x1_0 x1_1 x1_2 x1_3 x1_4 x2), At.int true IntKind.i64 (cCross_5 x0_0 x0_1 x0_2 x0_3 x0_5 x1_0 x1_1 x1_2 x1_3 x1_5 x2), At.int true IntKind.i64 (cCross_6 x0_0 x0_1 x0_2 x0_3 x0_6 x1_0 x1_1 x1_2 x1_3 x1_6 x2), At.int true IntKind.i64 (cCross_7 x0_0 x0_1 x0_2 x0_3 x0_7 x1_0 x1_1 x1_2 x1_3 x1_7 x2)], [])
  | _, _ => none
theorem cCross_ok : ConOK Try.prog 61 (normC cCross_c) := normC_ok (by
  intro args bs obs lv out h ho φ vs w may ha hM
  unfold cCross_c at h
  split at h
  · simp only [Option.some.injEq, Prod.mk.injEq] at h
    obtain ⟨rfl, rfl, rfl⟩ := h
    rename_i x0_0 x0_1 x0_2 x0_3 x0_4 x0_5 x0_6 x0_7 x1_0 x1_1 x1_2 x1_3 x1_4 x1_5 x1_6 x1_7 x2
    exact evG_ok tabCa1_ok follows _ _ _ _ _ (cCross_p x0_0 x0_1 x0_2 x0_3 x0_4 x0_5 x0_6 x0_7 x1_0 x1_1 x1_2 x1_3 x1_4 x1_5 x1_6 x1_7 x2) ho φ vs w may ha hM
  · cases h)
theorem cCross_en : Enters Try.prog 61 := fun args => by kernel_rfl
-- 337 27 14 ms

def tabCa2 : Tab := (94, normC rFloor_c) :: (61, normC cCross_c) :: tabCa1
theorem tabCa2_ok : TOK Try.prog tabCa2 := TOK.cons rFloor_en rFloor_ok (TOK.cons cCross_en cCross_ok (tabCa1_ok))

end Go.Proofs.Ytbdmaepooahplaa
