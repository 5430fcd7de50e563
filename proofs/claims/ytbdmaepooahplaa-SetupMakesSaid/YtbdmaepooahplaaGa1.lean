/-
  Contracts of functions of the program, each run on the local memory (printed by a program of this session's own: wip/tools).
-/
import Derived.Test.YtbdmaepooahplaaGa0
namespace Go.Proofs.Ytbdmaepooahplaa
open Go Go.RowKit Go.Proofs.Ytbdmaepooahplaa.V
set_option linter.unusedVariables false

/-! azulejo/azulejoref12.Point -/
def r12Point_s0 (x0_0 : Int) (x1 : Int) : Int := IntKind.wrap IntKind.i64 (IntKind.wrap IntKind.i64 (x0_0 * x1) * (8 : Int))
def r12Point_0 (x0_0 : Int) (x0_3 : Int) (x1 : Int) : Int := r12bound_0 (IntKind.wrap IntKind.i64 (IntKind.wrap IntKind.i64 ((8 : Int) * x1) + rFloor_0 (r12Point_s0 x0_0 x1) x0_3)) (-16384 : Int) (16384 : Int)
def r12Point_s1 (x0_1 : Int) (x2 : Int) : Int := IntKind.wrap IntKind.i64 (IntKind.wrap IntKind.i64 (x0_1 * x2) * (8 : Int))
def r12Point_1 (x0_1 : Int) (x0_3 : Int) (x2 : Int) : Int := r12bound_0 (IntKind.wrap IntKind.i64 (IntKind.wrap IntKind.i64 ((8 : Int) * x2) - rFloor_0 (r12Point_s1 x0_1 x2) x0_3)) (-16384 : Int) (16384 : Int)
def r12Point_s2 (x0_2 : Int) : Int := IntKind.wrap IntKind.i64 (x0_2 * (65535 : Int))
def r12Point_2 (x0_2 : Int) (x0_3 : Int) : Int := r12bound_0 (rFloor_0 (r12Point_s2 x0_2) x0_3) (0 : Int) (65535 : Int)
def r12Point_o (x0_0 : Int) (x0_1 : Int) (x0_2 : Int) (x0_3 : Int) (x1 : Int) (x2 : Int) : List Prop := [(!x0_3 == (0 : Int)) = true → rFloor_s0 x0_3 = true → (!rFloor_s2 x0_3 == (0 : Int)) = true → rFloor0_s0 (rFloor_s2 x0_3) = true → False, (!x0_3 == (0 : Int)) = true → rFloor_s0 x0_3 = true → (!rFloor_s2 x0_3 == (0 : Int)) = true → (!rFloor0_s0 (rFloor_s2 x0_3)) = true → rFloor0_s1 (rFloor_s1 (r12Point_s0 x0_0 x1)) = true → rFloor_s2 x0_3 ≠ (0 : Int), (!x0_3 == (0 : Int)) = true → rFloor_s0 x0_3 = true → (!rFloor_s2 x0_3 == (0 : Int)) = true → (!rFloor0_s0 (rFloor_s2 x0_3)) = true → (!rFloor0_s1 (rFloor_s1 (r12Point_s0 x0_0 x1))) = true → rFloor_s2 x0_3 ≠ (0 : Int), (!x0_3 == (0 : Int)) = true → (!rFloor_s0 x0_3) = true → rFloor_s3 (r12Point_s0 x0_0 x1) = true → x0_3 ≠ (0 : Int), (!x0_3 == (0 : Int)) = true → (!rFloor_s0 x0_3) = true → (!rFloor_s3 (r12Point_s0 x0_0 x1)) = true → x0_3 ≠ (0 : Int), (!x0_3 == (0 : Int)) = true → rFloor_s0 x0_3 = true → (!rFloor_s2 x0_3 == (0 : Int)) = true → rFloor0_s0 (rFloor_s2 x0_3) = true → False, (!x0_3 == (0 : Int)) = true → rFloor_s0 x0_3 = true → (!rFloor_s2 x0_3 == (0 : Int)) = true → (!rFloor0_s0 (rFloor_s2 x0_3)) = true → rFloor0_s1 (rFloor_s1 (r12Point_s1 x0_1 x2)) = true → rFloor_s2 x0_3 ≠ (0 : Int), (!x0_3 == (0 : Int)) = true → rFloor_s0 x0_3 = true → (!rFloor_s2 x0_3 == (0 : Int)) = true → (!rFloor0_s0 (rFloor_s2 x0_3)) = true → (!rFloor0_s1 (rFloor_s1 (r12Point_s1 x0_1 x2))) = true → rFloor_s2 x0_3 ≠ (0 : Int), (!x0_3 == (0 : Int)) = true → (!rFloor_s0 x0_3) = true → rFloor_s3 (r12Point_s1 x0_1 x2) = true → x0_3 ≠ (0 : Int), (!x0_3 == (0 : Int)) = true → (!rFloor_s0 x0_3) = true → (!rFloor_s3 (r12Point_s1 x0_1 x2)) = true → x0_3 ≠ (0 : Int), (!x0_3 == (0 : Int)) = true → rFloor_s0 x0_3 = true → (!rFloor_s2 x0_3 == (0 : Int)) = true → rFloor0_s0 (rFloor_s2 x0_3) = true → False, (!x0_3 == (0 : Int)) = true → rFloor_s0 x0_3 = true → (!rFloor_s2 x0_3 == (0 : Int)) = true → (!rFloor0_s0 (rFloor_s2 x0_3)) = true → rFloor0_s1 (rFloor_s1 (r12Point_s2 x0_2)) = true → rFloor_s2 x0_3 ≠ (0 : Int), (!x0_3 == (0 : Int)) = true → rFloor_s0 x0_3 = true → (!rFloor_s2 x0_3 == (0 : Int)) = true → (!rFloor0_s0 (rFloor_s2 x0_3)) = true → (!rFloor0_s1 (rFloor_s1 (r12Point_s2 x0_2))) = true → rFloor_s2 x0_3 ≠ (0 : Int), (!x0_3 == (0 : Int)) = true → (!rFloor_s0 x0_3) = true → rFloor_s3 (r12Point_s2 x0_2) = true → x0_3 ≠ (0 : Int), (!x0_3 == (0 : Int)) = true → (!rFloor_s0 x0_3) = true → (!rFloor_s3 (r12Point_s2 x0_2)) = true → x0_3 ≠ (0 : Int)]
theorem r12Point_p (x0_0 : Int) (x0_1 : Int) (x0_2 : Int) (x0_3 : Int) (x1 : Int) (x2 : Int) : evG Try.prog tabGa0 2000 90 [0, 1, 2, 3, 6, 7, 8, 9] [] [] [.g [.int true .i64 x0_0, .int true .i64 x0_1, .int true .i64 x0_2, .int true .i64 x0_3], .a (.int true .i64 x1), .a (.int true .i64 x2)] [] = some (r12Point_o x0_0 x0_1 x0_2 x0_3 x1 x2, LV.t [LV.g [At.int true IntKind.i64 (r12Point_0 x0_0 x0_3 x1), At.int true IntKind.i64 (r12Point_1 x0_1 x0_3 x2)], LV.a (At.int true IntKind.i64 (r12Point_2 x0_2 x0_3))], []) := by kernel_rfl
def r12Point_c : Con
  | [.g [.int true .i64 x0_0, .int true .i64 x0_1, .int true .i64 x0_2, .int true .i64 x0_3], .a (.int true .i64 x1), .a (.int true .i64 x2)], [] => some (r12Point_o x0_0 x0_1 x0_2 x0_3 x1 x2, LV.t [LV.g [At.int true IntKind.i64 (r12Point_0 x0_0 x0_3 x1), At.int true IntKind.i64 (r12Point_1 x0_1 x0_3 x2)], LV.a (At.int true IntKind.i64 (r12Point_2 x0_2 x0_3))], [])
  | _, _ => none
theorem r12Point_ok : ConOK Try.prog 90 (normC r12Point_c) := normC_ok (by
  intro args bs obs lv out h ho φ vs w may ha hM
  unfold r12Point_c at h
  split at h
  · simp only [Option.some.injEq, Prod.mk.injEq] at h
    obtain ⟨rfl, rfl, rfl⟩ := h
    rename_i x0_0 x0_1 x0_2 x0_3 x1 x2
    exact evG_ok tabGa0_ok follows _ _ _ _ _ (r12Point_p x0_0 x0_1 x0_2 x0_3 x1 x2) ho φ vs w may ha hM
  · cases h)
theorem r12Point_en : Enters Try.prog 90 := fun args => by kernel_rfl
-- 266 3 8 ms

def tabGa1 : Tab := (90, normC r12Point_c) :: tabGa0
theorem tabGa1_ok : TOK Try.prog tabGa1 := TOK.cons r12Point_en r12Point_ok (tabGa0_ok)

end Go.Proofs.Ytbdmaepooahplaa
