/-
  Contracts of functions of the program, each run on the local memory (printed by a program of this session's own: wip/tools).
-/
import Derived.Test.YtbdmaepooahplaaSa2
namespace Go.Proofs.Ytbdmaepooahplaa
open Go Go.RowKit Go.Proofs.Ytbdmaepooahplaa.V
set_option linter.unusedVariables false

/-! azulejo/azulejolaw13.Awake -/
def aw13_0 : Bool := bif sCheck_0 (0 : Int) (0 : Int) (64 : Int) (0 : Int) (0 : Int) (64 : Int) l13Plain_0 l13Plain_1 l13Plain_2 l13Plain_3 l13Plain_4 l13Plain_5 (1 : Int) (2 : Int) (3 : Int) (4 : Int) (1 : Int) (2 : Int) (3 : Int) (4 : Int) (1 : Int) (2 : Int) (3 : Int) (4 : Int) == (0 : Int) then bif sAt_5 (0 : Int) (0 : Int) (64 : Int) (0 : Int) (0 : Int) (64 : Int) l13Plain_0 l13Plain_1 l13Plain_2 l13Plain_3 l13Plain_4 l13Plain_5 (1 : Int) (2 : Int) (3 : Int) (4 : Int) (1 : Int) (2 : Int) (3 : Int) (4 : Int) (1 : Int) (2 : Int) (3 : Int) (4 : Int) (0 : Int) (0 : Int) then bif sAt_0 (0 : Int) (0 : Int) (64 : Int) (0 : Int) (0 : Int) (64 : Int) l13Plain_0 l13Plain_1 l13Plain_2 l13Plain_3 l13Plain_4 l13Plain_5 (1 : Int) (2 : Int) (3 : Int) (4 : Int) (1 : Int) (2 : Int) (3 : Int) (4 : Int) (1 : Int) (2 : Int) (3 : Int) (4 : Int) (0 : Int) (0 : Int) == (7 : Int) then sAt_1 (0 : Int) (0 : Int) (64 : Int) (0 : Int) (0 : Int) (64 : Int) l13Plain_0 l13Plain_1 l13Plain_2 l13Plain_3 l13Plain_4 l13Plain_5 (1 : Int) (2 : Int) (3 : Int) (4 : Int) (1 : Int) (2 : Int) (3 : Int) (4 : Int) (1 : Int) (2 : Int) (3 : Int) (4 : Int) (0 : Int) (0 : Int) == (1 : Int) && (sAt_2 (0 : Int) (0 : Int) (64 : Int) (0 : Int) (0 : Int) (64 : Int) l13Plain_0 l13Plain_1 l13Plain_2 l13Plain_3 l13Plain_4 l13Plain_5 (1 : Int) (2 : Int) (3 : Int) (4 : Int) (1 : Int) (2 : Int) (3 : Int) (4 : Int) (1 : Int) (2 : Int) (3 : Int) (4 : Int) (0 : Int) (0 : Int) == (2 : Int) && (sAt_3 (0 : Int) (0 : Int) (64 : Int) (0 : Int) (0 : Int) (64 : Int) l13Plain_0 l13Plain_1 l13Plain_2 l13Plain_3 l13Plain_4 l13Plain_5 (1 : Int) (2 : Int) (3 : Int) (4 : Int) (1 : Int) (2 : Int) (3 : Int) (4 : Int) (1 : Int) (2 : Int) (3 : Int) (4 : Int) (0 : Int) (0 : Int) == (3 : Int) && sAt_4 (0 : Int) (0 : Int) (64 : Int) (0 : Int) (0 : Int) (64 : Int) l13Plain_0 l13Plain_1 l13Plain_2 l13Plain_3 l13Plain_4 l13Plain_5 (1 : Int) (2 : Int) (3 : Int) (4 : Int) (1 : Int) (2 : Int) (3 : Int) (4 : Int) (1 : Int) (2 : Int) (3 : Int) (4 : Int) (0 : Int) (0 : Int) == (4 : Int))) else false else false else false
theorem aw13_p  : evG Try.prog tabSa2 2000 21 [0, 1, 2, 3, 4] [] [] [] [] = some ([], LV.a (At.bool true aw13_0), []) := by kernel_rfl
def aw13_c : Con
  | [], [] => some ([], LV.a (At.bool true aw13_0), [])
  | _, _ => none
theorem aw13_ok : ConOK Try.prog 21 (normC aw13_c) := normC_ok (by
  intro args bs obs lv out h ho φ vs w may ha hM
  unfold aw13_c at h
  split at h
  · simp only [Option.some.injEq, Prod.mk.injEq] at h
    obtain ⟨rfl, rfl, rfl⟩ := h
    exact evG_ok tabSa2_ok follows _ _ _ _ _ (aw13_p ) ho φ vs w may ha hM
  · cases h)
theorem aw13_en : Enters Try.prog 21 := fun args => by kernel_rfl
-- 203 4 13 ms

def tabSa3 : Tab := (21, normC aw13_c) :: tabSa2
theorem tabSa3_ok : TOK Try.prog tabSa3 := TOK.cons aw13_en aw13_ok (tabSa2_ok)

end Go.Proofs.Ytbdmaepooahplaa
