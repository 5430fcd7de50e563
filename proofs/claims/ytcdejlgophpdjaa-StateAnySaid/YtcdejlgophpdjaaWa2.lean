/-
  Contracts of functions of the program, each run on the local memory (printed by a program of this session's own: wip/tools).
-/
import Derived.Test.YtcdejlgophpdjaaWa1
namespace Go.Proofs.Ytcdejlgophpdjaa
open Go Go.RowKit Go.Proofs.Ytcdejlgophpdjaa.V
set_option linter.unusedVariables false

/-! azulejo/azulejolaw09.Awake -/
def aw09_0 : Bool := bif sHolds_0 (1 : Int) (1 : Int) (2 : Int) then bif !sHolds_0 (1 : Int) (2 : Int) (2 : Int) then bif sChk_0 sPlain_0 sPlain_1 sPlain_4 sPlain_5 sPlain_6 sPlain_7 sPlain_8 sPlain_9 sPlain_10 sPlain_11 sPlain_12 sPlain_13 == (0 : Int) then sDo_0 (3 : Int) (255 : Int) (3 : Int) == (255 : Int) else false else false else false
theorem aw09_p  : evG Try.prog tabWa1 2000 53 [0] [] [] [] [] = some ([], LV.a (At.bool true aw09_0), []) := by kernel_rfl
def aw09_c : Con
  | [], [] => some ([], LV.a (At.bool true aw09_0), [])
  | _, _ => none
theorem aw09_ok : ConOK Try.prog 53 (normC aw09_c) := normC_ok (by
  intro args bs obs lv out h ho φ vs w may ha hM
  unfold aw09_c at h
  split at h
  · simp only [Option.some.injEq, Prod.mk.injEq] at h
    obtain ⟨rfl, rfl, rfl⟩ := h
    exact evG_ok tabWa1_ok follows _ _ _ _ _ (aw09_p ) ho φ vs w may ha hM
  · cases h)
theorem aw09_en : Enters Try.prog 53 := fun args => by kernel_rfl
-- 65 4 4 ms

def tabWa2 : Tab := (53, normC aw09_c) :: tabWa1
theorem tabWa2_ok : TOK Try.prog tabWa2 := TOK.cons aw09_en aw09_ok (tabWa1_ok)

end Go.Proofs.Ytcdejlgophpdjaa
