/-
  Contracts of functions of the program, each run on the local memory (printed by a program of this session's own: wip/tools).
-/
import Derived.Test.YthgjacfikicgnaaEa5
namespace Go.Proofs.Ythgjacfikicgnaa
open Go Go.RowKit Go.Proofs.Ythgjacfikicgnaa.V
set_option linter.unusedVariables false

/-! azulejo/azulejolaw03.Awake -/
def aw3_0 : Bool := bif eCovers_0 0 0 16 0 0 16 0 0 then bif !eCovers_0 0 0 16 0 0 16 16 0 then eArea_0 0 0 16 0 0 16 == 256 else false else false
theorem aw3_p  : evG Try.prog tabEa5 2000 36 [0, 1] [] [] [] [] = some ([], LV.a (At.bool true aw3_0), []) := by kernel_rfl
def aw3_c : Con
  | [], [] => some ([], LV.a (At.bool true aw3_0), [])
  | _, _ => none
theorem aw3_ok : ConOK Try.prog 36 (normC aw3_c) := normC_ok (by
  intro args bs obs lv out h ho φ vs w may ha hM
  unfold aw3_c at h
  split at h
  · simp only [Option.some.injEq, Prod.mk.injEq] at h
    obtain ⟨rfl, rfl, rfl⟩ := h
    exact evG_ok tabEa5_ok follows _ _ _ _ _ (aw3_p ) ho φ vs w may ha hM
  · cases h)
theorem aw3_en : Enters Try.prog 36 := fun args => by kernel_rfl
-- 129 5 3 ms

def tabEa6 : Tab := (36, normC aw3_c) :: tabEa5
theorem tabEa6_ok : TOK Try.prog tabEa6 := TOK.cons aw3_en aw3_ok (tabEa5_ok)

end Go.Proofs.Ythgjacfikicgnaa
