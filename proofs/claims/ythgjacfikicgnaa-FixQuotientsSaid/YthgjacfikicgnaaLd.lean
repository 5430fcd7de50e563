/-
  Contracts of functions of the program, each run on the local memory (printed by a program of this session's own: wip/tools).
-/
import Derived.Test.YthgjacfikicgnaaLc2
namespace Go.Proofs.Ythgjacfikicgnaa
open Go Go.RowKit Go.Proofs.Ythgjacfikicgnaa.K
set_option linter.unusedVariables false

/-! azulejo/azulejolaw01.Awake -/
def l01Awake  : Bool := fOf 3 == 196608
theorem l01Awake_p0  : evG Try.prog tabLc2 2000 23 [.k, .k, .k, .k, .k, .k] [] = some ([], .a (.bool (fOf 3 == 196608))) := by kernel_rfl
def l01Awake_c : Con
  | [] => some ([], .a (.bool (l01Awake )))
  | _ => none
theorem l01Awake_ok : PureOK Try.prog 23 l01Awake_c := by
  intro args obs lv h ho φ vs w ha
  unfold l01Awake_c at h
  split at h
  · simp only [Option.some.injEq, Prod.mk.injEq] at h
    obtain ⟨rfl, rfl⟩ := h
    have e := evG_wp tabLc2_ok follows (l01Awake_p0 ) trivial φ vs w ha
    simpa only [l01Awake] using e
  · cases h
theorem l01Awake_en : Enters Try.prog 23 := fun args => by kernel_rfl

def tabLd : Tab := (23, l01Awake_c) :: tabLc2
theorem tabLd_ok : TOK Try.prog tabLd := TOK.cons l01Awake_en l01Awake_ok (tabLc2_ok)

end Go.Proofs.Ythgjacfikicgnaa
