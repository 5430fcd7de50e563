/-
  Contracts of functions of the program, each run on the local memory (printed by a program of this session's own: wip/tools).
-/
import Derived.Test.YthgjacfikicgnaaLo
namespace Go.Proofs.Ythgjacfikicgnaa
open Go Go.RowKit Go.Proofs.Ythgjacfikicgnaa.K
set_option linter.unusedVariables false

/-! (azulejo/vec.Vec).Add -/
def vAdd_0 (x0_0 : Int) (x0_1 : Int) (x0_2 : Int) (x0_3 : Int) (x1_0 : Int) (x1_1 : Int) (x1_2 : Int) (x1_3 : Int) : Int := vEachAdd_0 x0_0 x0_1 x0_2 x0_3 x1_0 x1_1 x1_2 x1_3
def vAdd_1 (x0_0 : Int) (x0_1 : Int) (x0_2 : Int) (x0_3 : Int) (x1_0 : Int) (x1_1 : Int) (x1_2 : Int) (x1_3 : Int) : Int := vEachAdd_1 x0_0 x0_1 x0_2 x0_3 x1_0 x1_1 x1_2 x1_3
def vAdd_2 (x0_0 : Int) (x0_1 : Int) (x0_2 : Int) (x0_3 : Int) (x1_0 : Int) (x1_1 : Int) (x1_2 : Int) (x1_3 : Int) : Int := vEachAdd_2 x0_0 x0_1 x0_2 x0_3 x1_0 x1_1 x1_2 x1_3
def vAdd_3 (x0_0 : Int) (x0_1 : Int) (x0_2 : Int) (x0_3 : Int) (x1_0 : Int) (x1_1 : Int) (x1_2 : Int) (x1_3 : Int) : Int := vEachAdd_3 x0_0 x0_1 x0_2 x0_3 x1_0 x1_1 x1_2 x1_3
theorem vAdd_p0 (x0_0 : Int) (x0_1 : Int) (x0_2 : Int) (x0_3 : Int) (x1_0 : Int) (x1_1 : Int) (x1_2 : Int) (x1_3 : Int) : evG Try.prog tabLo 2000 72 [] [.g [.int .i64 x0_0, .int .i64 x0_1, .int .i64 x0_2, .int .i64 x0_3], .g [.int .i64 x1_0, .int .i64 x1_1, .int .i64 x1_2, .int .i64 x1_3]] = some ([], .g [.int .i64 (vEachAdd_0 x0_0 x0_1 x0_2 x0_3 x1_0 x1_1 x1_2 x1_3), .int .i64 (vEachAdd_1 x0_0 x0_1 x0_2 x0_3 x1_0 x1_1 x1_2 x1_3), .int .i64 (vEachAdd_2 x0_0 x0_1 x0_2 x0_3 x1_0 x1_1 x1_2 x1_3), .int .i64 (vEachAdd_3 x0_0 x0_1 x0_2 x0_3 x1_0 x1_1 x1_2 x1_3)]) := by kernel_rfl
def vAdd_c : Con
  | [.g [.int .i64 x0_0, .int .i64 x0_1, .int .i64 x0_2, .int .i64 x0_3], .g [.int .i64 x1_0, .int .i64 x1_1, .int .i64 x1_2, .int .i64 x1_3]] => some ([], .g [.int .i64 (vAdd_0 x0_0 x0_1 x0_2 x0_3 x1_0 x1_1 x1_2 x1_3), .int .i64 (vAdd_1 x0_0 x0_1 x0_2 x0_3 x1_0 x1_1 x1_2 x1_3), .int .i64 (vAdd_2 x0_0 x0_1 x0_2 x0_3 x1_0 x1_1 x1_2 x1_3), .int .i64 (vAdd_3 x0_0 x0_1 x0_2 x0_3 x1_0 x1_1 x1_2 x1_3)])
  | _ => none
theorem vAdd_ok : PureOK Try.prog 72 vAdd_c := by
  intro args obs lv h ho φ vs w ha
  unfold vAdd_c at h
  split at h
  · simp only [Option.some.injEq, Prod.mk.injEq] at h
    obtain ⟨rfl, rfl⟩ := h
    rename_i x0_0 x0_1 x0_2 x0_3 x1_0 x1_1 x1_2 x1_3
    have e := evG_wp tabLo_ok follows (vAdd_p0 x0_0 x0_1 x0_2 x0_3 x1_0 x1_1 x1_2 x1_3) trivial φ vs w ha
    simpa only [vAdd_0, vAdd_1, vAdd_2, vAdd_3] using e
  · cases h
theorem vAdd_en : Enters Try.prog 72 := fun args => by kernel_rfl

/-! (azulejo/vec.Vec).Sub -/
def vSub_0 (x0_0 : Int) (x0_1 : Int) (x0_2 : Int) (x0_3 : Int) (x1_0 : Int) (x1_1 : Int) (x1_2 : Int) (x1_3 : Int) : Int := vEachSub_0 x0_0 x0_1 x0_2 x0_3 x1_0 x1_1 x1_2 x1_3
def vSub_1 (x0_0 : Int) (x0_1 : Int) (x0_2 : Int) (x0_3 : Int) (x1_0 : Int) (x1_1 : Int) (x1_2 : Int) (x1_3 : Int) : Int := vEachSub_1 x0_0 x0_1 x0_2 x0_3 x1_0 x1_1 x1_2 x1_3
def vSub_2 (x0_0 : Int) (x0_1 : Int) (x0_2 : Int) (x0_3 : Int) (x1_0 : Int) (x1_1 : Int) (x1_2 : Int) (x1_3 : Int) : Int := vEachSub_2 x0_0 x0_1 x0_2 x0_3 x1_0 x1_1 x1_2 x1_3
def vSub_3 (x0_0 : Int) (x0_1 : Int) (x0_2 : Int) (x0_3 : Int) (x1_0 : Int) (x1_1 : Int) (x1_2 : Int) (x1_3 : Int) : Int := vEachSub_3 x0_0 x0_1 x0_2 x0_3 x1_0 x1_1 x1_2 x1_3
theorem vSub_p0 (x0_0 : Int) (x0_1 : Int) (x0_2 : Int) (x0_3 : Int) (x1_0 : Int) (x1_1 : Int) (x1_2 : Int) (x1_3 : Int) : evG Try.prog tabLo 2000 73 [] [.g [.int .i64 x0_0, .int .i64 x0_1, .int .i64 x0_2, .int .i64 x0_3], .g [.int .i64 x1_0, .int .i64 x1_1, .int .i64 x1_2, .int .i64 x1_3]] = some ([], .g [.int .i64 (vEachSub_0 x0_0 x0_1 x0_2 x0_3 x1_0 x1_1 x1_2 x1_3), .int .i64 (vEachSub_1 x0_0 x0_1 x0_2 x0_3 x1_0 x1_1 x1_2 x1_3), .int .i64 (vEachSub_2 x0_0 x0_1 x0_2 x0_3 x1_0 x1_1 x1_2 x1_3), .int .i64 (vEachSub_3 x0_0 x0_1 x0_2 x0_3 x1_0 x1_1 x1_2 x1_3)]) := by kernel_rfl
def vSub_c : Con
  | [.g [.int .i64 x0_0, .int .i64 x0_1, .int .i64 x0_2, .int .i64 x0_3], .g [.int .i64 x1_0, .int .i64 x1_1, .int .i64 x1_2, .int .i64 x1_3]] => some ([], .g [.int .i64 (vSub_0 x0_0 x0_1 x0_2 x0_3 x1_0 x1_1 x1_2 x1_3), .int .i64 (vSub_1 x0_0 x0_1 x0_2 x0_3 x1_0 x1_1 x1_2 x1_3), .int .i64 (vSub_2 x0_0 x0_1 x0_2 x0_3 x1_0 x1_1 x1_2 x1_3), .int .i64 (vSub_3 x0_0 x0_1 x0_2 x0_3 x1_0 x1_1 x1_2 x1_3)])
  | _ => none
theorem vSub_ok : PureOK Try.prog 73 vSub_c := by
  intro args obs lv h ho φ vs w ha
  unfold vSub_c at h
  split at h
  · simp only [Option.some.injEq, Prod.mk.injEq] at h
    obtain ⟨rfl, rfl⟩ := h
    rename_i x0_0 x0_1 x0_2 x0_3 x1_0 x1_1 x1_2 x1_3
    have e := evG_wp tabLo_ok follows (vSub_p0 x0_0 x0_1 x0_2 x0_3 x1_0 x1_1 x1_2 x1_3) trivial φ vs w ha
    simpa only [vSub_0, vSub_1, vSub_2, vSub_3] using e
  · cases h
theorem vSub_en : Enters Try.prog 73 := fun args => by kernel_rfl

/-! (azulejo/vec.Vec).Mul -/
def vMul_0 (x0_0 : Int) (x0_1 : Int) (x0_2 : Int) (x0_3 : Int) (x1_0 : Int) (x1_1 : Int) (x1_2 : Int) (x1_3 : Int) : Int := vEachMul_0 x0_0 x0_1 x0_2 x0_3 x1_0 x1_1 x1_2 x1_3
def vMul_1 (x0_0 : Int) (x0_1 : Int) (x0_2 : Int) (x0_3 : Int) (x1_0 : Int) (x1_1 : Int) (x1_2 : Int) (x1_3 : Int) : Int := vEachMul_1 x0_0 x0_1 x0_2 x0_3 x1_0 x1_1 x1_2 x1_3
def vMul_2 (x0_0 : Int) (x0_1 : Int) (x0_2 : Int) (x0_3 : Int) (x1_0 : Int) (x1_1 : Int) (x1_2 : Int) (x1_3 : Int) : Int := vEachMul_2 x0_0 x0_1 x0_2 x0_3 x1_0 x1_1 x1_2 x1_3
def vMul_3 (x0_0 : Int) (x0_1 : Int) (x0_2 : Int) (x0_3 : Int) (x1_0 : Int) (x1_1 : Int) (x1_2 : Int) (x1_3 : Int) : Int := vEachMul_3 x0_0 x0_1 x0_2 x0_3 x1_0 x1_1 x1_2 x1_3
theorem vMul_p0 (x0_0 : Int) (x0_1 : Int) (x0_2 : Int) (x0_3 : Int) (x1_0 : Int) (x1_1 : Int) (x1_2 : Int) (x1_3 : Int) : evG Try.prog tabLo 2000 75 [] [.g [.int .i64 x0_0, .int .i64 x0_1, .int .i64 x0_2, .int .i64 x0_3], .g [.int .i64 x1_0, .int .i64 x1_1, .int .i64 x1_2, .int .i64 x1_3]] = some ([], .g [.int .i64 (vEachMul_0 x0_0 x0_1 x0_2 x0_3 x1_0 x1_1 x1_2 x1_3), .int .i64 (vEachMul_1 x0_0 x0_1 x0_2 x0_3 x1_0 x1_1 x1_2 x1_3), .int .i64 (vEachMul_2 x0_0 x0_1 x0_2 x0_3 x1_0 x1_1 x1_2 x1_3), .int .i64 (vEachMul_3 x0_0 x0_1 x0_2 x0_3 x1_0 x1_1 x1_2 x1_3)]) := by kernel_rfl
def vMul_c : Con
  | [.g [.int .i64 x0_0, .int .i64 x0_1, .int .i64 x0_2, .int .i64 x0_3], .g [.int .i64 x1_0, .int .i64 x1_1, .int .i64 x1_2, .int .i64 x1_3]] => some ([], .g [.int .i64 (vMul_0 x0_0 x0_1 x0_2 x0_3 x1_0 x1_1 x1_2 x1_3), .int .i64 (vMul_1 x0_0 x0_1 x0_2 x0_3 x1_0 x1_1 x1_2 x1_3), .int .i64 (vMul_2 x0_0 x0_1 x0_2 x0_3 x1_0 x1_1 x1_2 x1_3), .int .i64 (vMul_3 x0_0 x0_1 x0_2 x0_3 x1_0 x1_1 x1_2 x1_3)])
  | _ => none
theorem vMul_ok : PureOK Try.prog 75 vMul_c := by
  intro args obs lv h ho φ vs w ha
  unfold vMul_c at h
  split at h
  · simp only [Option.some.injEq, Prod.mk.injEq] at h
    obtain ⟨rfl, rfl⟩ := h
    rename_i x0_0 x0_1 x0_2 x0_3 x1_0 x1_1 x1_2 x1_3
    have e := evG_wp tabLo_ok follows (vMul_p0 x0_0 x0_1 x0_2 x0_3 x1_0 x1_1 x1_2 x1_3) trivial φ vs w ha
    simpa only [vMul_0, vMul_1, vMul_2, vMul_3] using e
  · cases h
theorem vMul_en : Enters Try.prog 75 := fun args => by kernel_rfl

/-! (azulejo/vec.Vec).Min -/
def vMin_0 (x0_0 : Int) (x0_1 : Int) (x0_2 : Int) (x0_3 : Int) (x1_0 : Int) (x1_1 : Int) (x1_2 : Int) (x1_3 : Int) : Int := vEachMin_0 x0_0 x0_1 x0_2 x0_3 x1_0 x1_1 x1_2 x1_3
def vMin_1 (x0_0 : Int) (x0_1 : Int) (x0_2 : Int) (x0_3 : Int) (x1_0 : Int) (x1_1 : Int) (x1_2 : Int) (x1_3 : Int) : Int := vEachMin_1 x0_0 x0_1 x0_2 x0_3 x1_0 x1_1 x1_2 x1_3
def vMin_2 (x0_0 : Int) (x0_1 : Int) (x0_2 : Int) (x0_3 : Int) (x1_0 : Int) (x1_1 : Int) (x1_2 : Int) (x1_3 : Int) : Int := vEachMin_2 x0_0 x0_1 x0_2 x0_3 x1_0 x1_1 x1_2 x1_3
def vMin_3 (x0_0 : Int) (x0_1 : Int) (x0_2 : Int) (x0_3 : Int) (x1_0 : Int) (x1_1 : Int) (x1_2 : Int) (x1_3 : Int) : Int := vEachMin_3 x0_0 x0_1 x0_2 x0_3 x1_0 x1_1 x1_2 x1_3
theorem vMin_p0 (x0_0 : Int) (x0_1 : Int) (x0_2 : Int) (x0_3 : Int) (x1_0 : Int) (x1_1 : Int) (x1_2 : Int) (x1_3 : Int) : evG Try.prog tabLo 2000 70 [] [.g [.int .i64 x0_0, .int .i64 x0_1, .int .i64 x0_2, .int .i64 x0_3], .g [.int .i64 x1_0, .int .i64 x1_1, .int .i64 x1_2, .int .i64 x1_3]] = some ([], .g [.int .i64 (vEachMin_0 x0_0 x0_1 x0_2 x0_3 x1_0 x1_1 x1_2 x1_3), .int .i64 (vEachMin_1 x0_0 x0_1 x0_2 x0_3 x1_0 x1_1 x1_2 x1_3), .int .i64 (vEachMin_2 x0_0 x0_1 x0_2 x0_3 x1_0 x1_1 x1_2 x1_3), .int .i64 (vEachMin_3 x0_0 x0_1 x0_2 x0_3 x1_0 x1_1 x1_2 x1_3)]) := by kernel_rfl
def vMin_c : Con
  | [.g [.int .i64 x0_0, .int .i64 x0_1, .int .i64 x0_2, .int .i64 x0_3], .g [.int .i64 x1_0, .int .i64 x1_1, .int .i64 x1_2, .int .i64 x1_3]] => some ([], .g [.int .i64 (vMin_0 x0_0 x0_1 x0_2 x0_3 x1_0 x1_1 x1_2 x1_3), .int .i64 (vMin_1 x0_0 x0_1 x0_2 x0_3 x1_0 x1_1 x1_2 x1_3), .int .i64 (vMin_2 x0_0 x0_1 x0_2 x0_3 x1_0 x1_1 x1_2 x1_3), .int .i64 (vMin_3 x0_0 x0_1 x0_2 x0_3 x1_0 x1_1 x1_2 x1_3)])
  | _ => none
theorem vMin_ok : PureOK Try.prog 70 vMin_c := by
  intro args obs lv h ho φ vs w ha
  unfold vMin_c at h
  split at h
  · simp only [Option.some.injEq, Prod.mk.injEq] at h
    obtain ⟨rfl, rfl⟩ := h
    rename_i x0_0 x0_1 x0_2 x0_3 x1_0 x1_1 x1_2 x1_3
    have e := evG_wp tabLo_ok follows (vMin_p0 x0_0 x0_1 x0_2 x0_3 x1_0 x1_1 x1_2 x1_3) trivial φ vs w ha
    simpa only [vMin_0, vMin_1, vMin_2, vMin_3] using e
  · cases h
theorem vMin_en : Enters Try.prog 70 := fun args => by kernel_rfl

/-! (azulejo/vec.Vec).Max -/
def vMax_0 (x0_0 : Int) (x0_1 : Int) (x0_2 : Int) (x0_3 : Int) (x1_0 : Int) (x1_1 : Int) (x1_2 : Int) (x1_3 : Int) : Int := vEachMax_0 x0_0 x0_1 x0_2 x0_3 x1_0 x1_1 x1_2 x1_3
def vMax_1 (x0_0 : Int) (x0_1 : Int) (x0_2 : Int) (x0_3 : Int) (x1_0 : Int) (x1_1 : Int) (x1_2 : Int) (x1_3 : Int) : Int := vEachMax_1 x0_0 x0_1 x0_2 x0_3 x1_0 x1_1 x1_2 x1_3
def vMax_2 (x0_0 : Int) (x0_1 : Int) (x0_2 : Int) (x0_3 : Int) (x1_0 : Int) (x1_1 : Int) (x1_2 : Int) (x1_3 : Int) : Int := vEachMax_2 x0_0 x0_1 x0_2 x0_3 x1_0 x1_1 x1_2 x1_3
def vMax_3 (x0_0 : Int) (x0_1 : Int) (x0_2 : Int) (x0_3 : Int) (x1_0 : Int) (x1_1 : Int) (x1_2 : Int) (x1_3 : Int) : Int := vEachMax_3 x0_0 x0_1 x0_2 x0_3 x1_0 x1_1 x1_2 x1_3
theorem vMax_p0 (x0_0 : Int) (x0_1 : Int) (x0_2 : Int) (x0_3 : Int) (x1_0 : Int) (x1_1 : Int) (x1_2 : Int) (x1_3 : Int) : evG Try.prog tabLo 2000 71 [] [.g [.int .i64 x0_0, .int .i64 x0_1, .int .i64 x0_2, .int .i64 x0_3], .g [.int .i64 x1_0, .int .i64 x1_1, .int .i64 x1_2, .int .i64 x1_3]] = some ([], .g [.int .i64 (vEachMax_0 x0_0 x0_1 x0_2 x0_3 x1_0 x1_1 x1_2 x1_3), .int .i64 (vEachMax_1 x0_0 x0_1 x0_2 x0_3 x1_0 x1_1 x1_2 x1_3), .int .i64 (vEachMax_2 x0_0 x0_1 x0_2 x0_3 x1_0 x1_1 x1_2 x1_3), .int .i64 (vEachMax_3 x0_0 x0_1 x0_2 x0_3 x1_0 x1_1 x1_2 x1_3)]) := by kernel_rfl
def vMax_c : Con
  | [.g [.int .i64 x0_0, .int .i64 x0_1, .int .i64 x0_2, .int .i64 x0_3], .g [.int .i64 x1_0, .int .i64 x1_1, .int .i64 x1_2, .int .i64 x1_3]] => some ([], .g [.int .i64 (vMax_0 x0_0 x0_1 x0_2 x0_3 x1_0 x1_1 x1_2 x1_3), .int .i64 (vMax_1 x0_0 x0_1 x0_2 x0_3 x1_0 x1_1 x1_2 x1_3), .int .i64 (vMax_2 x0_0 x0_1 x0_2 x0_3 x1_0 x1_1 x1_2 x1_3), .int .i64 (vMax_3 x0_0 x0_1 x0_2 x0_3 x1_0 x1_1 x1_2 x1_3)])
  | _ => none
theorem vMax_ok : PureOK Try.prog 71 vMax_c := by
  intro args obs lv h ho φ vs w ha
  unfold vMax_c at h
  split at h
  · simp only [Option.some.injEq, Prod.mk.injEq] at h
    obtain ⟨rfl, rfl⟩ := h
    rename_i x0_0 x0_1 x0_2 x0_3 x1_0 x1_1 x1_2 x1_3
    have e := evG_wp tabLo_ok follows (vMax_p0 x0_0 x0_1 x0_2 x0_3 x1_0 x1_1 x1_2 x1_3) trivial φ vs w ha
    simpa only [vMax_0, vMax_1, vMax_2, vMax_3] using e
  · cases h
theorem vMax_en : Enters Try.prog 71 := fun args => by kernel_rfl

def tabLp : Tab := (72, vAdd_c) :: (73, vSub_c) :: (75, vMul_c) :: (70, vMin_c) :: (71, vMax_c) :: tabLo
theorem tabLp_ok : TOK Try.prog tabLp := TOK.cons vAdd_en vAdd_ok (TOK.cons vSub_en vSub_ok (TOK.cons vMul_en vMul_ok (TOK.cons vMin_en vMin_ok (TOK.cons vMax_en vMax_ok (tabLo_ok)))))

end Go.Proofs.Ythgjacfikicgnaa
