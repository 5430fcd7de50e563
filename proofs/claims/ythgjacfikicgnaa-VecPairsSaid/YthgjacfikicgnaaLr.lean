/-
  Contracts of functions of the program, each run on the local memory (printed by a program of this session's own: wip/tools).
-/
import Derived.Test.YthgjacfikicgnaaLp
namespace Go.Proofs.Ythgjacfikicgnaa
open Go Go.RowKit Go.Proofs.Ythgjacfikicgnaa.K
set_option linter.unusedVariables false

/-! (azulejo/vec.Vec).Dot -/
def vDot (x0_0 : Int) (x0_1 : Int) (x0_2 : Int) (x0_3 : Int) (x1_0 : Int) (x1_1 : Int) (x1_2 : Int) (x1_3 : Int) : Int := fAdd (fAdd (fAdd (fAdd 0 (vMul_0 x0_0 x0_1 x0_2 x0_3 x1_0 x1_1 x1_2 x1_3)) (vMul_1 x0_0 x0_1 x0_2 x0_3 x1_0 x1_1 x1_2 x1_3)) (vMul_2 x0_0 x0_1 x0_2 x0_3 x1_0 x1_1 x1_2 x1_3)) (vMul_3 x0_0 x0_1 x0_2 x0_3 x1_0 x1_1 x1_2 x1_3)
theorem vDot_p0 (x0_0 : Int) (x0_1 : Int) (x0_2 : Int) (x0_3 : Int) (x1_0 : Int) (x1_1 : Int) (x1_2 : Int) (x1_3 : Int) : evG Try.prog tabLp 2000 68 [.k, .k, .k, .k, .k, .k, .k, .k, .k] [.g [.int .i64 x0_0, .int .i64 x0_1, .int .i64 x0_2, .int .i64 x0_3], .g [.int .i64 x1_0, .int .i64 x1_1, .int .i64 x1_2, .int .i64 x1_3]] = some ([], .a (.int .i64 (fAdd (fAdd (fAdd (fAdd 0 (vMul_0 x0_0 x0_1 x0_2 x0_3 x1_0 x1_1 x1_2 x1_3)) (vMul_1 x0_0 x0_1 x0_2 x0_3 x1_0 x1_1 x1_2 x1_3)) (vMul_2 x0_0 x0_1 x0_2 x0_3 x1_0 x1_1 x1_2 x1_3)) (vMul_3 x0_0 x0_1 x0_2 x0_3 x1_0 x1_1 x1_2 x1_3)))) := by kernel_rfl
def vDot_c : Con
  | [.g [.int .i64 x0_0, .int .i64 x0_1, .int .i64 x0_2, .int .i64 x0_3], .g [.int .i64 x1_0, .int .i64 x1_1, .int .i64 x1_2, .int .i64 x1_3]] => some ([], .a (.int .i64 (vDot x0_0 x0_1 x0_2 x0_3 x1_0 x1_1 x1_2 x1_3)))
  | _ => none
theorem vDot_ok : PureOK Try.prog 68 vDot_c := by
  intro args obs lv h ho φ vs w ha
  unfold vDot_c at h
  split at h
  · simp only [Option.some.injEq, Prod.mk.injEq] at h
    obtain ⟨rfl, rfl⟩ := h
    rename_i x0_0 x0_1 x0_2 x0_3 x1_0 x1_1 x1_2 x1_3
    have e := evG_wp tabLp_ok follows (vDot_p0 x0_0 x0_1 x0_2 x0_3 x1_0 x1_1 x1_2 x1_3) trivial φ vs w ha
    simpa only [vDot] using e
  · cases h
theorem vDot_en : Enters Try.prog 68 := fun args => by kernel_rfl

/-! (azulejo/vec.Vec).Scale -/
def vScale_0 (x0_0 : Int) (x0_1 : Int) (x0_2 : Int) (x0_3 : Int) (x1 : Int) : Int := vMul_0 x0_0 x0_1 x0_2 x0_3 x1 x1 x1 x1
def vScale_1 (x0_0 : Int) (x0_1 : Int) (x0_2 : Int) (x0_3 : Int) (x1 : Int) : Int := vMul_1 x0_0 x0_1 x0_2 x0_3 x1 x1 x1 x1
def vScale_2 (x0_0 : Int) (x0_1 : Int) (x0_2 : Int) (x0_3 : Int) (x1 : Int) : Int := vMul_2 x0_0 x0_1 x0_2 x0_3 x1 x1 x1 x1
def vScale_3 (x0_0 : Int) (x0_1 : Int) (x0_2 : Int) (x0_3 : Int) (x1 : Int) : Int := vMul_3 x0_0 x0_1 x0_2 x0_3 x1 x1 x1 x1
theorem vScale_p0 (x0_0 : Int) (x0_1 : Int) (x0_2 : Int) (x0_3 : Int) (x1 : Int) : evG Try.prog tabLp 2000 69 [] [.g [.int .i64 x0_0, .int .i64 x0_1, .int .i64 x0_2, .int .i64 x0_3], .a (.int .i64 x1)] = some ([], .g [.int .i64 (vMul_0 x0_0 x0_1 x0_2 x0_3 x1 x1 x1 x1), .int .i64 (vMul_1 x0_0 x0_1 x0_2 x0_3 x1 x1 x1 x1), .int .i64 (vMul_2 x0_0 x0_1 x0_2 x0_3 x1 x1 x1 x1), .int .i64 (vMul_3 x0_0 x0_1 x0_2 x0_3 x1 x1 x1 x1)]) := by kernel_rfl
def vScale_c : Con
  | [.g [.int .i64 x0_0, .int .i64 x0_1, .int .i64 x0_2, .int .i64 x0_3], .a (.int .i64 x1)] => some ([], .g [.int .i64 (vScale_0 x0_0 x0_1 x0_2 x0_3 x1), .int .i64 (vScale_1 x0_0 x0_1 x0_2 x0_3 x1), .int .i64 (vScale_2 x0_0 x0_1 x0_2 x0_3 x1), .int .i64 (vScale_3 x0_0 x0_1 x0_2 x0_3 x1)])
  | _ => none
theorem vScale_ok : PureOK Try.prog 69 vScale_c := by
  intro args obs lv h ho φ vs w ha
  unfold vScale_c at h
  split at h
  · simp only [Option.some.injEq, Prod.mk.injEq] at h
    obtain ⟨rfl, rfl⟩ := h
    rename_i x0_0 x0_1 x0_2 x0_3 x1
    have e := evG_wp tabLp_ok follows (vScale_p0 x0_0 x0_1 x0_2 x0_3 x1) trivial φ vs w ha
    simpa only [vScale_0, vScale_1, vScale_2, vScale_3] using e
  · cases h
theorem vScale_en : Enters Try.prog 69 := fun args => by kernel_rfl

def tabLr : Tab := (68, vDot_c) :: (69, vScale_c) :: tabLp
theorem tabLr_ok : TOK Try.prog tabLr := TOK.cons vDot_en vDot_ok (TOK.cons vScale_en vScale_ok (tabLp_ok))

end Go.Proofs.Ythgjacfikicgnaa
