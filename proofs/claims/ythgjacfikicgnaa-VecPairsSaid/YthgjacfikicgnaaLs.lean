/-
  Contracts of functions of the program, each run on the local memory (printed by a program of this session's own: wip/tools).
-/
import Derived.Test.YthgjacfikicgnaaLr
namespace Go.Proofs.Ythgjacfikicgnaa
open Go Go.RowKit Go.Proofs.Ythgjacfikicgnaa.K
set_option linter.unusedVariables false

/-! (azulejo/vec.Mat).Times -/
def vTimes_0 (x0_0 : Int) (x0_1 : Int) (x0_2 : Int) (x0_3 : Int) (x0_4 : Int) (x0_5 : Int) (x0_6 : Int) (x0_7 : Int) (x0_8 : Int) (x0_9 : Int) (x0_10 : Int) (x0_11 : Int) (x0_12 : Int) (x0_13 : Int) (x0_14 : Int) (x0_15 : Int) (x1_0 : Int) (x1_1 : Int) (x1_2 : Int) (x1_3 : Int) : Int := vDot x0_0 x0_1 x0_2 x0_3 x1_0 x1_1 x1_2 x1_3
def vTimes_1 (x0_0 : Int) (x0_1 : Int) (x0_2 : Int) (x0_3 : Int) (x0_4 : Int) (x0_5 : Int) (x0_6 : Int) (x0_7 : Int) (x0_8 : Int) (x0_9 : Int) (x0_10 : Int) (x0_11 : Int) (x0_12 : Int) (x0_13 : Int) (x0_14 : Int) (x0_15 : Int) (x1_0 : Int) (x1_1 : Int) (x1_2 : Int) (x1_3 : Int) : Int := vDot x0_4 x0_5 x0_6 x0_7 x1_0 x1_1 x1_2 x1_3
def vTimes_2 (x0_0 : Int) (x0_1 : Int) (x0_2 : Int) (x0_3 : Int) (x0_4 : Int) (x0_5 : Int) (x0_6 : Int) (x0_7 : Int) (x0_8 : Int) (x0_9 : Int) (x0_10 : Int) (x0_11 : Int) (x0_12 : Int) (x0_13 : Int) (x0_14 : Int) (x0_15 : Int) (x1_0 : Int) (x1_1 : Int) (x1_2 : Int) (x1_3 : Int) : Int := vDot x0_8 x0_9 x0_10 x0_11 x1_0 x1_1 x1_2 x1_3
def vTimes_3 (x0_0 : Int) (x0_1 : Int) (x0_2 : Int) (x0_3 : Int) (x0_4 : Int) (x0_5 : Int) (x0_6 : Int) (x0_7 : Int) (x0_8 : Int) (x0_9 : Int) (x0_10 : Int) (x0_11 : Int) (x0_12 : Int) (x0_13 : Int) (x0_14 : Int) (x0_15 : Int) (x1_0 : Int) (x1_1 : Int) (x1_2 : Int) (x1_3 : Int) : Int := vDot x0_12 x0_13 x0_14 x0_15 x1_0 x1_1 x1_2 x1_3
theorem vTimes_p0 (x0_0 : Int) (x0_1 : Int) (x0_2 : Int) (x0_3 : Int) (x0_4 : Int) (x0_5 : Int) (x0_6 : Int) (x0_7 : Int) (x0_8 : Int) (x0_9 : Int) (x0_10 : Int) (x0_11 : Int) (x0_12 : Int) (x0_13 : Int) (x0_14 : Int) (x0_15 : Int) (x1_0 : Int) (x1_1 : Int) (x1_2 : Int) (x1_3 : Int) : evG Try.prog tabLr 2000 64 [.k, .k, .k, .k] [.g [.int .i64 x0_0, .int .i64 x0_1, .int .i64 x0_2, .int .i64 x0_3, .int .i64 x0_4, .int .i64 x0_5, .int .i64 x0_6, .int .i64 x0_7, .int .i64 x0_8, .int .i64 x0_9, .int .i64 x0_10, .int .i64 x0_11, .int .i64 x0_12, .int .i64 x0_13, .int .i64 x0_14, .int .i64 x0_15], .g [.int .i64 x1_0, .int .i64 x1_1, .int .i64 x1_2, .int .i64 x1_3]] = some ([], .g [.int .i64 (vDot x0_0 x0_1 x0_2 x0_3 x1_0 x1_1 x1_2 x1_3), .int .i64 (vDot x0_4 x0_5 x0_6 x0_7 x1_0 x1_1 x1_2 x1_3), .int .i64 (vDot x0_8 x0_9 x0_10 x0_11 x1_0 x1_1 x1_2 x1_3), .int .i64 (vDot x0_12 x0_13 x0_14 x0_15 x1_0 x1_1 x1_2 x1_3)]) := by kernel_rfl
def vTimes_c : Con
  | [.g [.int .i64 x0_0, .int .i64 x0_1, .int .i64 x0_2, .int .i64 x0_3, .int .i64 x0_4, .int .i64 x0_5, .int .i64 x0_6, .int .i64 x0_7, .int .i64 x0_8, .int .i64 x0_9, .int .i64 x0_10, .int .i64 x0_11, .int .i64 x0_12, .int .i64 x0_13, .int .i64 x0_14, .int .i64 x0_15], .g [.int .i64 x1_0, .int .i64 x1_1, .int .i64 x1_2, .int .i64 x1_3]] => some ([], .g [.int .i64 (vTimes_0 x0_0 x0_1 x0_2 x0_3 x0_4 x0_5 x0_6 x0_7 x0_8 x0_9 x0_10 x0_11 x0_12 x0_13 x0_14 x0_15 x1_0 x1_1 x1_2 x1_3), .int .i64 (vTimes_1 x0_0 x0_1 x0_2 x0_3 x0_4 x0_5 x0_6 x0_7 x0_8 x0_9 x0_10 x0_11 x0_12 x0_13 x0_14 x0_15 x1_0 x1_1 x1_2 x1_3), .int .i64 (vTimes_2 x0_0 x0_1 x0_2 x0_3 x0_4 x0_5 x0_6 x0_7 x0_8 x0_9 x0_10 x0_11 x0_12 x0_13 x0_14 x0_15 x1_0 x1_1 x1_2 x1_3), .int .i64 (vTimes_3 x0_0 x0_1 x0_2 x0_3 x0_4 x0_5 x0_6 x0_7 x0_8 x0_9 x0_10 x0_11 x0_12 x0_13 x0_14 x0_15 x1_0 x1_1 x1_2 x1_3)])
  | _ => none
theorem vTimes_ok : PureOK Try.prog 64 vTimes_c := by
  intro args obs lv h ho φ vs w ha
  unfold vTimes_c at h
  split at h
  · simp only [Option.some.injEq, Prod.mk.injEq] at h
    obtain ⟨rfl, rfl⟩ := h
    rename_i x0_0 x0_1 x0_2 x0_3 x0_4 x0_5 x0_6 x0_7 x0_8 x0_9 x0_10 x0_11 x0_12 x0_13 x0_14 x0_15 x1_0 x1_1 x1_2 x1_3
    have e := evG_wp tabLr_ok follows (vTimes_p0 x0_0 x0_1 x0_2 x0_3 x0_4 x0_5 x0_6 x0_7 x0_8 x0_9 x0_10 x0_11 x0_12 x0_13 x0_14 x0_15 x1_0 x1_1 x1_2 x1_3) trivial φ vs w ha
    simpa only [vTimes_0, vTimes_1, vTimes_2, vTimes_3] using e
  · cases h
theorem vTimes_en : Enters Try.prog 64 := fun args => by kernel_rfl

def tabLs : Tab := (64, vTimes_c) :: tabLr
theorem tabLs_ok : TOK Try.prog tabLs := TOK.cons vTimes_en vTimes_ok (tabLr_ok)

end Go.Proofs.Ythgjacfikicgnaa
