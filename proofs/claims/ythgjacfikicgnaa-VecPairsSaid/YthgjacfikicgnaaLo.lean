/-
  Contracts of functions of the program, each run on the local memory (printed by a program of this session's own: wip/tools).
-/
import Derived.Test.YthgjacfikicgnaaLg
namespace Go.Proofs.Ythgjacfikicgnaa
open Go Go.RowKit Go.Proofs.Ythgjacfikicgnaa.K
set_option linter.unusedVariables false

/-! azulejo/vec.each -/
def vEachAdd_0 (x0_0 : Int) (x0_1 : Int) (x0_2 : Int) (x0_3 : Int) (x1_0 : Int) (x1_1 : Int) (x1_2 : Int) (x1_3 : Int) : Int := fAdd x0_0 x1_0
def vEachAdd_1 (x0_0 : Int) (x0_1 : Int) (x0_2 : Int) (x0_3 : Int) (x1_0 : Int) (x1_1 : Int) (x1_2 : Int) (x1_3 : Int) : Int := fAdd x0_1 x1_1
def vEachAdd_2 (x0_0 : Int) (x0_1 : Int) (x0_2 : Int) (x0_3 : Int) (x1_0 : Int) (x1_1 : Int) (x1_2 : Int) (x1_3 : Int) : Int := fAdd x0_2 x1_2
def vEachAdd_3 (x0_0 : Int) (x0_1 : Int) (x0_2 : Int) (x0_3 : Int) (x1_0 : Int) (x1_1 : Int) (x1_2 : Int) (x1_3 : Int) : Int := fAdd x0_3 x1_3
theorem vEachAdd_p0 (x0_0 : Int) (x0_1 : Int) (x0_2 : Int) (x0_3 : Int) (x1_0 : Int) (x1_1 : Int) (x1_2 : Int) (x1_3 : Int) : evG Try.prog tabLg 2000 82 [.k, .k, .k, .k, .k, .k, .k, .k, .k, .k, .k, .k, .k, .k, .k, .k, .k] [.g [.int .i64 x0_0, .int .i64 x0_1, .int .i64 x0_2, .int .i64 x0_3], .g [.int .i64 x1_0, .int .i64 x1_1, .int .i64 x1_2, .int .i64 x1_3], .a (.fn 32 [])] = some ([], .g [.int .i64 (fAdd x0_0 x1_0), .int .i64 (fAdd x0_1 x1_1), .int .i64 (fAdd x0_2 x1_2), .int .i64 (fAdd x0_3 x1_3)]) := by kernel_rfl
def vEachAdd_c : Con
  | [.g [.int .i64 x0_0, .int .i64 x0_1, .int .i64 x0_2, .int .i64 x0_3], .g [.int .i64 x1_0, .int .i64 x1_1, .int .i64 x1_2, .int .i64 x1_3], .a (.fn 32 [])] => some ([], .g [.int .i64 (vEachAdd_0 x0_0 x0_1 x0_2 x0_3 x1_0 x1_1 x1_2 x1_3), .int .i64 (vEachAdd_1 x0_0 x0_1 x0_2 x0_3 x1_0 x1_1 x1_2 x1_3), .int .i64 (vEachAdd_2 x0_0 x0_1 x0_2 x0_3 x1_0 x1_1 x1_2 x1_3), .int .i64 (vEachAdd_3 x0_0 x0_1 x0_2 x0_3 x1_0 x1_1 x1_2 x1_3)])
  | _ => none
theorem vEachAdd_ok : PureOK Try.prog 82 vEachAdd_c := by
  intro args obs lv h ho φ vs w ha
  unfold vEachAdd_c at h
  split at h
  · simp only [Option.some.injEq, Prod.mk.injEq] at h
    obtain ⟨rfl, rfl⟩ := h
    rename_i x0_0 x0_1 x0_2 x0_3 x1_0 x1_1 x1_2 x1_3
    have e := evG_wp tabLg_ok follows (vEachAdd_p0 x0_0 x0_1 x0_2 x0_3 x1_0 x1_1 x1_2 x1_3) trivial φ vs w ha
    simpa only [vEachAdd_0, vEachAdd_1, vEachAdd_2, vEachAdd_3] using e
  · cases h
theorem vEachAdd_en : Enters Try.prog 82 := fun args => by kernel_rfl

/-! azulejo/vec.each -/
def vEachSub_0 (x0_0 : Int) (x0_1 : Int) (x0_2 : Int) (x0_3 : Int) (x1_0 : Int) (x1_1 : Int) (x1_2 : Int) (x1_3 : Int) : Int := fSub x0_0 x1_0
def vEachSub_1 (x0_0 : Int) (x0_1 : Int) (x0_2 : Int) (x0_3 : Int) (x1_0 : Int) (x1_1 : Int) (x1_2 : Int) (x1_3 : Int) : Int := fSub x0_1 x1_1
def vEachSub_2 (x0_0 : Int) (x0_1 : Int) (x0_2 : Int) (x0_3 : Int) (x1_0 : Int) (x1_1 : Int) (x1_2 : Int) (x1_3 : Int) : Int := fSub x0_2 x1_2
def vEachSub_3 (x0_0 : Int) (x0_1 : Int) (x0_2 : Int) (x0_3 : Int) (x1_0 : Int) (x1_1 : Int) (x1_2 : Int) (x1_3 : Int) : Int := fSub x0_3 x1_3
theorem vEachSub_p0 (x0_0 : Int) (x0_1 : Int) (x0_2 : Int) (x0_3 : Int) (x1_0 : Int) (x1_1 : Int) (x1_2 : Int) (x1_3 : Int) : evG Try.prog tabLg 2000 82 [.k, .k, .k, .k, .k, .k, .k, .k, .k, .k, .k, .k, .k, .k, .k, .k, .k] [.g [.int .i64 x0_0, .int .i64 x0_1, .int .i64 x0_2, .int .i64 x0_3], .g [.int .i64 x1_0, .int .i64 x1_1, .int .i64 x1_2, .int .i64 x1_3], .a (.fn 33 [])] = some ([], .g [.int .i64 (fSub x0_0 x1_0), .int .i64 (fSub x0_1 x1_1), .int .i64 (fSub x0_2 x1_2), .int .i64 (fSub x0_3 x1_3)]) := by kernel_rfl
def vEachSub_c : Con
  | [.g [.int .i64 x0_0, .int .i64 x0_1, .int .i64 x0_2, .int .i64 x0_3], .g [.int .i64 x1_0, .int .i64 x1_1, .int .i64 x1_2, .int .i64 x1_3], .a (.fn 33 [])] => some ([], .g [.int .i64 (vEachSub_0 x0_0 x0_1 x0_2 x0_3 x1_0 x1_1 x1_2 x1_3), .int .i64 (vEachSub_1 x0_0 x0_1 x0_2 x0_3 x1_0 x1_1 x1_2 x1_3), .int .i64 (vEachSub_2 x0_0 x0_1 x0_2 x0_3 x1_0 x1_1 x1_2 x1_3), .int .i64 (vEachSub_3 x0_0 x0_1 x0_2 x0_3 x1_0 x1_1 x1_2 x1_3)])
  | _ => none
theorem vEachSub_ok : PureOK Try.prog 82 vEachSub_c := by
  intro args obs lv h ho φ vs w ha
  unfold vEachSub_c at h
  split at h
  · simp only [Option.some.injEq, Prod.mk.injEq] at h
    obtain ⟨rfl, rfl⟩ := h
    rename_i x0_0 x0_1 x0_2 x0_3 x1_0 x1_1 x1_2 x1_3
    have e := evG_wp tabLg_ok follows (vEachSub_p0 x0_0 x0_1 x0_2 x0_3 x1_0 x1_1 x1_2 x1_3) trivial φ vs w ha
    simpa only [vEachSub_0, vEachSub_1, vEachSub_2, vEachSub_3] using e
  · cases h
theorem vEachSub_en : Enters Try.prog 82 := fun args => by kernel_rfl

/-! azulejo/vec.each -/
def vEachMul_0 (x0_0 : Int) (x0_1 : Int) (x0_2 : Int) (x0_3 : Int) (x1_0 : Int) (x1_1 : Int) (x1_2 : Int) (x1_3 : Int) : Int := fMul x0_0 x1_0
def vEachMul_1 (x0_0 : Int) (x0_1 : Int) (x0_2 : Int) (x0_3 : Int) (x1_0 : Int) (x1_1 : Int) (x1_2 : Int) (x1_3 : Int) : Int := fMul x0_1 x1_1
def vEachMul_2 (x0_0 : Int) (x0_1 : Int) (x0_2 : Int) (x0_3 : Int) (x1_0 : Int) (x1_1 : Int) (x1_2 : Int) (x1_3 : Int) : Int := fMul x0_2 x1_2
def vEachMul_3 (x0_0 : Int) (x0_1 : Int) (x0_2 : Int) (x0_3 : Int) (x1_0 : Int) (x1_1 : Int) (x1_2 : Int) (x1_3 : Int) : Int := fMul x0_3 x1_3
theorem vEachMul_p0 (x0_0 : Int) (x0_1 : Int) (x0_2 : Int) (x0_3 : Int) (x1_0 : Int) (x1_1 : Int) (x1_2 : Int) (x1_3 : Int) : evG Try.prog tabLg 2000 82 [.k, .k, .k, .k, .k, .k, .k, .k, .k, .k, .k, .k, .k, .k, .k, .k, .k] [.g [.int .i64 x0_0, .int .i64 x0_1, .int .i64 x0_2, .int .i64 x0_3], .g [.int .i64 x1_0, .int .i64 x1_1, .int .i64 x1_2, .int .i64 x1_3], .a (.fn 34 [])] = some ([], .g [.int .i64 (fMul x0_0 x1_0), .int .i64 (fMul x0_1 x1_1), .int .i64 (fMul x0_2 x1_2), .int .i64 (fMul x0_3 x1_3)]) := by kernel_rfl
def vEachMul_c : Con
  | [.g [.int .i64 x0_0, .int .i64 x0_1, .int .i64 x0_2, .int .i64 x0_3], .g [.int .i64 x1_0, .int .i64 x1_1, .int .i64 x1_2, .int .i64 x1_3], .a (.fn 34 [])] => some ([], .g [.int .i64 (vEachMul_0 x0_0 x0_1 x0_2 x0_3 x1_0 x1_1 x1_2 x1_3), .int .i64 (vEachMul_1 x0_0 x0_1 x0_2 x0_3 x1_0 x1_1 x1_2 x1_3), .int .i64 (vEachMul_2 x0_0 x0_1 x0_2 x0_3 x1_0 x1_1 x1_2 x1_3), .int .i64 (vEachMul_3 x0_0 x0_1 x0_2 x0_3 x1_0 x1_1 x1_2 x1_3)])
  | _ => none
theorem vEachMul_ok : PureOK Try.prog 82 vEachMul_c := by
  intro args obs lv h ho φ vs w ha
  unfold vEachMul_c at h
  split at h
  · simp only [Option.some.injEq, Prod.mk.injEq] at h
    obtain ⟨rfl, rfl⟩ := h
    rename_i x0_0 x0_1 x0_2 x0_3 x1_0 x1_1 x1_2 x1_3
    have e := evG_wp tabLg_ok follows (vEachMul_p0 x0_0 x0_1 x0_2 x0_3 x1_0 x1_1 x1_2 x1_3) trivial φ vs w ha
    simpa only [vEachMul_0, vEachMul_1, vEachMul_2, vEachMul_3] using e
  · cases h
theorem vEachMul_en : Enters Try.prog 82 := fun args => by kernel_rfl

/-! azulejo/vec.each -/
def vEachMin_0 (x0_0 : Int) (x0_1 : Int) (x0_2 : Int) (x0_3 : Int) (x1_0 : Int) (x1_1 : Int) (x1_2 : Int) (x1_3 : Int) : Int := vMin1 x0_0 x1_0
def vEachMin_1 (x0_0 : Int) (x0_1 : Int) (x0_2 : Int) (x0_3 : Int) (x1_0 : Int) (x1_1 : Int) (x1_2 : Int) (x1_3 : Int) : Int := vMin1 x0_1 x1_1
def vEachMin_2 (x0_0 : Int) (x0_1 : Int) (x0_2 : Int) (x0_3 : Int) (x1_0 : Int) (x1_1 : Int) (x1_2 : Int) (x1_3 : Int) : Int := vMin1 x0_2 x1_2
def vEachMin_3 (x0_0 : Int) (x0_1 : Int) (x0_2 : Int) (x0_3 : Int) (x1_0 : Int) (x1_1 : Int) (x1_2 : Int) (x1_3 : Int) : Int := vMin1 x0_3 x1_3
theorem vEachMin_p0 (x0_0 : Int) (x0_1 : Int) (x0_2 : Int) (x0_3 : Int) (x1_0 : Int) (x1_1 : Int) (x1_2 : Int) (x1_3 : Int) : evG Try.prog tabLg 2000 82 [.k, .k, .k, .k, .k, .k, .k, .k, .k, .k, .k, .k, .k, .k, .k, .k, .k] [.g [.int .i64 x0_0, .int .i64 x0_1, .int .i64 x0_2, .int .i64 x0_3], .g [.int .i64 x1_0, .int .i64 x1_1, .int .i64 x1_2, .int .i64 x1_3], .a (.fn 83 [])] = some ([], .g [.int .i64 (vMin1 x0_0 x1_0), .int .i64 (vMin1 x0_1 x1_1), .int .i64 (vMin1 x0_2 x1_2), .int .i64 (vMin1 x0_3 x1_3)]) := by kernel_rfl
def vEachMin_c : Con
  | [.g [.int .i64 x0_0, .int .i64 x0_1, .int .i64 x0_2, .int .i64 x0_3], .g [.int .i64 x1_0, .int .i64 x1_1, .int .i64 x1_2, .int .i64 x1_3], .a (.fn 83 [])] => some ([], .g [.int .i64 (vEachMin_0 x0_0 x0_1 x0_2 x0_3 x1_0 x1_1 x1_2 x1_3), .int .i64 (vEachMin_1 x0_0 x0_1 x0_2 x0_3 x1_0 x1_1 x1_2 x1_3), .int .i64 (vEachMin_2 x0_0 x0_1 x0_2 x0_3 x1_0 x1_1 x1_2 x1_3), .int .i64 (vEachMin_3 x0_0 x0_1 x0_2 x0_3 x1_0 x1_1 x1_2 x1_3)])
  | _ => none
theorem vEachMin_ok : PureOK Try.prog 82 vEachMin_c := by
  intro args obs lv h ho φ vs w ha
  unfold vEachMin_c at h
  split at h
  · simp only [Option.some.injEq, Prod.mk.injEq] at h
    obtain ⟨rfl, rfl⟩ := h
    rename_i x0_0 x0_1 x0_2 x0_3 x1_0 x1_1 x1_2 x1_3
    have e := evG_wp tabLg_ok follows (vEachMin_p0 x0_0 x0_1 x0_2 x0_3 x1_0 x1_1 x1_2 x1_3) trivial φ vs w ha
    simpa only [vEachMin_0, vEachMin_1, vEachMin_2, vEachMin_3] using e
  · cases h
theorem vEachMin_en : Enters Try.prog 82 := fun args => by kernel_rfl

/-! azulejo/vec.each -/
def vEachMax_0 (x0_0 : Int) (x0_1 : Int) (x0_2 : Int) (x0_3 : Int) (x1_0 : Int) (x1_1 : Int) (x1_2 : Int) (x1_3 : Int) : Int := vMax1 x0_0 x1_0
def vEachMax_1 (x0_0 : Int) (x0_1 : Int) (x0_2 : Int) (x0_3 : Int) (x1_0 : Int) (x1_1 : Int) (x1_2 : Int) (x1_3 : Int) : Int := vMax1 x0_1 x1_1
def vEachMax_2 (x0_0 : Int) (x0_1 : Int) (x0_2 : Int) (x0_3 : Int) (x1_0 : Int) (x1_1 : Int) (x1_2 : Int) (x1_3 : Int) : Int := vMax1 x0_2 x1_2
def vEachMax_3 (x0_0 : Int) (x0_1 : Int) (x0_2 : Int) (x0_3 : Int) (x1_0 : Int) (x1_1 : Int) (x1_2 : Int) (x1_3 : Int) : Int := vMax1 x0_3 x1_3
theorem vEachMax_p0 (x0_0 : Int) (x0_1 : Int) (x0_2 : Int) (x0_3 : Int) (x1_0 : Int) (x1_1 : Int) (x1_2 : Int) (x1_3 : Int) : evG Try.prog tabLg 2000 82 [.k, .k, .k, .k, .k, .k, .k, .k, .k, .k, .k, .k, .k, .k, .k, .k, .k] [.g [.int .i64 x0_0, .int .i64 x0_1, .int .i64 x0_2, .int .i64 x0_3], .g [.int .i64 x1_0, .int .i64 x1_1, .int .i64 x1_2, .int .i64 x1_3], .a (.fn 84 [])] = some ([], .g [.int .i64 (vMax1 x0_0 x1_0), .int .i64 (vMax1 x0_1 x1_1), .int .i64 (vMax1 x0_2 x1_2), .int .i64 (vMax1 x0_3 x1_3)]) := by kernel_rfl
def vEachMax_c : Con
  | [.g [.int .i64 x0_0, .int .i64 x0_1, .int .i64 x0_2, .int .i64 x0_3], .g [.int .i64 x1_0, .int .i64 x1_1, .int .i64 x1_2, .int .i64 x1_3], .a (.fn 84 [])] => some ([], .g [.int .i64 (vEachMax_0 x0_0 x0_1 x0_2 x0_3 x1_0 x1_1 x1_2 x1_3), .int .i64 (vEachMax_1 x0_0 x0_1 x0_2 x0_3 x1_0 x1_1 x1_2 x1_3), .int .i64 (vEachMax_2 x0_0 x0_1 x0_2 x0_3 x1_0 x1_1 x1_2 x1_3), .int .i64 (vEachMax_3 x0_0 x0_1 x0_2 x0_3 x1_0 x1_1 x1_2 x1_3)])
  | _ => none
theorem vEachMax_ok : PureOK Try.prog 82 vEachMax_c := by
  intro args obs lv h ho φ vs w ha
  unfold vEachMax_c at h
  split at h
  · simp only [Option.some.injEq, Prod.mk.injEq] at h
    obtain ⟨rfl, rfl⟩ := h
    rename_i x0_0 x0_1 x0_2 x0_3 x1_0 x1_1 x1_2 x1_3
    have e := evG_wp tabLg_ok follows (vEachMax_p0 x0_0 x0_1 x0_2 x0_3 x1_0 x1_1 x1_2 x1_3) trivial φ vs w ha
    simpa only [vEachMax_0, vEachMax_1, vEachMax_2, vEachMax_3] using e
  · cases h
theorem vEachMax_en : Enters Try.prog 82 := fun args => by kernel_rfl

/-! azulejo/vec.Unit -/
def vUnit_0  : Int := fOf 1
def vUnit_1  : Int := 0
def vUnit_2  : Int := 0
def vUnit_3  : Int := 0
def vUnit_4  : Int := 0
def vUnit_5  : Int := fOf 1
def vUnit_6  : Int := 0
def vUnit_7  : Int := 0
def vUnit_8  : Int := 0
def vUnit_9  : Int := 0
def vUnit_10  : Int := fOf 1
def vUnit_11  : Int := 0
def vUnit_12  : Int := 0
def vUnit_13  : Int := 0
def vUnit_14  : Int := 0
def vUnit_15  : Int := fOf 1
theorem vUnit_p0  : evG Try.prog tabLg 2000 67 [.k, .k, .k, .k, .k, .k, .k, .k, .k, .k, .k, .k, .k] [] = some ([], .g [.int .i64 (fOf 1), .int .i64 (0), .int .i64 (0), .int .i64 (0), .int .i64 (0), .int .i64 (fOf 1), .int .i64 (0), .int .i64 (0), .int .i64 (0), .int .i64 (0), .int .i64 (fOf 1), .int .i64 (0), .int .i64 (0), .int .i64 (0), .int .i64 (0), .int .i64 (fOf 1)]) := by kernel_rfl
def vUnit_c : Con
  | [] => some ([], .g [.int .i64 (vUnit_0 ), .int .i64 (vUnit_1 ), .int .i64 (vUnit_2 ), .int .i64 (vUnit_3 ), .int .i64 (vUnit_4 ), .int .i64 (vUnit_5 ), .int .i64 (vUnit_6 ), .int .i64 (vUnit_7 ), .int .i64 (vUnit_8 ), .int .i64 (vUnit_9 ), .int .i64 (vUnit_10 ), .int .i64 (vUnit_11 ), .int .i64 (vUnit_12 ), .int .i64 (vUnit_13 ), .int .i64 (vUnit_14 ), .int .i64 (vUnit_15 )])
  | _ => none
theorem vUnit_ok : PureOK Try.prog 67 vUnit_c := by
  intro args obs lv h ho φ vs w ha
  unfold vUnit_c at h
  split at h
  · simp only [Option.some.injEq, Prod.mk.injEq] at h
    obtain ⟨rfl, rfl⟩ := h
    have e := evG_wp tabLg_ok follows (vUnit_p0 ) trivial φ vs w ha
    simpa only [vUnit_0, vUnit_1, vUnit_2, vUnit_3, vUnit_4, vUnit_5, vUnit_6, vUnit_7, vUnit_8, vUnit_9, vUnit_10, vUnit_11, vUnit_12, vUnit_13, vUnit_14, vUnit_15] using e
  · cases h
theorem vUnit_en : Enters Try.prog 67 := fun args => by kernel_rfl

/-! azulejo/azulejoref01.Dot -/
def rDot0 (x0_0 : Int) (x0_1 : Int) (x0_2 : Int) (x0_3 : Int) (x1_0 : Int) (x1_1 : Int) (x1_2 : Int) (x1_3 : Int) : Int := rAdd (rAdd (rAdd (rMul x0_0 x1_0) (rMul x0_1 x1_1)) (rMul x0_2 x1_2)) (rMul x0_3 x1_3)
theorem rDot0_p0 (x0_0 : Int) (x0_1 : Int) (x0_2 : Int) (x0_3 : Int) (x1_0 : Int) (x1_1 : Int) (x1_2 : Int) (x1_3 : Int) : evG Try.prog tabLg 2000 66 [.k, .k, .k, .k, .k, .k, .k, .k] [.g [.int .i64 x0_0, .int .i64 x0_1, .int .i64 x0_2, .int .i64 x0_3], .g [.int .i64 x1_0, .int .i64 x1_1, .int .i64 x1_2, .int .i64 x1_3]] = some ([], .a (.int .i64 (rAdd (rAdd (rAdd (rMul x0_0 x1_0) (rMul x0_1 x1_1)) (rMul x0_2 x1_2)) (rMul x0_3 x1_3)))) := by kernel_rfl
def rDot0_c : Con
  | [.g [.int .i64 x0_0, .int .i64 x0_1, .int .i64 x0_2, .int .i64 x0_3], .g [.int .i64 x1_0, .int .i64 x1_1, .int .i64 x1_2, .int .i64 x1_3]] => some ([], .a (.int .i64 (rDot0 x0_0 x0_1 x0_2 x0_3 x1_0 x1_1 x1_2 x1_3)))
  | _ => none
theorem rDot0_ok : PureOK Try.prog 66 rDot0_c := by
  intro args obs lv h ho φ vs w ha
  unfold rDot0_c at h
  split at h
  · simp only [Option.some.injEq, Prod.mk.injEq] at h
    obtain ⟨rfl, rfl⟩ := h
    rename_i x0_0 x0_1 x0_2 x0_3 x1_0 x1_1 x1_2 x1_3
    have e := evG_wp tabLg_ok follows (rDot0_p0 x0_0 x0_1 x0_2 x0_3 x1_0 x1_1 x1_2 x1_3) trivial φ vs w ha
    simpa only [rDot0] using e
  · cases h
theorem rDot0_en : Enters Try.prog 66 := fun args => by kernel_rfl

def tabLo : Tab := (82, vEachAdd_c) :: (82, vEachSub_c) :: (82, vEachMul_c) :: (82, vEachMin_c) :: (82, vEachMax_c) :: (67, vUnit_c) :: (66, rDot0_c) :: tabLg
theorem tabLo_ok : TOK Try.prog tabLo := TOK.cons vEachAdd_en vEachAdd_ok (TOK.cons vEachSub_en vEachSub_ok (TOK.cons vEachMul_en vEachMul_ok (TOK.cons vEachMin_en vEachMin_ok (TOK.cons vEachMax_en vEachMax_ok (TOK.cons vUnit_en vUnit_ok (TOK.cons rDot0_en rDot0_ok (tabLg_ok)))))))

end Go.Proofs.Ythgjacfikicgnaa
