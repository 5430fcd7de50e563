/-
  The law 'VecTimes': called with any arguments it returns true, and its arguments read behind the call as before.
-/
import Derived.Test.YthgjacfikicgnaaRows
import Derived.Test.YthgjacfikicgnaaMa
import Derived.Test.YthgjacfikicgnaaLy
namespace Go.Proofs.Ythgjacfikicgnaa.lawVecTimes
open Go Go.RowKit Go.Proofs.Ythgjacfikicgnaa.K Go.Proofs.Ythgjacfikicgnaa

theorem own : ownKnob Try.prog.godebug = none := by kernel_rfl

theorem shapes : argShapes Try.prog Try.f19.params.toList = some [(true, [.int .i64, .int .i64, .int .i64, .int .i64, .int .i64, .int .i64, .int .i64, .int .i64, .int .i64, .int .i64, .int .i64, .int .i64, .int .i64, .int .i64, .int .i64, .int .i64]), (true, [.int .i64, .int .i64, .int .i64, .int .i64, .int .i64, .int .i64, .int .i64, .int .i64, .int .i64, .int .i64, .int .i64, .int .i64, .int .i64, .int .i64, .int .i64, .int .i64]), (true, [.int .i64, .int .i64, .int .i64, .int .i64])] := by kernel_rfl

theorem core : AllArgs [(true, [.int .i64, .int .i64, .int .i64, .int .i64, .int .i64, .int .i64, .int .i64, .int .i64, .int .i64, .int .i64, .int .i64, .int .i64, .int .i64, .int .i64, .int .i64, .int .i64]), (true, [.int .i64, .int .i64, .int .i64, .int .i64, .int .i64, .int .i64, .int .i64, .int .i64, .int .i64, .int .i64, .int .i64, .int .i64, .int .i64, .int .i64, .int .i64, .int .i64]), (true, [.int .i64, .int .i64, .int .i64, .int .i64])] fun ar => ∀ (φ : Phi) (vs : Array Value) (w : World), All2 (LV.rel φ) ar vs.toList → Calls Try.prog 19 vs w fun e w' => e = .returned (.bool true) ∧ Grows w w' := by
  simp only [AllArgs, AllFit]
  intro x0_0 a0_0 b0_0 x0_1 a0_1 b0_1 x0_2 a0_2 b0_2 x0_3 a0_3 b0_3 x0_4 a0_4 b0_4 x0_5 a0_5 b0_5 x0_6 a0_6 b0_6 x0_7 a0_7 b0_7 x0_8 a0_8 b0_8 x0_9 a0_9 b0_9 x0_10 a0_10 b0_10 x0_11 a0_11 b0_11 x0_12 a0_12 b0_12 x0_13 a0_13 b0_13 x0_14 a0_14 b0_14 x0_15 a0_15 b0_15 x1_0 a1_0 b1_0 x1_1 a1_1 b1_1 x1_2 a1_2 b1_2 x1_3 a1_3 b1_3 x1_4 a1_4 b1_4 x1_5 a1_5 b1_5 x1_6 a1_6 b1_6 x1_7 a1_7 b1_7 x1_8 a1_8 b1_8 x1_9 a1_9 b1_9 x1_10 a1_10 b1_10 x1_11 a1_11 b1_11 x1_12 a1_12 b1_12 x1_13 a1_13 b1_13 x1_14 a1_14 b1_14 x1_15 a1_15 b1_15 x2_0 a2_0 b2_0 x2_1 a2_1 b2_1 x2_2 a2_2 b2_2 x2_3 a2_3 b2_3 φ vs w h
  exact law_core lVecTimes_ok (args := [.g [.int .i64 x0_0, .int .i64 x0_1, .int .i64 x0_2, .int .i64 x0_3, .int .i64 x0_4, .int .i64 x0_5, .int .i64 x0_6, .int .i64 x0_7, .int .i64 x0_8, .int .i64 x0_9, .int .i64 x0_10, .int .i64 x0_11, .int .i64 x0_12, .int .i64 x0_13, .int .i64 x0_14, .int .i64 x0_15], .g [.int .i64 x1_0, .int .i64 x1_1, .int .i64 x1_2, .int .i64 x1_3, .int .i64 x1_4, .int .i64 x1_5, .int .i64 x1_6, .int .i64 x1_7, .int .i64 x1_8, .int .i64 x1_9, .int .i64 x1_10, .int .i64 x1_11, .int .i64 x1_12, .int .i64 x1_13, .int .i64 x1_14, .int .i64 x1_15], .g [.int .i64 x2_0, .int .i64 x2_1, .int .i64 x2_2, .int .i64 x2_3]]) (obs := _) (b := lVecTimes x0_0 x0_1 x0_2 x0_3 x0_4 x0_5 x0_6 x0_7 x0_8 x0_9 x0_10 x0_11 x0_12 x0_13 x0_14 x0_15 x1_0 x1_1 x1_2 x1_3 x1_4 x1_5 x1_6 x1_7 x1_8 x1_9 x1_10 x1_11 x1_12 x1_13 x1_14 x1_15 x2_0 x2_1 x2_2 x2_3) rfl ⟨VecTimes_true x0_0 a0_0 b0_0 x0_1 a0_1 b0_1 x0_2 a0_2 b0_2 x0_3 a0_3 b0_3 x0_4 a0_4 b0_4 x0_5 a0_5 b0_5 x0_6 a0_6 b0_6 x0_7 a0_7 b0_7 x0_8 a0_8 b0_8 x0_9 a0_9 b0_9 x0_10 a0_10 b0_10 x0_11 a0_11 b0_11 x0_12 a0_12 b0_12 x0_13 a0_13 b0_13 x0_14 a0_14 b0_14 x0_15 a0_15 b0_15 x1_0 a1_0 b1_0 x1_1 a1_1 b1_1 x1_2 a1_2 b1_2 x1_3 a1_3 b1_3 x1_4 a1_4 b1_4 x1_5 a1_5 b1_5 x1_6 a1_6 b1_6 x1_7 a1_7 b1_7 x1_8 a1_8 b1_8 x1_9 a1_9 b1_9 x1_10 a1_10 b1_10 x1_11 a1_11 b1_11 x1_12 a1_12 b1_12 x1_13 a1_13 b1_13 x1_14 a1_14 b1_14 x1_15 a1_15 b1_15 x2_0 a2_0 b2_0 x2_1 a2_1 b2_1 x2_2 a2_2 b2_2 x2_3 a2_3 b2_3, trivial⟩ (VecTimes_true x0_0 a0_0 b0_0 x0_1 a0_1 b0_1 x0_2 a0_2 b0_2 x0_3 a0_3 b0_3 x0_4 a0_4 b0_4 x0_5 a0_5 b0_5 x0_6 a0_6 b0_6 x0_7 a0_7 b0_7 x0_8 a0_8 b0_8 x0_9 a0_9 b0_9 x0_10 a0_10 b0_10 x0_11 a0_11 b0_11 x0_12 a0_12 b0_12 x0_13 a0_13 b0_13 x0_14 a0_14 b0_14 x0_15 a0_15 b0_15 x1_0 a1_0 b1_0 x1_1 a1_1 b1_1 x1_2 a1_2 b1_2 x1_3 a1_3 b1_3 x1_4 a1_4 b1_4 x1_5 a1_5 b1_5 x1_6 a1_6 b1_6 x1_7 a1_7 b1_7 x1_8 a1_8 b1_8 x1_9 a1_9 b1_9 x1_10 a1_10 b1_10 x1_11 a1_11 b1_11 x1_12 a1_12 b1_12 x1_13 a1_13 b1_13 x1_14 a1_14 b1_14 x1_15 a1_15 b1_15 x2_0 a2_0 b2_0 x2_1 a2_1 b2_1 x2_2 a2_2 b2_2 x2_3 a2_3 b2_3) φ vs w h

set_option maxRecDepth 100000 in
theorem lifted (os : Os) (started : os.Started) (H : Type) (enc : TypeId × Value → H) :
    ReturnsInHanded {} Try.checked os 19 .any (Rows.vecTimesSpec.pre6 enc Try.prog Try.f19 Rows.vecTimesRow.domain false) (Rows.vecTimesSpec.post enc Try.prog Try.f19 false true false false) :=
  law_lifted (C := Try.checked) (tb := 4) started enc own (by kernel_rfl) Try.func19 rfl (fun ds h => by
    match ds, h with
    | [_, _, _], _ => rfl) (by kernel_rfl) shapes (by kernel_rfl) (by kernel_rfl)
    (ChangeSpec.witness6 (enc := enc) (C := Try.checked) false ⟨#[], #[.agg #[.int .i64 0, .int .i64 0, .int .i64 0, .int .i64 0, .int .i64 0, .int .i64 0, .int .i64 0, .int .i64 0, .int .i64 0, .int .i64 0, .int .i64 0, .int .i64 0, .int .i64 0, .int .i64 0, .int .i64 0, .int .i64 0], .agg #[.int .i64 0, .int .i64 0, .int .i64 0, .int .i64 0, .int .i64 0, .int .i64 0, .int .i64 0, .int .i64 0, .int .i64 0, .int .i64 0, .int .i64 0, .int .i64 0, .int .i64 0, .int .i64 0, .int .i64 0, .int .i64 0], .agg #[.int .i64 0, .int .i64 0, .int .i64 0, .int .i64 0]], []⟩ 8 (by kernel_rfl) (by kernel_rfl) (by kernel_rfl) (by kernel_rfl)) core

theorem over : Rows.vecTimesRow.holds Try.pinned (OpenSpec.ofChange Rows.vecTimesSpec) :=
  OpenClaim.holds_of_wide 19 Try.f19 rfl rfl rfl rfl rfl rfl rfl ⟨rfl, rfl, rfl, rfl, rfl⟩ rfl rfl rfl rfl rfl (by kernel_rfl) Try.func19 (by kernel_rfl)
    (of_decide_eq_true (by kernel_rfl)) (by unfold Func.isWrapper; first | (rw [if_pos (by decide +kernel)]; kernel_rfl) | (rw [if_neg (by decide +kernel)]; exact ⟨rfl, rfl⟩))
    (fun os started H enc _ => lifted os started H enc)

/-- The statement. -/
theorem proved : Rows.VecTimesSaid := over

end Go.Proofs.Ythgjacfikicgnaa.lawVecTimes
