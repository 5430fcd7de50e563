/-
  The law 'VecUnits': called with any arguments it returns true, and its arguments read behind the call as before.
-/
import Derived.Test.YthgjacfikicgnaaRows
import Derived.Test.YthgjacfikicgnaaMa
import Derived.Test.YthgjacfikicgnaaLz
namespace Go.Proofs.Ythgjacfikicgnaa.lawVecUnits
open Go Go.RowKit Go.Proofs.Ythgjacfikicgnaa.K Go.Proofs.Ythgjacfikicgnaa

theorem own : ownKnob Try.prog.godebug = none := by kernel_rfl

theorem shapes : argShapes Try.prog Try.f20.params.toList = some [(true, [.int .i32, .int .i32, .int .i32, .int .i32, .int .i32, .int .i32, .int .i32, .int .i32, .int .i32, .int .i32, .int .i32, .int .i32, .int .i32, .int .i32, .int .i32, .int .i32]), (true, [.int .i32, .int .i32, .int .i32, .int .i32])] := by kernel_rfl

theorem core : AllArgs [(true, [.int .i32, .int .i32, .int .i32, .int .i32, .int .i32, .int .i32, .int .i32, .int .i32, .int .i32, .int .i32, .int .i32, .int .i32, .int .i32, .int .i32, .int .i32, .int .i32]), (true, [.int .i32, .int .i32, .int .i32, .int .i32])] fun ar => ∀ (φ : Phi) (vs : Array Value) (w : World), All2 (LV.rel φ) ar vs.toList → Calls Try.prog 20 vs w fun e w' => e = .returned (.bool true) ∧ Grows w w' := by
  simp only [AllArgs, AllFit]
  intro x0_0 a0_0 b0_0 x0_1 a0_1 b0_1 x0_2 a0_2 b0_2 x0_3 a0_3 b0_3 x0_4 a0_4 b0_4 x0_5 a0_5 b0_5 x0_6 a0_6 b0_6 x0_7 a0_7 b0_7 x0_8 a0_8 b0_8 x0_9 a0_9 b0_9 x0_10 a0_10 b0_10 x0_11 a0_11 b0_11 x0_12 a0_12 b0_12 x0_13 a0_13 b0_13 x0_14 a0_14 b0_14 x0_15 a0_15 b0_15 x1_0 a1_0 b1_0 x1_1 a1_1 b1_1 x1_2 a1_2 b1_2 x1_3 a1_3 b1_3 φ vs w h
  exact law_core lVecUnits_ok (args := [.g [.int .i32 x0_0, .int .i32 x0_1, .int .i32 x0_2, .int .i32 x0_3, .int .i32 x0_4, .int .i32 x0_5, .int .i32 x0_6, .int .i32 x0_7, .int .i32 x0_8, .int .i32 x0_9, .int .i32 x0_10, .int .i32 x0_11, .int .i32 x0_12, .int .i32 x0_13, .int .i32 x0_14, .int .i32 x0_15], .g [.int .i32 x1_0, .int .i32 x1_1, .int .i32 x1_2, .int .i32 x1_3]]) (obs := _) (b := lVecUnits x0_0 x0_1 x0_2 x0_3 x0_4 x0_5 x0_6 x0_7 x0_8 x0_9 x0_10 x0_11 x0_12 x0_13 x0_14 x0_15 x1_0 x1_1 x1_2 x1_3) rfl ⟨VecUnits_true x0_0 a0_0 b0_0 x0_1 a0_1 b0_1 x0_2 a0_2 b0_2 x0_3 a0_3 b0_3 x0_4 a0_4 b0_4 x0_5 a0_5 b0_5 x0_6 a0_6 b0_6 x0_7 a0_7 b0_7 x0_8 a0_8 b0_8 x0_9 a0_9 b0_9 x0_10 a0_10 b0_10 x0_11 a0_11 b0_11 x0_12 a0_12 b0_12 x0_13 a0_13 b0_13 x0_14 a0_14 b0_14 x0_15 a0_15 b0_15 x1_0 a1_0 b1_0 x1_1 a1_1 b1_1 x1_2 a1_2 b1_2 x1_3 a1_3 b1_3, trivial⟩ (VecUnits_true x0_0 a0_0 b0_0 x0_1 a0_1 b0_1 x0_2 a0_2 b0_2 x0_3 a0_3 b0_3 x0_4 a0_4 b0_4 x0_5 a0_5 b0_5 x0_6 a0_6 b0_6 x0_7 a0_7 b0_7 x0_8 a0_8 b0_8 x0_9 a0_9 b0_9 x0_10 a0_10 b0_10 x0_11 a0_11 b0_11 x0_12 a0_12 b0_12 x0_13 a0_13 b0_13 x0_14 a0_14 b0_14 x0_15 a0_15 b0_15 x1_0 a1_0 b1_0 x1_1 a1_1 b1_1 x1_2 a1_2 b1_2 x1_3 a1_3 b1_3) φ vs w h

set_option maxRecDepth 100000 in
theorem lifted (os : Os) (started : os.Started) (H : Type) (enc : TypeId × Value → H) :
    ReturnsInHanded {} Try.checked os 20 .any (Rows.vecUnitsSpec.pre6 enc Try.prog Try.f20 Rows.vecUnitsRow.domain false) (Rows.vecUnitsSpec.post enc Try.prog Try.f20 false true false false) :=
  law_lifted (C := Try.checked) (tb := 4) started enc own (by kernel_rfl) Try.func20 rfl (fun ds h => by
    match ds, h with
    | [_, _], _ => rfl) (by kernel_rfl) shapes (by kernel_rfl) (by kernel_rfl)
    (ChangeSpec.witness6 (enc := enc) (C := Try.checked) false ⟨#[], #[.agg #[.int .i32 0, .int .i32 0, .int .i32 0, .int .i32 0, .int .i32 0, .int .i32 0, .int .i32 0, .int .i32 0, .int .i32 0, .int .i32 0, .int .i32 0, .int .i32 0, .int .i32 0, .int .i32 0, .int .i32 0, .int .i32 0], .agg #[.int .i32 0, .int .i32 0, .int .i32 0, .int .i32 0]], []⟩ 8 (by kernel_rfl) (by kernel_rfl) (by kernel_rfl) (by kernel_rfl)) core

theorem over : Rows.vecUnitsRow.holds Try.pinned (OpenSpec.ofChange Rows.vecUnitsSpec) :=
  OpenClaim.holds_of_wide 20 Try.f20 rfl rfl rfl rfl rfl rfl rfl ⟨rfl, rfl, rfl, rfl, rfl⟩ rfl rfl rfl rfl rfl (by kernel_rfl) Try.func20 (by kernel_rfl)
    (of_decide_eq_true (by kernel_rfl)) (by unfold Func.isWrapper; first | (rw [if_pos (by decide +kernel)]; kernel_rfl) | (rw [if_neg (by decide +kernel)]; exact ⟨rfl, rfl⟩))
    (fun os started H enc _ => lifted os started H enc)

/-- The statement. -/
theorem proved : Rows.VecUnitsSaid := over

end Go.Proofs.Ythgjacfikicgnaa.lawVecUnits
