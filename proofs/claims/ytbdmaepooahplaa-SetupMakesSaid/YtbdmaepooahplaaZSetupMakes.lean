/-
  The law 'SetupMakes': called with any arguments it returns true, and its arguments read behind the call as before.
-/
import Derived.Test.YtbdmaepooahplaaRows
import Derived.Test.YtbdmaepooahplaaVMa
import Derived.Test.YtbdmaepooahplaaGj
namespace Go.Proofs.Ytbdmaepooahplaa.lawSetupMakes
open Go Go.RowKit Go.Proofs.Ytbdmaepooahplaa.V Go.Proofs.Ytbdmaepooahplaa

theorem own : ownKnob Try.prog.godebug = none := by kernel_rfl

theorem shapes : argShapes Try.prog Try.f20.params.toList = some [(true, [.int .i16, .int .i16, .int .i16, .int .i16, .int .u8, .int .u8, .int .u8, .int .u8, .bool, .int .i16, .int .i16, .int .i16, .int .i16, .int .u8, .int .u8, .int .u8, .int .u8, .bool, .int .i16, .int .i16, .int .i16, .int .i16, .int .u8, .int .u8, .int .u8, .int .u8, .bool]), (false, [.int .u8]), (false, [.int .u8]), (false, [.int .u8])] := by kernel_rfl

theorem core : AllArgs [(true, [.int .i16, .int .i16, .int .i16, .int .i16, .int .u8, .int .u8, .int .u8, .int .u8, .bool, .int .i16, .int .i16, .int .i16, .int .i16, .int .u8, .int .u8, .int .u8, .int .u8, .bool, .int .i16, .int .i16, .int .i16, .int .i16, .int .u8, .int .u8, .int .u8, .int .u8, .bool]), (false, [.int .u8]), (false, [.int .u8]), (false, [.int .u8])] fun ar => ∀ (vs : Array Value) (w : World), All2 (LV.rel (fun _ => none)) ar vs.toList → Calls Try.prog 20 vs w fun e w' => e = .returned (.bool true) ∧ Grows w w' := by
  simp only [AllArgs, AllFit]
  intro x0_0 a0_0 b0_0 x0_1 a0_1 b0_1 x0_2 a0_2 b0_2 x0_3 a0_3 b0_3 x0_4 a0_4 b0_4 x0_5 a0_5 b0_5 x0_6 a0_6 b0_6 x0_7 a0_7 b0_7 x0_8 x0_9 a0_9 b0_9 x0_10 a0_10 b0_10 x0_11 a0_11 b0_11 x0_12 a0_12 b0_12 x0_13 a0_13 b0_13 x0_14 a0_14 b0_14 x0_15 a0_15 b0_15 x0_16 a0_16 b0_16 x0_17 x0_18 a0_18 b0_18 x0_19 a0_19 b0_19 x0_20 a0_20 b0_20 x0_21 a0_21 b0_21 x0_22 a0_22 b0_22 x0_23 a0_23 b0_23 x0_24 a0_24 b0_24 x0_25 a0_25 b0_25 x0_26 x1 a1 b1 x2 a2 b2 x3 a3 b3 vs w h
  exact law_core lMakes_ok (args := [.g [.int true .i16 x0_0, .int true .i16 x0_1, .int true .i16 x0_2, .int true .i16 x0_3, .int true .u8 x0_4, .int true .u8 x0_5, .int true .u8 x0_6, .int true .u8 x0_7, .bool true x0_8, .int true .i16 x0_9, .int true .i16 x0_10, .int true .i16 x0_11, .int true .i16 x0_12, .int true .u8 x0_13, .int true .u8 x0_14, .int true .u8 x0_15, .int true .u8 x0_16, .bool true x0_17, .int true .i16 x0_18, .int true .i16 x0_19, .int true .i16 x0_20, .int true .i16 x0_21, .int true .u8 x0_22, .int true .u8 x0_23, .int true .u8 x0_24, .int true .u8 x0_25, .bool true x0_26], .a (.int true .u8 x1), .a (.int true .u8 x2), .a (.int true .u8 x3)]) (obs := _) (m := true) (b := _) rfl (SetupMakes_obs x0_0 a0_0 b0_0 x0_1 a0_1 b0_1 x0_2 a0_2 b0_2 x0_3 a0_3 b0_3 x0_4 a0_4 b0_4 x0_5 a0_5 b0_5 x0_6 a0_6 b0_6 x0_7 a0_7 b0_7 x0_8 x0_9 a0_9 b0_9 x0_10 a0_10 b0_10 x0_11 a0_11 b0_11 x0_12 a0_12 b0_12 x0_13 a0_13 b0_13 x0_14 a0_14 b0_14 x0_15 a0_15 b0_15 x0_16 a0_16 b0_16 x0_17 x0_18 a0_18 b0_18 x0_19 a0_19 b0_19 x0_20 a0_20 b0_20 x0_21 a0_21 b0_21 x0_22 a0_22 b0_22 x0_23 a0_23 b0_23 x0_24 a0_24 b0_24 x0_25 a0_25 b0_25 x0_26 x1 a1 b1 x2 a2 b2 x3 a3 b3) (SetupMakes_true x0_0 a0_0 b0_0 x0_1 a0_1 b0_1 x0_2 a0_2 b0_2 x0_3 a0_3 b0_3 x0_4 a0_4 b0_4 x0_5 a0_5 b0_5 x0_6 a0_6 b0_6 x0_7 a0_7 b0_7 x0_8 x0_9 a0_9 b0_9 x0_10 a0_10 b0_10 x0_11 a0_11 b0_11 x0_12 a0_12 b0_12 x0_13 a0_13 b0_13 x0_14 a0_14 b0_14 x0_15 a0_15 b0_15 x0_16 a0_16 b0_16 x0_17 x0_18 a0_18 b0_18 x0_19 a0_19 b0_19 x0_20 a0_20 b0_20 x0_21 a0_21 b0_21 x0_22 a0_22 b0_22 x0_23 a0_23 b0_23 x0_24 a0_24 b0_24 x0_25 a0_25 b0_25 x0_26 x1 a1 b1 x2 a2 b2 x3 a3 b3) vs w h

set_option maxRecDepth 100000 in
theorem lifted (os : Os) (started : os.Started) (H : Type) (enc : TypeId × Value → H) :
    ReturnsInHanded {} Try.checked os 20 .any (Rows.setupMakesSpec.pre6 enc Try.prog Try.f20 Rows.setupMakesRow.domain false) (Rows.setupMakesSpec.post enc Try.prog Try.f20 false true false false) :=
  law_lifted (C := Try.checked) (tb := 4) started enc own (by kernel_rfl) Try.func20 rfl (fun ds h => by
    match ds, h with
    | [_, _, _, _], _ => rfl) (by kernel_rfl) shapes (by kernel_rfl) (by kernel_rfl)
    (ChangeSpec.witness6 (enc := enc) (C := Try.checked) false ⟨#[], #[.agg #[.int .i16 0, .int .i16 0, .int .i16 0, .int .i16 0, .int .u8 0, .int .u8 0, .int .u8 0, .int .u8 0, .bool false, .int .i16 0, .int .i16 0, .int .i16 0, .int .i16 0, .int .u8 0, .int .u8 0, .int .u8 0, .int .u8 0, .bool false, .int .i16 0, .int .i16 0, .int .i16 0, .int .i16 0, .int .u8 0, .int .u8 0, .int .u8 0, .int .u8 0, .bool false], .int .u8 0, .int .u8 0, .int .u8 0], []⟩ 8 (by kernel_rfl) (by kernel_rfl) (by kernel_rfl) (by kernel_rfl)) core

theorem over : Rows.setupMakesRow.holds Try.pinned (OpenSpec.ofChange Rows.setupMakesSpec) :=
  OpenClaim.holds_of_wide 20 Try.f20 rfl rfl rfl rfl rfl rfl rfl ⟨rfl, rfl, rfl, rfl, rfl⟩ rfl rfl rfl rfl rfl (by kernel_rfl) Try.func20 (by kernel_rfl)
    (of_decide_eq_true (by kernel_rfl)) (by unfold Func.isWrapper; first | (rw [if_pos (by decide +kernel)]; kernel_rfl) | (rw [if_neg (by decide +kernel)]; exact ⟨rfl, rfl⟩))
    (fun os started H enc _ => lifted os started H enc)

/-- The statement. -/
theorem proved : Rows.SetupMakesSaid := over

end Go.Proofs.Ytbdmaepooahplaa.lawSetupMakes
