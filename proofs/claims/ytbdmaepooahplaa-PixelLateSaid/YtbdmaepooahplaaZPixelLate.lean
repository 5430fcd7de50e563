/-
  The law 'PixelLate': called with any arguments it returns true, and its arguments read behind the call as before.
-/
import Derived.Test.YtbdmaepooahplaaRows
import Derived.Test.YtbdmaepooahplaaVMa
import Derived.Test.YtbdmaepooahplaaPd
namespace Go.Proofs.Ytbdmaepooahplaa.lawPixelLate
open Go Go.RowKit Go.Proofs.Ytbdmaepooahplaa.V Go.Proofs.Ytbdmaepooahplaa

theorem own : ownKnob Try.prog.godebug = none := by kernel_rfl

theorem shapes : argShapes Try.prog Try.f9.params.toList = some [(true, [.int .u8, .int .u8, .int .u8, .int .u8, .int .u16, .int .u8]), (true, [.int .u8, .int .u8, .int .u8, .int .u8, .int .u16, .int .u8]), (true, [.int .u8, .int .u8, .int .u8, .int .u8, .int .u8, .int .u8, .int .u8, .int .u8, .int .u8, .int .u8, .bool, .bool, .int .u8, .int .u8, .int .u8, .int .u8]), (false, [.int .u16]), (true, [.int .u16, .int .u16, .int .u16, .int .u16])] := by kernel_rfl

theorem core : AllArgs [(true, [.int .u8, .int .u8, .int .u8, .int .u8, .int .u16, .int .u8]), (true, [.int .u8, .int .u8, .int .u8, .int .u8, .int .u16, .int .u8]), (true, [.int .u8, .int .u8, .int .u8, .int .u8, .int .u8, .int .u8, .int .u8, .int .u8, .int .u8, .int .u8, .bool, .bool, .int .u8, .int .u8, .int .u8, .int .u8]), (false, [.int .u16]), (true, [.int .u16, .int .u16, .int .u16, .int .u16])] fun ar => ∀ (vs : Array Value) (w : World), All2 (LV.rel (fun _ => none)) ar vs.toList → Calls Try.prog 9 vs w fun e w' => e = .returned (.bool true) ∧ Grows w w' := by
  simp only [AllArgs, AllFit]
  intro x0_0 a0_0 b0_0 x0_1 a0_1 b0_1 x0_2 a0_2 b0_2 x0_3 a0_3 b0_3 x0_4 a0_4 b0_4 x0_5 a0_5 b0_5 x1_0 a1_0 b1_0 x1_1 a1_1 b1_1 x1_2 a1_2 b1_2 x1_3 a1_3 b1_3 x1_4 a1_4 b1_4 x1_5 a1_5 b1_5 x2_0 a2_0 b2_0 x2_1 a2_1 b2_1 x2_2 a2_2 b2_2 x2_3 a2_3 b2_3 x2_4 a2_4 b2_4 x2_5 a2_5 b2_5 x2_6 a2_6 b2_6 x2_7 a2_7 b2_7 x2_8 a2_8 b2_8 x2_9 a2_9 b2_9 x2_10 x2_11 x2_12 a2_12 b2_12 x2_13 a2_13 b2_13 x2_14 a2_14 b2_14 x2_15 a2_15 b2_15 x3 a3 b3 x4_0 a4_0 b4_0 x4_1 a4_1 b4_1 x4_2 a4_2 b4_2 x4_3 a4_3 b4_3 vs w h
  exact law_core lLate_ok (args := [.g [.int true .u8 x0_0, .int true .u8 x0_1, .int true .u8 x0_2, .int true .u8 x0_3, .int true .u16 x0_4, .int true .u8 x0_5], .g [.int true .u8 x1_0, .int true .u8 x1_1, .int true .u8 x1_2, .int true .u8 x1_3, .int true .u16 x1_4, .int true .u8 x1_5], .g [.int true .u8 x2_0, .int true .u8 x2_1, .int true .u8 x2_2, .int true .u8 x2_3, .int true .u8 x2_4, .int true .u8 x2_5, .int true .u8 x2_6, .int true .u8 x2_7, .int true .u8 x2_8, .int true .u8 x2_9, .bool true x2_10, .bool true x2_11, .int true .u8 x2_12, .int true .u8 x2_13, .int true .u8 x2_14, .int true .u8 x2_15], .a (.int true .u16 x3), .g [.int true .u16 x4_0, .int true .u16 x4_1, .int true .u16 x4_2, .int true .u16 x4_3]]) (obs := []) (m := true) (b := _) rfl trivial (PixelLate_true x0_0 a0_0 b0_0 x0_1 a0_1 b0_1 x0_2 a0_2 b0_2 x0_3 a0_3 b0_3 x0_4 a0_4 b0_4 x0_5 a0_5 b0_5 x1_0 a1_0 b1_0 x1_1 a1_1 b1_1 x1_2 a1_2 b1_2 x1_3 a1_3 b1_3 x1_4 a1_4 b1_4 x1_5 a1_5 b1_5 x2_0 a2_0 b2_0 x2_1 a2_1 b2_1 x2_2 a2_2 b2_2 x2_3 a2_3 b2_3 x2_4 a2_4 b2_4 x2_5 a2_5 b2_5 x2_6 a2_6 b2_6 x2_7 a2_7 b2_7 x2_8 a2_8 b2_8 x2_9 a2_9 b2_9 x2_10 x2_11 x2_12 a2_12 b2_12 x2_13 a2_13 b2_13 x2_14 a2_14 b2_14 x2_15 a2_15 b2_15 x3 a3 b3 x4_0 a4_0 b4_0 x4_1 a4_1 b4_1 x4_2 a4_2 b4_2 x4_3 a4_3 b4_3) vs w h

set_option maxRecDepth 100000 in
theorem lifted (os : Os) (started : os.Started) (H : Type) (enc : TypeId × Value → H) :
    ReturnsInHanded {} Try.checked os 9 .any (Rows.pixelLateSpec.pre6 enc Try.prog Try.f9 Rows.pixelLateRow.domain false) (Rows.pixelLateSpec.post enc Try.prog Try.f9 false true false false) :=
  law_lifted (C := Try.checked) (tb := 4) started enc own (by kernel_rfl) Try.func9 rfl (fun ds h => by
    match ds, h with
    | [_, _, _, _, _], _ => rfl) (by kernel_rfl) shapes (by kernel_rfl) (by kernel_rfl)
    (ChangeSpec.witness6 (enc := enc) (C := Try.checked) false ⟨#[], #[.agg #[.int .u8 0, .int .u8 0, .int .u8 0, .int .u8 0, .int .u16 0, .int .u8 0], .agg #[.int .u8 0, .int .u8 0, .int .u8 0, .int .u8 0, .int .u16 0, .int .u8 0], .agg #[.int .u8 0, .int .u8 0, .int .u8 0, .int .u8 0, .int .u8 0, .int .u8 0, .int .u8 0, .int .u8 0, .int .u8 0, .int .u8 0, .bool false, .bool false, .int .u8 0, .int .u8 0, .int .u8 0, .int .u8 0], .int .u16 0, .agg #[.int .u16 0, .int .u16 0, .int .u16 0, .int .u16 0]], []⟩ 8 (by kernel_rfl) (by kernel_rfl) (by kernel_rfl) (by kernel_rfl)) core

theorem over : Rows.pixelLateRow.holds Try.pinned (OpenSpec.ofChange Rows.pixelLateSpec) :=
  OpenClaim.holds_of_wide 9 Try.f9 rfl rfl rfl rfl rfl rfl rfl ⟨rfl, rfl, rfl, rfl, rfl⟩ rfl rfl rfl rfl rfl (by kernel_rfl) Try.func9 (by kernel_rfl)
    (of_decide_eq_true (by kernel_rfl)) (by unfold Func.isWrapper; first | (rw [if_pos (by decide +kernel)]; kernel_rfl) | (rw [if_neg (by decide +kernel)]; exact ⟨rfl, rfl⟩))
    (fun os started H enc _ => lifted os started H enc)

/-- The statement. -/
theorem proved : Rows.PixelLateSaid := over

end Go.Proofs.Ytbdmaepooahplaa.lawPixelLate
