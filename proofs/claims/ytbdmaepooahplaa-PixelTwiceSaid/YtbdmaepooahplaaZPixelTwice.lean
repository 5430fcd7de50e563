/-
  The law 'PixelTwice': called with any arguments it returns true, and its arguments read behind the call as before.
-/
import Derived.Test.YtbdmaepooahplaaRows
import Derived.Test.YtbdmaepooahplaaVMa
import Derived.Test.YtbdmaepooahplaaPd
namespace Go.Proofs.Ytbdmaepooahplaa.lawPixelTwice
open Go Go.RowKit Go.Proofs.Ytbdmaepooahplaa.V Go.Proofs.Ytbdmaepooahplaa

theorem own : ownKnob Try.prog.godebug = none := by kernel_rfl

theorem shapes : argShapes Try.prog Try.f10.params.toList = some [(true, [.int .u8, .int .u8, .int .u8, .int .u8, .int .u16, .int .u8]), (true, [.int .u8, .int .u8, .int .u8, .int .u8, .int .u8, .int .u8, .int .u8, .int .u8, .int .u8, .int .u8, .bool, .bool, .int .u8, .int .u8, .int .u8, .int .u8]), (false, [.int .u16]), (true, [.int .u16, .int .u16, .int .u16, .int .u16])] := by kernel_rfl

theorem core : AllArgs [(true, [.int .u8, .int .u8, .int .u8, .int .u8, .int .u16, .int .u8]), (true, [.int .u8, .int .u8, .int .u8, .int .u8, .int .u8, .int .u8, .int .u8, .int .u8, .int .u8, .int .u8, .bool, .bool, .int .u8, .int .u8, .int .u8, .int .u8]), (false, [.int .u16]), (true, [.int .u16, .int .u16, .int .u16, .int .u16])] fun ar => ∀ (vs : Array Value) (w : World), All2 (LV.rel (fun _ => none)) ar vs.toList → Calls Try.prog 10 vs w fun e w' => e = .returned (.bool true) ∧ Grows w w' := by
  simp only [AllArgs, AllFit]
  intro x0_0 a0_0 b0_0 x0_1 a0_1 b0_1 x0_2 a0_2 b0_2 x0_3 a0_3 b0_3 x0_4 a0_4 b0_4 x0_5 a0_5 b0_5 x1_0 a1_0 b1_0 x1_1 a1_1 b1_1 x1_2 a1_2 b1_2 x1_3 a1_3 b1_3 x1_4 a1_4 b1_4 x1_5 a1_5 b1_5 x1_6 a1_6 b1_6 x1_7 a1_7 b1_7 x1_8 a1_8 b1_8 x1_9 a1_9 b1_9 x1_10 x1_11 x1_12 a1_12 b1_12 x1_13 a1_13 b1_13 x1_14 a1_14 b1_14 x1_15 a1_15 b1_15 x2 a2 b2 x3_0 a3_0 b3_0 x3_1 a3_1 b3_1 x3_2 a3_2 b3_2 x3_3 a3_3 b3_3 vs w h
  exact law_core lTwice_ok (args := [.g [.int true .u8 x0_0, .int true .u8 x0_1, .int true .u8 x0_2, .int true .u8 x0_3, .int true .u16 x0_4, .int true .u8 x0_5], .g [.int true .u8 x1_0, .int true .u8 x1_1, .int true .u8 x1_2, .int true .u8 x1_3, .int true .u8 x1_4, .int true .u8 x1_5, .int true .u8 x1_6, .int true .u8 x1_7, .int true .u8 x1_8, .int true .u8 x1_9, .bool true x1_10, .bool true x1_11, .int true .u8 x1_12, .int true .u8 x1_13, .int true .u8 x1_14, .int true .u8 x1_15], .a (.int true .u16 x2), .g [.int true .u16 x3_0, .int true .u16 x3_1, .int true .u16 x3_2, .int true .u16 x3_3]]) (obs := []) (m := true) (b := _) rfl trivial (PixelTwice_true x0_0 a0_0 b0_0 x0_1 a0_1 b0_1 x0_2 a0_2 b0_2 x0_3 a0_3 b0_3 x0_4 a0_4 b0_4 x0_5 a0_5 b0_5 x1_0 a1_0 b1_0 x1_1 a1_1 b1_1 x1_2 a1_2 b1_2 x1_3 a1_3 b1_3 x1_4 a1_4 b1_4 x1_5 a1_5 b1_5 x1_6 a1_6 b1_6 x1_7 a1_7 b1_7 x1_8 a1_8 b1_8 x1_9 a1_9 b1_9 x1_10 x1_11 x1_12 a1_12 b1_12 x1_13 a1_13 b1_13 x1_14 a1_14 b1_14 x1_15 a1_15 b1_15 x2 a2 b2 x3_0 a3_0 b3_0 x3_1 a3_1 b3_1 x3_2 a3_2 b3_2 x3_3 a3_3 b3_3) vs w h

set_option maxRecDepth 100000 in
theorem lifted (os : Os) (started : os.Started) (H : Type) (enc : TypeId × Value → H) :
    ReturnsInHanded {} Try.checked os 10 .any (Rows.pixelTwiceSpec.pre6 enc Try.prog Try.f10 Rows.pixelTwiceRow.domain false) (Rows.pixelTwiceSpec.post enc Try.prog Try.f10 false true false false) :=
  law_lifted (C := Try.checked) (tb := 4) started enc own (by kernel_rfl) Try.func10 rfl (fun ds h => by
    match ds, h with
    | [_, _, _, _], _ => rfl) (by kernel_rfl) shapes (by kernel_rfl) (by kernel_rfl)
    (ChangeSpec.witness6 (enc := enc) (C := Try.checked) false ⟨#[], #[.agg #[.int .u8 0, .int .u8 0, .int .u8 0, .int .u8 0, .int .u16 0, .int .u8 0], .agg #[.int .u8 0, .int .u8 0, .int .u8 0, .int .u8 0, .int .u8 0, .int .u8 0, .int .u8 0, .int .u8 0, .int .u8 0, .int .u8 0, .bool false, .bool false, .int .u8 0, .int .u8 0, .int .u8 0, .int .u8 0], .int .u16 0, .agg #[.int .u16 0, .int .u16 0, .int .u16 0, .int .u16 0]], []⟩ 8 (by kernel_rfl) (by kernel_rfl) (by kernel_rfl) (by kernel_rfl)) core

theorem over : Rows.pixelTwiceRow.holds Try.pinned (OpenSpec.ofChange Rows.pixelTwiceSpec) :=
  OpenClaim.holds_of_wide 10 Try.f10 rfl rfl rfl rfl rfl rfl rfl ⟨rfl, rfl, rfl, rfl, rfl⟩ rfl rfl rfl rfl rfl (by kernel_rfl) Try.func10 (by kernel_rfl)
    (of_decide_eq_true (by kernel_rfl)) (by unfold Func.isWrapper; first | (rw [if_pos (by decide +kernel)]; kernel_rfl) | (rw [if_neg (by decide +kernel)]; exact ⟨rfl, rfl⟩))
    (fun os started H enc _ => lifted os started H enc)

/-- The statement. -/
theorem proved : Rows.PixelTwiceSaid := over

end Go.Proofs.Ytbdmaepooahplaa.lawPixelTwice
