/-
  The law 'ClipCrosses': called with any arguments it returns true, and its arguments read behind the call as before.
-/
import Derived.Test.YtbdmaepooahplaaRows
import Derived.Test.YtbdmaepooahplaaVMa
import Derived.Test.YtbdmaepooahplaaCh
namespace Go.Proofs.Ytbdmaepooahplaa.lawClipCrosses
open Go Go.RowKit Go.Proofs.Ytbdmaepooahplaa.V Go.Proofs.Ytbdmaepooahplaa

theorem own : ownKnob Try.prog.godebug = none := by kernel_rfl

theorem shapes : argShapes Try.prog Try.f15.params.toList = some [(true, [.int .i16, .int .i16, .int .i16, .int .i16, .int .u8, .int .u8, .int .u8, .int .u8, .bool]), (true, [.int .i16, .int .i16, .int .i16, .int .i16, .int .u8, .int .u8, .int .u8, .int .u8, .bool]), (false, [.int .u8])] := by kernel_rfl

theorem core : AllArgs [(true, [.int .i16, .int .i16, .int .i16, .int .i16, .int .u8, .int .u8, .int .u8, .int .u8, .bool]), (true, [.int .i16, .int .i16, .int .i16, .int .i16, .int .u8, .int .u8, .int .u8, .int .u8, .bool]), (false, [.int .u8])] fun ar => ∀ (vs : Array Value) (w : World), All2 (LV.rel (fun _ => none)) ar vs.toList → Calls Try.prog 15 vs w fun e w' => e = .returned (.bool true) ∧ Grows w w' := by
  simp only [AllArgs, AllFit]
  intro x0_0 a0_0 b0_0 x0_1 a0_1 b0_1 x0_2 a0_2 b0_2 x0_3 a0_3 b0_3 x0_4 a0_4 b0_4 x0_5 a0_5 b0_5 x0_6 a0_6 b0_6 x0_7 a0_7 b0_7 x0_8 x1_0 a1_0 b1_0 x1_1 a1_1 b1_1 x1_2 a1_2 b1_2 x1_3 a1_3 b1_3 x1_4 a1_4 b1_4 x1_5 a1_5 b1_5 x1_6 a1_6 b1_6 x1_7 a1_7 b1_7 x1_8 x2 a2 b2 vs w h
  exact law_core lCrosses_ok (args := [.g [.int true .i16 x0_0, .int true .i16 x0_1, .int true .i16 x0_2, .int true .i16 x0_3, .int true .u8 x0_4, .int true .u8 x0_5, .int true .u8 x0_6, .int true .u8 x0_7, .bool true x0_8], .g [.int true .i16 x1_0, .int true .i16 x1_1, .int true .i16 x1_2, .int true .i16 x1_3, .int true .u8 x1_4, .int true .u8 x1_5, .int true .u8 x1_6, .int true .u8 x1_7, .bool true x1_8], .a (.int true .u8 x2)]) (obs := _) (m := true) (b := _) rfl (ClipCrosses_obs x0_0 a0_0 b0_0 x0_1 a0_1 b0_1 x0_2 a0_2 b0_2 x0_3 a0_3 b0_3 x0_4 a0_4 b0_4 x0_5 a0_5 b0_5 x0_6 a0_6 b0_6 x0_7 a0_7 b0_7 x0_8 x1_0 a1_0 b1_0 x1_1 a1_1 b1_1 x1_2 a1_2 b1_2 x1_3 a1_3 b1_3 x1_4 a1_4 b1_4 x1_5 a1_5 b1_5 x1_6 a1_6 b1_6 x1_7 a1_7 b1_7 x1_8 x2 a2 b2) (ClipCrosses_true x0_0 a0_0 b0_0 x0_1 a0_1 b0_1 x0_2 a0_2 b0_2 x0_3 a0_3 b0_3 x0_4 a0_4 b0_4 x0_5 a0_5 b0_5 x0_6 a0_6 b0_6 x0_7 a0_7 b0_7 x0_8 x1_0 a1_0 b1_0 x1_1 a1_1 b1_1 x1_2 a1_2 b1_2 x1_3 a1_3 b1_3 x1_4 a1_4 b1_4 x1_5 a1_5 b1_5 x1_6 a1_6 b1_6 x1_7 a1_7 b1_7 x1_8 x2 a2 b2) vs w h

set_option maxRecDepth 100000 in
theorem lifted (os : Os) (started : os.Started) (H : Type) (enc : TypeId × Value → H) :
    ReturnsInHanded {} Try.checked os 15 .any (Rows.clipCrossesSpec.pre6 enc Try.prog Try.f15 Rows.clipCrossesRow.domain false) (Rows.clipCrossesSpec.post enc Try.prog Try.f15 false true false false) :=
  law_lifted (C := Try.checked) (tb := 4) started enc own (by kernel_rfl) Try.func15 rfl (fun ds h => by
    match ds, h with
    | [_, _, _], _ => rfl) (by kernel_rfl) shapes (by kernel_rfl) (by kernel_rfl)
    (ChangeSpec.witness6 (enc := enc) (C := Try.checked) false ⟨#[], #[.agg #[.int .i16 0, .int .i16 0, .int .i16 0, .int .i16 0, .int .u8 0, .int .u8 0, .int .u8 0, .int .u8 0, .bool false], .agg #[.int .i16 0, .int .i16 0, .int .i16 0, .int .i16 0, .int .u8 0, .int .u8 0, .int .u8 0, .int .u8 0, .bool false], .int .u8 0], []⟩ 8 (by kernel_rfl) (by kernel_rfl) (by kernel_rfl) (by kernel_rfl)) core

theorem over : Rows.clipCrossesRow.holds Try.pinned (OpenSpec.ofChange Rows.clipCrossesSpec) :=
  OpenClaim.holds_of_wide 15 Try.f15 rfl rfl rfl rfl rfl rfl rfl ⟨rfl, rfl, rfl, rfl, rfl⟩ rfl rfl rfl rfl rfl (by kernel_rfl) Try.func15 (by kernel_rfl)
    (of_decide_eq_true (by kernel_rfl)) (by unfold Func.isWrapper; first | (rw [if_pos (by decide +kernel)]; kernel_rfl) | (rw [if_neg (by decide +kernel)]; exact ⟨rfl, rfl⟩))
    (fun os started H enc _ => lifted os started H enc)

/-- The statement. -/
theorem proved : Rows.ClipCrossesSaid := over

end Go.Proofs.Ytbdmaepooahplaa.lawClipCrosses
