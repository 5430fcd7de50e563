/-
  The law 'BinBoxes': called with any arguments it returns true, and its arguments read behind the call as before.
-/
import Derived.Test.YthgjacfikicgnaaRows
import Derived.Test.YthgjacfikicgnaaVMa
import Derived.Test.YthgjacfikicgnaaBg
namespace Go.Proofs.Ythgjacfikicgnaa.lawBinBoxes
open Go Go.RowKit Go.Proofs.Ythgjacfikicgnaa.V Go.Proofs.Ythgjacfikicgnaa

theorem own : ownKnob Try.prog.godebug = none := by kernel_rfl

theorem shapes : argShapes Try.prog Try.f14.params.toList = some [(false, [.int .u8]), (false, [.int .u8]), (false, [.int .u8]), (false, [.int .u8]), (true, [.int .i8, .int .i8, .int .i8, .int .i8]), (true, [.int .i8, .int .i8, .int .i8, .int .i8]), (false, [.int .i64])] := by kernel_rfl

theorem core : AllArgs [(false, [.int .u8]), (false, [.int .u8]), (false, [.int .u8]), (false, [.int .u8]), (true, [.int .i8, .int .i8, .int .i8, .int .i8]), (true, [.int .i8, .int .i8, .int .i8, .int .i8]), (false, [.int .i64])] fun ar => ∀ (vs : Array Value) (w : World), All2 (LV.rel (fun _ => none)) ar vs.toList → Calls Try.prog 14 vs w fun e w' => e = .returned (.bool true) ∧ Grows w w' := by
  simp only [AllArgs, AllFit]
  intro x0 a0 b0 x1 a1 b1 x2 a2 b2 x3 a3 b3 x4_0 a4_0 b4_0 x4_1 a4_1 b4_1 x4_2 a4_2 b4_2 x4_3 a4_3 b4_3 x5_0 a5_0 b5_0 x5_1 a5_1 b5_1 x5_2 a5_2 b5_2 x5_3 a5_3 b5_3 x6 a6 b6 vs w h
  exact law_core lBinBoxes_ok (args := [.a (.int true .u8 x0), .a (.int true .u8 x1), .a (.int true .u8 x2), .a (.int true .u8 x3), .g [.int true .i8 x4_0, .int true .i8 x4_1, .int true .i8 x4_2, .int true .i8 x4_3], .g [.int true .i8 x5_0, .int true .i8 x5_1, .int true .i8 x5_2, .int true .i8 x5_3], .a (.int true .i64 x6)]) (obs := _) (m := true) (b := _) rfl (BinBoxes_obs x0 a0 b0 x1 a1 b1 x2 a2 b2 x3 a3 b3 x4_0 a4_0 b4_0 x4_1 a4_1 b4_1 x4_2 a4_2 b4_2 x4_3 a4_3 b4_3 x5_0 a5_0 b5_0 x5_1 a5_1 b5_1 x5_2 a5_2 b5_2 x5_3 a5_3 b5_3 x6 a6 b6) (BinBoxes_true x0 a0 b0 x1 a1 b1 x2 a2 b2 x3 a3 b3 x4_0 a4_0 b4_0 x4_1 a4_1 b4_1 x4_2 a4_2 b4_2 x4_3 a4_3 b4_3 x5_0 a5_0 b5_0 x5_1 a5_1 b5_1 x5_2 a5_2 b5_2 x5_3 a5_3 b5_3 x6 a6 b6) vs w h

set_option maxRecDepth 100000 in
theorem lifted (os : Os) (started : os.Started) (H : Type) (enc : TypeId × Value → H) :
    ReturnsInHanded {} Try.checked os 14 .any (Rows.binBoxesSpec.pre6 enc Try.prog Try.f14 Rows.binBoxesRow.domain false) (Rows.binBoxesSpec.post enc Try.prog Try.f14 false true false false) :=
  law_lifted (C := Try.checked) (tb := 4) started enc own (by kernel_rfl) Try.func14 rfl (fun ds h => by
    match ds, h with
    | [_, _, _, _, _, _, _], _ => rfl) (by kernel_rfl) shapes (by kernel_rfl) (by kernel_rfl)
    (ChangeSpec.witness6 (enc := enc) (C := Try.checked) false ⟨#[], #[.int .u8 0, .int .u8 0, .int .u8 0, .int .u8 0, .agg #[.int .i8 0, .int .i8 0, .int .i8 0, .int .i8 0], .agg #[.int .i8 0, .int .i8 0, .int .i8 0, .int .i8 0], .int .i64 0], []⟩ 8 (by kernel_rfl) (by kernel_rfl) (by kernel_rfl) (by kernel_rfl)) core

theorem over : Rows.binBoxesRow.holds Try.pinned (OpenSpec.ofChange Rows.binBoxesSpec) :=
  OpenClaim.holds_of_wide 14 Try.f14 rfl rfl rfl rfl rfl rfl rfl ⟨rfl, rfl, rfl, rfl, rfl⟩ rfl rfl rfl rfl rfl (by kernel_rfl) Try.func14 (by kernel_rfl)
    (of_decide_eq_true (by kernel_rfl)) (by unfold Func.isWrapper; first | (rw [if_pos (by decide +kernel)]; kernel_rfl) | (rw [if_neg (by decide +kernel)]; exact ⟨rfl, rfl⟩))
    (fun os started H enc _ => lifted os started H enc)

/-- The statement. -/
theorem proved : Rows.BinBoxesSaid := over

end Go.Proofs.Ythgjacfikicgnaa.lawBinBoxes
