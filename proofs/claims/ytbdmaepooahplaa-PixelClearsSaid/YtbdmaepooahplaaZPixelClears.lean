/-
  The law 'PixelClears': called with any arguments it returns true, and its arguments read behind the call as before.
-/
import Derived.Test.YtbdmaepooahplaaRows
import Derived.Test.YtbdmaepooahplaaVMa
import Derived.Test.YtbdmaepooahplaaPd
namespace Go.Proofs.Ytbdmaepooahplaa.lawPixelClears
open Go Go.RowKit Go.Proofs.Ytbdmaepooahplaa.V Go.Proofs.Ytbdmaepooahplaa

theorem own : ownKnob Try.prog.godebug = none := by kernel_rfl

theorem shapes : argShapes Try.prog Try.f18.params.toList = some [(true, [.int .u8, .int .u8, .int .u8, .int .u8, .int .u16, .int .u8]), (true, [.int .u8, .int .u8, .int .u8, .int .u8, .int .u16, .int .u8]), (false, [.int .u8])] := by kernel_rfl

theorem core : AllArgs [(true, [.int .u8, .int .u8, .int .u8, .int .u8, .int .u16, .int .u8]), (true, [.int .u8, .int .u8, .int .u8, .int .u8, .int .u16, .int .u8]), (false, [.int .u8])] fun ar => ∀ (vs : Array Value) (w : World), All2 (LV.rel (fun _ => none)) ar vs.toList → Calls Try.prog 18 vs w fun e w' => e = .returned (.bool true) ∧ Grows w w' := by
  simp only [AllArgs, AllFit]
  intro x0_0 a0_0 b0_0 x0_1 a0_1 b0_1 x0_2 a0_2 b0_2 x0_3 a0_3 b0_3 x0_4 a0_4 b0_4 x0_5 a0_5 b0_5 x1_0 a1_0 b1_0 x1_1 a1_1 b1_1 x1_2 a1_2 b1_2 x1_3 a1_3 b1_3 x1_4 a1_4 b1_4 x1_5 a1_5 b1_5 x2 a2 b2 vs w h
  exact law_core lClears_ok (args := [.g [.int true .u8 x0_0, .int true .u8 x0_1, .int true .u8 x0_2, .int true .u8 x0_3, .int true .u16 x0_4, .int true .u8 x0_5], .g [.int true .u8 x1_0, .int true .u8 x1_1, .int true .u8 x1_2, .int true .u8 x1_3, .int true .u16 x1_4, .int true .u8 x1_5], .a (.int true .u8 x2)]) (obs := []) (m := true) (b := _) rfl trivial (PixelClears_true x0_0 a0_0 b0_0 x0_1 a0_1 b0_1 x0_2 a0_2 b0_2 x0_3 a0_3 b0_3 x0_4 a0_4 b0_4 x0_5 a0_5 b0_5 x1_0 a1_0 b1_0 x1_1 a1_1 b1_1 x1_2 a1_2 b1_2 x1_3 a1_3 b1_3 x1_4 a1_4 b1_4 x1_5 a1_5 b1_5 x2 a2 b2) vs w h

set_option maxRecDepth 100000 in
theorem lifted (os : Os) (started : os.Started) (H : Type) (enc : TypeId × Value → H) :
    ReturnsInHanded {} Try.checked os 18 .any (Rows.pixelClearsSpec.pre6 enc Try.prog Try.f18 Rows.pixelClearsRow.domain false) (Rows.pixelClearsSpec.post enc Try.prog Try.f18 false true false false) :=
  law_lifted (C := Try.checked) (tb := 4) started enc own (by kernel_rfl) Try.func18 rfl (fun ds h => by
    match ds, h with
    | [_, _, _], _ => rfl) (by kernel_rfl) shapes (by kernel_rfl) (by kernel_rfl)
    (ChangeSpec.witness6 (enc := enc) (C := Try.checked) false ⟨#[], #[.agg #[.int .u8 0, .int .u8 0, .int .u8 0, .int .u8 0, .int .u16 0, .int .u8 0], .agg #[.int .u8 0, .int .u8 0, .int .u8 0, .int .u8 0, .int .u16 0, .int .u8 0], .int .u8 0], []⟩ 8 (by kernel_rfl) (by kernel_rfl) (by kernel_rfl) (by kernel_rfl)) core

theorem over : Rows.pixelClearsRow.holds Try.pinned (OpenSpec.ofChange Rows.pixelClearsSpec) :=
  OpenClaim.holds_of_wide 18 Try.f18 rfl rfl rfl rfl rfl rfl rfl ⟨rfl, rfl, rfl, rfl, rfl⟩ rfl rfl rfl rfl rfl (by kernel_rfl) Try.func18 (by kernel_rfl)
    (of_decide_eq_true (by kernel_rfl)) (by unfold Func.isWrapper; first | (rw [if_pos (by decide +kernel)]; kernel_rfl) | (rw [if_neg (by decide +kernel)]; exact ⟨rfl, rfl⟩))
    (fun os started H enc _ => lifted os started H enc)

/-- The statement. -/
theorem proved : Rows.PixelClearsSaid := over

end Go.Proofs.Ytbdmaepooahplaa.lawPixelClears
