/-
  The law 'PixelBlends': called with any arguments it returns true, and its arguments read behind the call as before.
-/
import Derived.Test.YtbdmaepooahplaaRows
import Derived.Test.YtbdmaepooahplaaVMa
import Derived.Test.YtbdmaepooahplaaPd
namespace Go.Proofs.Ytbdmaepooahplaa.lawPixelBlends
open Go Go.RowKit Go.Proofs.Ytbdmaepooahplaa.V Go.Proofs.Ytbdmaepooahplaa

theorem own : ownKnob Try.prog.godebug = none := by kernel_rfl

theorem shapes : argShapes Try.prog Try.f7.params.toList = some [(false, [.int .u8]), (false, [.int .u8]), (true, [.int .u8, .int .u8, .int .u8, .int .u8]), (true, [.int .u8, .int .u8, .int .u8, .int .u8]), (true, [.int .i64, .int .i64, .int .i64, .int .i64])] := by kernel_rfl

theorem core : AllArgs [(false, [.int .u8]), (false, [.int .u8]), (true, [.int .u8, .int .u8, .int .u8, .int .u8]), (true, [.int .u8, .int .u8, .int .u8, .int .u8]), (true, [.int .i64, .int .i64, .int .i64, .int .i64])] fun ar => ∀ (vs : Array Value) (w : World), All2 (LV.rel (fun _ => none)) ar vs.toList → Calls Try.prog 7 vs w fun e w' => e = .returned (.bool true) ∧ Grows w w' := by
  simp only [AllArgs, AllFit]
  intro x0 a0 b0 x1 a1 b1 x2_0 a2_0 b2_0 x2_1 a2_1 b2_1 x2_2 a2_2 b2_2 x2_3 a2_3 b2_3 x3_0 a3_0 b3_0 x3_1 a3_1 b3_1 x3_2 a3_2 b3_2 x3_3 a3_3 b3_3 x4_0 a4_0 b4_0 x4_1 a4_1 b4_1 x4_2 a4_2 b4_2 x4_3 a4_3 b4_3 vs w h
  exact law_core lBlends_ok (args := [.a (.int true .u8 x0), .a (.int true .u8 x1), .g [.int true .u8 x2_0, .int true .u8 x2_1, .int true .u8 x2_2, .int true .u8 x2_3], .g [.int true .u8 x3_0, .int true .u8 x3_1, .int true .u8 x3_2, .int true .u8 x3_3], .g [.int true .i64 x4_0, .int true .i64 x4_1, .int true .i64 x4_2, .int true .i64 x4_3]]) (obs := []) (m := true) (b := _) rfl trivial (PixelBlends_true x0 a0 b0 x1 a1 b1 x2_0 a2_0 b2_0 x2_1 a2_1 b2_1 x2_2 a2_2 b2_2 x2_3 a2_3 b2_3 x3_0 a3_0 b3_0 x3_1 a3_1 b3_1 x3_2 a3_2 b3_2 x3_3 a3_3 b3_3 x4_0 a4_0 b4_0 x4_1 a4_1 b4_1 x4_2 a4_2 b4_2 x4_3 a4_3 b4_3) vs w h

set_option maxRecDepth 100000 in
theorem lifted (os : Os) (started : os.Started) (H : Type) (enc : TypeId × Value → H) :
    ReturnsInHanded {} Try.checked os 7 .any (Rows.pixelBlendsSpec.pre6 enc Try.prog Try.f7 Rows.pixelBlendsRow.domain false) (Rows.pixelBlendsSpec.post enc Try.prog Try.f7 false true false false) :=
  law_lifted (C := Try.checked) (tb := 4) started enc own (by kernel_rfl) Try.func7 rfl (fun ds h => by
    match ds, h with
    | [_, _, _, _, _], _ => rfl) (by kernel_rfl) shapes (by kernel_rfl) (by kernel_rfl)
    (ChangeSpec.witness6 (enc := enc) (C := Try.checked) false ⟨#[], #[.int .u8 0, .int .u8 0, .agg #[.int .u8 0, .int .u8 0, .int .u8 0, .int .u8 0], .agg #[.int .u8 0, .int .u8 0, .int .u8 0, .int .u8 0], .agg #[.int .i64 0, .int .i64 0, .int .i64 0, .int .i64 0]], []⟩ 8 (by kernel_rfl) (by kernel_rfl) (by kernel_rfl) (by kernel_rfl)) core

theorem over : Rows.pixelBlendsRow.holds Try.pinned (OpenSpec.ofChange Rows.pixelBlendsSpec) :=
  OpenClaim.holds_of_wide 7 Try.f7 rfl rfl rfl rfl rfl rfl rfl ⟨rfl, rfl, rfl, rfl, rfl⟩ rfl rfl rfl rfl rfl (by kernel_rfl) Try.func7 (by kernel_rfl)
    (of_decide_eq_true (by kernel_rfl)) (by unfold Func.isWrapper; first | (rw [if_pos (by decide +kernel)]; kernel_rfl) | (rw [if_neg (by decide +kernel)]; exact ⟨rfl, rfl⟩))
    (fun os started H enc _ => lifted os started H enc)

/-- The statement. -/
theorem proved : Rows.PixelBlendsSaid := over

end Go.Proofs.Ytbdmaepooahplaa.lawPixelBlends
