/-
  The law 'EdgeShared': called with any arguments it returns true, and its arguments read behind the call as before.
-/
import Derived.Test.YthgjacfikicgnaaRows
import Derived.Test.YthgjacfikicgnaaVMa
import Derived.Test.YthgjacfikicgnaaEd
namespace Go.Proofs.Ythgjacfikicgnaa.lawEdgeShared
open Go Go.RowKit Go.Proofs.Ythgjacfikicgnaa.V Go.Proofs.Ythgjacfikicgnaa

theorem own : ownKnob Try.prog.godebug = none := by kernel_rfl

theorem shapes : argShapes Try.prog Try.f8.params.toList = some [(true, [.int .i8, .int .i8]), (true, [.int .i8, .int .i8]), (true, [.int .i8, .int .i8]), (true, [.int .i8, .int .i8]), (false, [.int .i8]), (false, [.int .i8])] := by kernel_rfl

theorem core : AllArgs [(true, [.int .i8, .int .i8]), (true, [.int .i8, .int .i8]), (true, [.int .i8, .int .i8]), (true, [.int .i8, .int .i8]), (false, [.int .i8]), (false, [.int .i8])] fun ar => ∀ (vs : Array Value) (w : World), All2 (LV.rel (fun _ => none)) ar vs.toList → Calls Try.prog 8 vs w fun e w' => e = .returned (.bool true) ∧ Grows w w' := by
  simp only [AllArgs, AllFit]
  intro x0_0 a0_0 b0_0 x0_1 a0_1 b0_1 x1_0 a1_0 b1_0 x1_1 a1_1 b1_1 x2_0 a2_0 b2_0 x2_1 a2_1 b2_1 x3_0 a3_0 b3_0 x3_1 a3_1 b3_1 x4 a4 b4 x5 a5 b5 vs w h
  exact law_core lShared_ok (args := [.g [.int true .i8 x0_0, .int true .i8 x0_1], .g [.int true .i8 x1_0, .int true .i8 x1_1], .g [.int true .i8 x2_0, .int true .i8 x2_1], .g [.int true .i8 x3_0, .int true .i8 x3_1], .a (.int true .i8 x4), .a (.int true .i8 x5)]) (obs := []) (m := true) (b := _) rfl trivial (EdgeShared_true x0_0 a0_0 b0_0 x0_1 a0_1 b0_1 x1_0 a1_0 b1_0 x1_1 a1_1 b1_1 x2_0 a2_0 b2_0 x2_1 a2_1 b2_1 x3_0 a3_0 b3_0 x3_1 a3_1 b3_1 x4 a4 b4 x5 a5 b5) vs w h

set_option maxRecDepth 100000 in
theorem lifted (os : Os) (started : os.Started) (H : Type) (enc : TypeId × Value → H) :
    ReturnsInHanded {} Try.checked os 8 .any (Rows.edgeSharedSpec.pre6 enc Try.prog Try.f8 Rows.edgeSharedRow.domain false) (Rows.edgeSharedSpec.post enc Try.prog Try.f8 false true false false) :=
  law_lifted (C := Try.checked) (tb := 4) started enc own (by kernel_rfl) Try.func8 rfl (fun ds h => by
    match ds, h with
    | [_, _, _, _, _, _], _ => rfl) (by kernel_rfl) shapes (by kernel_rfl) (by kernel_rfl)
    (ChangeSpec.witness6 (enc := enc) (C := Try.checked) false ⟨#[], #[.agg #[.int .i8 0, .int .i8 0], .agg #[.int .i8 0, .int .i8 0], .agg #[.int .i8 0, .int .i8 0], .agg #[.int .i8 0, .int .i8 0], .int .i8 0, .int .i8 0], []⟩ 8 (by kernel_rfl) (by kernel_rfl) (by kernel_rfl) (by kernel_rfl)) core

theorem over : Rows.edgeSharedRow.holds Try.pinned (OpenSpec.ofChange Rows.edgeSharedSpec) :=
  OpenClaim.holds_of_wide 8 Try.f8 rfl rfl rfl rfl rfl rfl rfl ⟨rfl, rfl, rfl, rfl, rfl⟩ rfl rfl rfl rfl rfl (by kernel_rfl) Try.func8 (by kernel_rfl)
    (of_decide_eq_true (by kernel_rfl)) (by unfold Func.isWrapper; first | (rw [if_pos (by decide +kernel)]; kernel_rfl) | (rw [if_neg (by decide +kernel)]; exact ⟨rfl, rfl⟩))
    (fun os started H enc _ => lifted os started H enc)

/-- The statement. -/
theorem proved : Rows.EdgeSharedSaid := over

end Go.Proofs.Ythgjacfikicgnaa.lawEdgeShared
