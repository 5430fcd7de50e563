/-
  The law 'EdgeSides': called with any arguments it returns true, and its arguments read behind the call as before.
-/
import Derived.Test.YthgjacfikicgnaaRows
import Derived.Test.YthgjacfikicgnaaVMa
import Derived.Test.YthgjacfikicgnaaEe
namespace Go.Proofs.Ythgjacfikicgnaa.lawEdgeSides
open Go Go.RowKit Go.Proofs.Ythgjacfikicgnaa.V Go.Proofs.Ythgjacfikicgnaa

theorem own : ownKnob Try.prog.godebug = none := by kernel_rfl

theorem shapes : argShapes Try.prog Try.f13.params.toList = some [(true, [.int .i64, .int .i64, .int .i64, .int .i64, .int .i64, .int .i64]), (true, [.int .i8, .int .i8, .int .i8, .int .i8, .int .i8, .int .i8]), (true, [.int .i64, .int .i64]), (false, [.int .i8]), (false, [.int .i8])] := by kernel_rfl

theorem core : AllArgs [(true, [.int .i64, .int .i64, .int .i64, .int .i64, .int .i64, .int .i64]), (true, [.int .i8, .int .i8, .int .i8, .int .i8, .int .i8, .int .i8]), (true, [.int .i64, .int .i64]), (false, [.int .i8]), (false, [.int .i8])] fun ar => ∀ (vs : Array Value) (w : World), All2 (LV.rel (fun _ => none)) ar vs.toList → Calls Try.prog 13 vs w fun e w' => e = .returned (.bool true) ∧ Grows w w' := by
  simp only [AllArgs, AllFit]
  intro x0_0 a0_0 b0_0 x0_1 a0_1 b0_1 x0_2 a0_2 b0_2 x0_3 a0_3 b0_3 x0_4 a0_4 b0_4 x0_5 a0_5 b0_5 x1_0 a1_0 b1_0 x1_1 a1_1 b1_1 x1_2 a1_2 b1_2 x1_3 a1_3 b1_3 x1_4 a1_4 b1_4 x1_5 a1_5 b1_5 x2_0 a2_0 b2_0 x2_1 a2_1 b2_1 x3 a3 b3 x4 a4 b4 vs w h
  exact law_core lSides_ok (args := [.g [.int true .i64 x0_0, .int true .i64 x0_1, .int true .i64 x0_2, .int true .i64 x0_3, .int true .i64 x0_4, .int true .i64 x0_5], .g [.int true .i8 x1_0, .int true .i8 x1_1, .int true .i8 x1_2, .int true .i8 x1_3, .int true .i8 x1_4, .int true .i8 x1_5], .g [.int true .i64 x2_0, .int true .i64 x2_1], .a (.int true .i8 x3), .a (.int true .i8 x4)]) (obs := []) (m := true) (b := _) rfl trivial (EdgeSides_true x0_0 a0_0 b0_0 x0_1 a0_1 b0_1 x0_2 a0_2 b0_2 x0_3 a0_3 b0_3 x0_4 a0_4 b0_4 x0_5 a0_5 b0_5 x1_0 a1_0 b1_0 x1_1 a1_1 b1_1 x1_2 a1_2 b1_2 x1_3 a1_3 b1_3 x1_4 a1_4 b1_4 x1_5 a1_5 b1_5 x2_0 a2_0 b2_0 x2_1 a2_1 b2_1 x3 a3 b3 x4 a4 b4) vs w h

set_option maxRecDepth 100000 in
theorem lifted (os : Os) (started : os.Started) (H : Type) (enc : TypeId × Value → H) :
    ReturnsInHanded {} Try.checked os 13 .any (Rows.edgeSidesSpec.pre6 enc Try.prog Try.f13 Rows.edgeSidesRow.domain false) (Rows.edgeSidesSpec.post enc Try.prog Try.f13 false true false false) :=
  law_lifted (C := Try.checked) (tb := 4) started enc own (by kernel_rfl) Try.func13 rfl (fun ds h => by
    match ds, h with
    | [_, _, _, _, _], _ => rfl) (by kernel_rfl) shapes (by kernel_rfl) (by kernel_rfl)
    (ChangeSpec.witness6 (enc := enc) (C := Try.checked) false ⟨#[], #[.agg #[.int .i64 0, .int .i64 0, .int .i64 0, .int .i64 0, .int .i64 0, .int .i64 0], .agg #[.int .i8 0, .int .i8 0, .int .i8 0, .int .i8 0, .int .i8 0, .int .i8 0], .agg #[.int .i64 0, .int .i64 0], .int .i8 0, .int .i8 0], []⟩ 8 (by kernel_rfl) (by kernel_rfl) (by kernel_rfl) (by kernel_rfl)) core

theorem over : Rows.edgeSidesRow.holds Try.pinned (OpenSpec.ofChange Rows.edgeSidesSpec) :=
  OpenClaim.holds_of_wide 13 Try.f13 rfl rfl rfl rfl rfl rfl rfl ⟨rfl, rfl, rfl, rfl, rfl⟩ rfl rfl rfl rfl rfl (by kernel_rfl) Try.func13 (by kernel_rfl)
    (of_decide_eq_true (by kernel_rfl)) (by unfold Func.isWrapper; first | (rw [if_pos (by decide +kernel)]; kernel_rfl) | (rw [if_neg (by decide +kernel)]; exact ⟨rfl, rfl⟩))
    (fun os started H enc _ => lifted os started H enc)

/-- The statement. -/
theorem proved : Rows.EdgeSidesSaid := over

end Go.Proofs.Ythgjacfikicgnaa.lawEdgeSides
