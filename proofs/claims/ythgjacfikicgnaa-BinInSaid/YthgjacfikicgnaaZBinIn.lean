/-
  The law 'BinIn': called with any arguments it returns true, and its arguments read behind the call as before.
-/
import Derived.Test.YthgjacfikicgnaaRows
import Derived.Test.YthgjacfikicgnaaVMa
import Derived.Test.YthgjacfikicgnaaBi
namespace Go.Proofs.Ythgjacfikicgnaa.lawBinIn
open Go Go.RowKit Go.Proofs.Ythgjacfikicgnaa.V Go.Proofs.Ythgjacfikicgnaa

theorem own : ownKnob Try.prog.godebug = none := by kernel_rfl

theorem shapes : argShapes Try.prog Try.f15.params.toList = some [(false, [.int .u8]), (false, [.int .u8]), (true, [.int .i8, .int .i8, .int .i8, .int .i8])] := by kernel_rfl

theorem core : AllArgs [(false, [.int .u8]), (false, [.int .u8]), (true, [.int .i8, .int .i8, .int .i8, .int .i8])] fun ar => ∀ (vs : Array Value) (w : World), All2 (LV.rel (fun _ => none)) ar vs.toList → Calls Try.prog 15 vs w fun e w' => e = .returned (.bool true) ∧ Grows w w' := by
  simp only [AllArgs, AllFit]
  intro x0 a0 b0 x1 a1 b1 x2_0 a2_0 b2_0 x2_1 a2_1 b2_1 x2_2 a2_2 b2_2 x2_3 a2_3 b2_3 vs w h
  exact law_core lBinIn_ok (args := [.a (.int true .u8 x0), .a (.int true .u8 x1), .g [.int true .i8 x2_0, .int true .i8 x2_1, .int true .i8 x2_2, .int true .i8 x2_3]]) (obs := _) (m := true) (b := _) rfl (BinIn_obs x0 a0 b0 x1 a1 b1 x2_0 a2_0 b2_0 x2_1 a2_1 b2_1 x2_2 a2_2 b2_2 x2_3 a2_3 b2_3) (BinIn_true x0 a0 b0 x1 a1 b1 x2_0 a2_0 b2_0 x2_1 a2_1 b2_1 x2_2 a2_2 b2_2 x2_3 a2_3 b2_3) vs w h

set_option maxRecDepth 100000 in
theorem lifted (os : Os) (started : os.Started) (H : Type) (enc : TypeId × Value → H) :
    ReturnsInHanded {} Try.checked os 15 .any (Rows.binInSpec.pre6 enc Try.prog Try.f15 Rows.binInRow.domain false) (Rows.binInSpec.post enc Try.prog Try.f15 false true false false) :=
  law_lifted (C := Try.checked) (tb := 4) started enc own (by kernel_rfl) Try.func15 rfl (fun ds h => by
    match ds, h with
    | [_, _, _], _ => rfl) (by kernel_rfl) shapes (by kernel_rfl) (by kernel_rfl)
    (ChangeSpec.witness6 (enc := enc) (C := Try.checked) false ⟨#[], #[.int .u8 0, .int .u8 0, .agg #[.int .i8 0, .int .i8 0, .int .i8 0, .int .i8 0]], []⟩ 8 (by kernel_rfl) (by kernel_rfl) (by kernel_rfl) (by kernel_rfl)) core

theorem over : Rows.binInRow.holds Try.pinned (OpenSpec.ofChange Rows.binInSpec) :=
  OpenClaim.holds_of_wide 15 Try.f15 rfl rfl rfl rfl rfl rfl rfl ⟨rfl, rfl, rfl, rfl, rfl⟩ rfl rfl rfl rfl rfl (by kernel_rfl) Try.func15 (by kernel_rfl)
    (of_decide_eq_true (by kernel_rfl)) (by unfold Func.isWrapper; first | (rw [if_pos (by decide +kernel)]; kernel_rfl) | (rw [if_neg (by decide +kernel)]; exact ⟨rfl, rfl⟩))
    (fun os started H enc _ => lifted os started H enc)

/-- The statement. -/
theorem proved : Rows.BinInSaid := over

end Go.Proofs.Ythgjacfikicgnaa.lawBinIn
