/-
  The law 'BinOwn': called with any arguments it returns true, and its arguments read behind the call as before.
-/
import Derived.Test.YthgjacfikicgnaaRows
import Derived.Test.YthgjacfikicgnaaVMa
import Derived.Test.YthgjacfikicgnaaBd
namespace Go.Proofs.Ythgjacfikicgnaa.lawBinOwn
open Go Go.RowKit Go.Proofs.Ythgjacfikicgnaa.V Go.Proofs.Ythgjacfikicgnaa

theorem own : ownKnob Try.prog.godebug = none := by kernel_rfl

theorem shapes : argShapes Try.prog Try.f16.params.toList = some [(false, [.int .u8]), (false, [.int .u8]), (false, [.int .u8])] := by kernel_rfl

theorem core : AllArgs [(false, [.int .u8]), (false, [.int .u8]), (false, [.int .u8])] fun ar => ∀ (vs : Array Value) (w : World), All2 (LV.rel (fun _ => none)) ar vs.toList → Calls Try.prog 16 vs w fun e w' => e = .returned (.bool true) ∧ Grows w w' := by
  simp only [AllArgs, AllFit]
  intro x0 a0 b0 x1 a1 b1 x2 a2 b2 vs w h
  exact law_core lOwn_ok (args := [.a (.int true .u8 x0), .a (.int true .u8 x1), .a (.int true .u8 x2)]) (obs := _) (m := true) (b := _) rfl (BinOwn_obs x0 a0 b0 x1 a1 b1 x2 a2 b2) (BinOwn_true x0 a0 b0 x1 a1 b1 x2 a2 b2) vs w h

set_option maxRecDepth 100000 in
theorem lifted (os : Os) (started : os.Started) (H : Type) (enc : TypeId × Value → H) :
    ReturnsInHanded {} Try.checked os 16 .any (Rows.binOwnSpec.pre6 enc Try.prog Try.f16 Rows.binOwnRow.domain false) (Rows.binOwnSpec.post enc Try.prog Try.f16 false true false false) :=
  law_lifted (C := Try.checked) (tb := 4) started enc own (by kernel_rfl) Try.func16 rfl (fun ds h => by
    match ds, h with
    | [_, _, _], _ => rfl) (by kernel_rfl) shapes (by kernel_rfl) (by kernel_rfl)
    (ChangeSpec.witness6 (enc := enc) (C := Try.checked) false ⟨#[], #[.int .u8 0, .int .u8 0, .int .u8 0], []⟩ 8 (by kernel_rfl) (by kernel_rfl) (by kernel_rfl) (by kernel_rfl)) core

theorem over : Rows.binOwnRow.holds Try.pinned (OpenSpec.ofChange Rows.binOwnSpec) :=
  OpenClaim.holds_of_wide 16 Try.f16 rfl rfl rfl rfl rfl rfl rfl ⟨rfl, rfl, rfl, rfl, rfl⟩ rfl rfl rfl rfl rfl (by kernel_rfl) Try.func16 (by kernel_rfl)
    (of_decide_eq_true (by kernel_rfl)) (by unfold Func.isWrapper; first | (rw [if_pos (by decide +kernel)]; kernel_rfl) | (rw [if_neg (by decide +kernel)]; exact ⟨rfl, rfl⟩))
    (fun os started H enc _ => lifted os started H enc)

/-- The statement. -/
theorem proved : Rows.BinOwnSaid := over

end Go.Proofs.Ythgjacfikicgnaa.lawBinOwn
