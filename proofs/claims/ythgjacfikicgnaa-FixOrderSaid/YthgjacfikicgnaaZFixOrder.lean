/-
  The law 'FixOrder': called with any arguments it returns true, and its arguments read behind the call as before.
-/
import Derived.Test.YthgjacfikicgnaaRows
import Derived.Test.YthgjacfikicgnaaMa
import Derived.Test.YthgjacfikicgnaaLf
namespace Go.Proofs.Ythgjacfikicgnaa.lawFixOrder
open Go Go.RowKit Go.Proofs.Ythgjacfikicgnaa.K Go.Proofs.Ythgjacfikicgnaa

theorem own : ownKnob Try.prog.godebug = none := by kernel_rfl

theorem shapes : argShapes Try.prog Try.f7.params.toList = some [(false, [.int .i32]), (false, [.int .i32]), (false, [.int .i32])] := by kernel_rfl

theorem core : AllArgs [(false, [.int .i32]), (false, [.int .i32]), (false, [.int .i32])] fun ar => ∀ (φ : Phi) (vs : Array Value) (w : World), All2 (LV.rel φ) ar vs.toList → Calls Try.prog 7 vs w fun e w' => e = .returned (.bool true) ∧ Grows w w' := by
  simp only [AllArgs, AllFit]
  intro x0 a0 b0 x1 a1 b1 x2 a2 b2 φ vs w h
  exact law_core lFixOrder_ok (args := [.a (.int .i32 x0), .a (.int .i32 x1), .a (.int .i32 x2)]) (obs := []) (b := lFixOrder x0 x1 x2) rfl trivial (FixOrder_true x0 a0 b0 x1 a1 b1 x2 a2 b2) φ vs w h

set_option maxRecDepth 100000 in
theorem lifted (os : Os) (started : os.Started) (H : Type) (enc : TypeId × Value → H) :
    ReturnsInHanded {} Try.checked os 7 .any (Rows.fixOrderSpec.pre6 enc Try.prog Try.f7 Rows.fixOrderRow.domain false) (Rows.fixOrderSpec.post enc Try.prog Try.f7 false true false false) :=
  law_lifted (C := Try.checked) (tb := 4) started enc own (by kernel_rfl) Try.func7 rfl (fun ds h => by
    match ds, h with
    | [_, _, _], _ => rfl) (by kernel_rfl) shapes (by kernel_rfl) (by kernel_rfl)
    (ChangeSpec.witness6 (enc := enc) (C := Try.checked) false ⟨#[], #[.int .i32 0, .int .i32 0, .int .i32 0], []⟩ 8 (by kernel_rfl) (by kernel_rfl) (by kernel_rfl) (by kernel_rfl)) core

theorem over : Rows.fixOrderRow.holds Try.pinned (OpenSpec.ofChange Rows.fixOrderSpec) :=
  OpenClaim.holds_of_wide 7 Try.f7 rfl rfl rfl rfl rfl rfl rfl ⟨rfl, rfl, rfl, rfl, rfl⟩ rfl rfl rfl rfl rfl (by kernel_rfl) Try.func7 (by kernel_rfl)
    (of_decide_eq_true (by kernel_rfl)) (by unfold Func.isWrapper; first | (rw [if_pos (by decide +kernel)]; kernel_rfl) | (rw [if_neg (by decide +kernel)]; exact ⟨rfl, rfl⟩))
    (fun os started H enc _ => lifted os started H enc)

/-- The statement. -/
theorem proved : Rows.FixOrderSaid := over

end Go.Proofs.Ythgjacfikicgnaa.lawFixOrder
