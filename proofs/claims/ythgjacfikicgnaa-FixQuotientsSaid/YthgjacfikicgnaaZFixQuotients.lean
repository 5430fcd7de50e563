/-
  The law 'FixQuotients': called with any arguments it returns true, and its arguments read behind the call as before.
-/
import Derived.Test.YthgjacfikicgnaaRows
import Derived.Test.YthgjacfikicgnaaMa
import Derived.Test.YthgjacfikicgnaaLv
namespace Go.Proofs.Ythgjacfikicgnaa.lawFixQuotients
open Go Go.RowKit Go.Proofs.Ythgjacfikicgnaa.K Go.Proofs.Ythgjacfikicgnaa

theorem own : ownKnob Try.prog.godebug = none := by kernel_rfl

theorem shapes : argShapes Try.prog Try.f4.params.toList = some [(false, [.int .i64]), (false, [.int .i64]), (false, [.int .i32]), (false, [.int .i32])] := by kernel_rfl

theorem core : AllArgs [(false, [.int .i64]), (false, [.int .i64]), (false, [.int .i32]), (false, [.int .i32])] fun ar => ∀ (φ : Phi) (vs : Array Value) (w : World), All2 (LV.rel φ) ar vs.toList → Calls Try.prog 4 vs w fun e w' => e = .returned (.bool true) ∧ Grows w w' := by
  simp only [AllArgs, AllFit]
  intro x0 a0 b0 x1 a1 b1 x2 a2 b2 x3 a3 b3 φ vs w h
  exact law_core lFixQuotients_ok (args := [.a (.int .i64 x0), .a (.int .i64 x1), .a (.int .i32 x2), .a (.int .i32 x3)]) (obs := _) (b := lFixQuotients x0 x1 x2 x3) rfl (FixQuotients_prem x0 x1 (by have h := a1; rw [min_i64] at h; exact h) (by have h := b1; rw [max_i64] at h; exact h) x2 x3 (FixQuotients_true x0 a0 b0 x1 a1 b1 x2 a2 b2 x3 a3 b3)) (FixQuotients_true x0 a0 b0 x1 a1 b1 x2 a2 b2 x3 a3 b3) φ vs w h

set_option maxRecDepth 100000 in
theorem lifted (os : Os) (started : os.Started) (H : Type) (enc : TypeId × Value → H) :
    ReturnsInHanded {} Try.checked os 4 .any (Rows.fixQuotientsSpec.pre6 enc Try.prog Try.f4 Rows.fixQuotientsRow.domain false) (Rows.fixQuotientsSpec.post enc Try.prog Try.f4 false true false false) :=
  law_lifted (C := Try.checked) (tb := 4) started enc own (by kernel_rfl) Try.func4 rfl (fun ds h => by
    match ds, h with
    | [_, _, _, _], _ => rfl) (by kernel_rfl) shapes (by kernel_rfl) (by kernel_rfl)
    (ChangeSpec.witness6 (enc := enc) (C := Try.checked) false ⟨#[], #[.int .i64 0, .int .i64 0, .int .i32 0, .int .i32 0], []⟩ 8 (by kernel_rfl) (by kernel_rfl) (by kernel_rfl) (by kernel_rfl)) core

theorem over : Rows.fixQuotientsRow.holds Try.pinned (OpenSpec.ofChange Rows.fixQuotientsSpec) :=
  OpenClaim.holds_of_wide 4 Try.f4 rfl rfl rfl rfl rfl rfl rfl ⟨rfl, rfl, rfl, rfl, rfl⟩ rfl rfl rfl rfl rfl (by kernel_rfl) Try.func4 (by kernel_rfl)
    (of_decide_eq_true (by kernel_rfl)) (by unfold Func.isWrapper; first | (rw [if_pos (by decide +kernel)]; kernel_rfl) | (rw [if_neg (by decide +kernel)]; exact ⟨rfl, rfl⟩))
    (fun os started H enc _ => lifted os started H enc)

/-- The statement. -/
theorem proved : Rows.FixQuotientsSaid := over

end Go.Proofs.Ythgjacfikicgnaa.lawFixQuotients
