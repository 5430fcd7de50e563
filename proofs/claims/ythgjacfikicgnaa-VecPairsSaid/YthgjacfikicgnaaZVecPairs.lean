/-
  The law 'VecPairs': called with any arguments it returns true, and its arguments read behind the call as before.
-/
import Derived.Test.YthgjacfikicgnaaRows
import Derived.Test.YthgjacfikicgnaaMa
import Derived.Test.YthgjacfikicgnaaLxA
namespace Go.Proofs.Ythgjacfikicgnaa.lawVecPairs
open Go Go.RowKit Go.Proofs.Ythgjacfikicgnaa.K Go.Proofs.Ythgjacfikicgnaa

theorem own : ownKnob Try.prog.godebug = none := by kernel_rfl

theorem shapes : argShapes Try.prog Try.f22.params.toList = some [(true, [.int .i64, .int .i64, .int .i64, .int .i64]), (true, [.int .i64, .int .i64, .int .i64, .int .i64]), (false, [.int .i64]), (false, [.int .i64])] := by kernel_rfl

theorem core : AllArgs [(true, [.int .i64, .int .i64, .int .i64, .int .i64]), (true, [.int .i64, .int .i64, .int .i64, .int .i64]), (false, [.int .i64]), (false, [.int .i64])] fun ar => ∀ (φ : Phi) (vs : Array Value) (w : World), All2 (LV.rel φ) ar vs.toList → Calls Try.prog 22 vs w fun e w' => e = .returned (.bool true) ∧ Grows w w' := by
  simp only [AllArgs, AllFit]
  intro x0_0 a0_0 b0_0 x0_1 a0_1 b0_1 x0_2 a0_2 b0_2 x0_3 a0_3 b0_3 x1_0 a1_0 b1_0 x1_1 a1_1 b1_1 x1_2 a1_2 b1_2 x1_3 a1_3 b1_3 x2 a2 b2 x3 a3 b3 φ vs w h
  exact law_core lVecPairs_ok (args := [.g [.int .i64 x0_0, .int .i64 x0_1, .int .i64 x0_2, .int .i64 x0_3], .g [.int .i64 x1_0, .int .i64 x1_1, .int .i64 x1_2, .int .i64 x1_3], .a (.int .i64 x2), .a (.int .i64 x3)]) (obs := _) (b := lVecPairs x0_0 x0_1 x0_2 x0_3 x1_0 x1_1 x1_2 x1_3 x2 x3) rfl ⟨VecPairs_true x0_0 a0_0 b0_0 x0_1 a0_1 b0_1 x0_2 a0_2 b0_2 x0_3 a0_3 b0_3 x1_0 a1_0 b1_0 x1_1 a1_1 b1_1 x1_2 a1_2 b1_2 x1_3 a1_3 b1_3 x2 a2 b2 x3 a3 b3, trivial⟩ (VecPairs_true x0_0 a0_0 b0_0 x0_1 a0_1 b0_1 x0_2 a0_2 b0_2 x0_3 a0_3 b0_3 x1_0 a1_0 b1_0 x1_1 a1_1 b1_1 x1_2 a1_2 b1_2 x1_3 a1_3 b1_3 x2 a2 b2 x3 a3 b3) φ vs w h

set_option maxRecDepth 100000 in
theorem lifted (os : Os) (started : os.Started) (H : Type) (enc : TypeId × Value → H) :
    ReturnsInHanded {} Try.checked os 22 .any (Rows.vecPairsSpec.pre6 enc Try.prog Try.f22 Rows.vecPairsRow.domain false) (Rows.vecPairsSpec.post enc Try.prog Try.f22 false true false false) :=
  law_lifted (C := Try.checked) (tb := 4) started enc own (by kernel_rfl) Try.func22 rfl (fun ds h => by
    match ds, h with
    | [_, _, _, _], _ => rfl) (by kernel_rfl) shapes (by kernel_rfl) (by kernel_rfl)
    (ChangeSpec.witness6 (enc := enc) (C := Try.checked) false ⟨#[], #[.agg #[.int .i64 0, .int .i64 0, .int .i64 0, .int .i64 0], .agg #[.int .i64 0, .int .i64 0, .int .i64 0, .int .i64 0], .int .i64 0, .int .i64 0], []⟩ 8 (by kernel_rfl) (by kernel_rfl) (by kernel_rfl) (by kernel_rfl)) core

theorem over : Rows.vecPairsRow.holds Try.pinned (OpenSpec.ofChange Rows.vecPairsSpec) :=
  OpenClaim.holds_of_wide 22 Try.f22 rfl rfl rfl rfl rfl rfl rfl ⟨rfl, rfl, rfl, rfl, rfl⟩ rfl rfl rfl rfl rfl (by kernel_rfl) Try.func22 (by kernel_rfl)
    (of_decide_eq_true (by kernel_rfl)) (by unfold Func.isWrapper; first | (rw [if_pos (by decide +kernel)]; kernel_rfl) | (rw [if_neg (by decide +kernel)]; exact ⟨rfl, rfl⟩))
    (fun os started H enc _ => lifted os started H enc)

/-- The statement. -/
theorem proved : Rows.VecPairsSaid := over

end Go.Proofs.Ythgjacfikicgnaa.lawVecPairs
