/-
  The law 'StateBack': called with any arguments it returns true, and its arguments read behind the call as before.
-/
import Derived.Test.YtcdejlgophpdjaaRows
import Derived.Test.YtcdejlgophpdjaaVS
import Derived.Test.YtcdejlgophpdjaaVMa
import Derived.Test.YtcdejlgophpdjaaWd
namespace Go.Proofs.Ytcdejlgophpdjaa.lawStateBack
open Go Go.RowKit Go.Proofs.Ytcdejlgophpdjaa.V Go.Proofs.Ytcdejlgophpdjaa

theorem own : ownKnob Try.prog.godebug = none := by kernel_rfl

theorem shapes : argShapes Try.prog Try.f12.params.toList = some [(true, [.int .u8, .int .u8, .int .u8, .int .u8, .int .u8, .int .u8, .int .u8, .int .u8, .int .u8, .int .u8, .bool, .bool, .int .u8, .int .u8, .int .u8, .int .u8])] := by kernel_rfl

theorem core : AllArgs [(true, [.int .u8, .int .u8, .int .u8, .int .u8, .int .u8, .int .u8, .int .u8, .int .u8, .int .u8, .int .u8, .bool, .bool, .int .u8, .int .u8, .int .u8, .int .u8])] fun ar => ∀ (vs : Array Value) (w : World), All2 (LV.rel (fun _ => none)) ar vs.toList → Calls Try.prog 12 vs w fun e w' => e = .returned (.bool true) ∧ Grows w w' := by
  simp only [AllArgs, AllFit]
  intro x0_0 a0_0 b0_0 x0_1 a0_1 b0_1 x0_2 a0_2 b0_2 x0_3 a0_3 b0_3 x0_4 a0_4 b0_4 x0_5 a0_5 b0_5 x0_6 a0_6 b0_6 x0_7 a0_7 b0_7 x0_8 a0_8 b0_8 x0_9 a0_9 b0_9 x0_10 x0_11 x0_12 a0_12 b0_12 x0_13 a0_13 b0_13 x0_14 a0_14 b0_14 x0_15 a0_15 b0_15 vs w h
  exact law_core lBack_ok (args := [.g [.int true .u8 x0_0, .int true .u8 x0_1, .int true .u8 x0_2, .int true .u8 x0_3, .int true .u8 x0_4, .int true .u8 x0_5, .int true .u8 x0_6, .int true .u8 x0_7, .int true .u8 x0_8, .int true .u8 x0_9, .bool true x0_10, .bool true x0_11, .int true .u8 x0_12, .int true .u8 x0_13, .int true .u8 x0_14, .int true .u8 x0_15]]) (obs := _) (m := true) (b := _) rfl (StateBack_obs x0_0 a0_0 b0_0 x0_1 a0_1 b0_1 x0_2 a0_2 b0_2 x0_3 a0_3 b0_3 x0_4 a0_4 b0_4 x0_5 a0_5 b0_5 x0_6 a0_6 b0_6 x0_7 a0_7 b0_7 x0_8 a0_8 b0_8 x0_9 a0_9 b0_9 x0_10 x0_11 x0_12 a0_12 b0_12 x0_13 a0_13 b0_13 x0_14 a0_14 b0_14 x0_15 a0_15 b0_15) (StateBack_true x0_0 a0_0 b0_0 x0_1 a0_1 b0_1 x0_2 a0_2 b0_2 x0_3 a0_3 b0_3 x0_4 a0_4 b0_4 x0_5 a0_5 b0_5 x0_6 a0_6 b0_6 x0_7 a0_7 b0_7 x0_8 a0_8 b0_8 x0_9 a0_9 b0_9 x0_10 x0_11 x0_12 a0_12 b0_12 x0_13 a0_13 b0_13 x0_14 a0_14 b0_14 x0_15 a0_15 b0_15) vs w h

set_option maxRecDepth 100000 in
theorem lifted (os : Os) (started : os.Started) (H : Type) (enc : TypeId × Value → H) :
    ReturnsInHanded {} Try.checked os 12 .any (Rows.stateBackSpec.pre6 enc Try.prog Try.f12 Rows.stateBackRow.domain false) (Rows.stateBackSpec.post enc Try.prog Try.f12 false true false false) :=
  law_lifted (C := Try.checked) (tb := 4) started enc own (by kernel_rfl) Try.func12 rfl (fun ds h => by
    match ds, h with
    | [_], _ => rfl) (by kernel_rfl) shapes (by kernel_rfl) (by kernel_rfl)
    (ChangeSpec.witness6 (enc := enc) (C := Try.checked) false ⟨#[], #[.agg #[.int .u8 0, .int .u8 0, .int .u8 0, .int .u8 0, .int .u8 0, .int .u8 0, .int .u8 0, .int .u8 0, .int .u8 0, .int .u8 0, .bool false, .bool false, .int .u8 0, .int .u8 0, .int .u8 0, .int .u8 0]], []⟩ 8 (by kernel_rfl) (by kernel_rfl) (by kernel_rfl) (by kernel_rfl)) core

theorem k0 : (Rows.stateBackRow.wf (OpenSpec.ofChange Rows.stateBackSpec)) = true := by kernel_rfl
theorem k5 : ((Rows.stateBackRow.stops == [])) = true := by kernel_rfl
theorem k6 : ((Try.prog.stops == [])) = true := by kernel_rfl
theorem k8 : ((Try.prog.stopKnobs == [])) = true := by kernel_rfl
theorem k9 : ((Rows.stateBackRow.inPlace == Try.prog.inPlace 12)) = true := by kernel_rfl
theorem k10 : ((Rows.stateBackRow.unfollowed == Try.prog.unfollowed 12)) = true := by kernel_rfl
theorem k11 : ((Rows.stateBackRow.recurses == Try.prog.recurses 12)) = true := by kernel_rfl
theorem k12 : ((Rows.stateBackRow.named == Try.prog.varsNamed 12)) = true := by kernel_rfl
theorem k15 : ((Rows.stateBackRow.mapsOut == Try.prog.mapsAmong Try.f12.resultTypes.toList)) = true := by kernel_rfl
theorem k22 : ((Rows.stateBackRow.plainKeys == Try.prog.plainKeys)) = true := by kernel_rfl
theorem k24 : (Try.prog.stopsHeard) = true := by kernel_rfl
theorem k26 : ((Rows.stateBackRow.lifted == Try.prog.liftsFinal)) = true := by rw [V.seat_lifts]; kernel_rfl
theorem k27 : ((Try.prog.make == some Rows.stateBackRow.make)) = true := by rw [V.seat_make]; kernel_rfl
theorem k30 : ((Rows.stateBackRow.veiled == (Try.f12.params.toList ++ Rows.stateBackSpec.plain.varTypes Try.prog ++ Try.f12.resultTypes.toList).any (Try.prog.veiledRec ·))) = true := by kernel_rfl
theorem k31 : (Rows.stateBackRow.veiledFits Try.prog Try.f12.params.toList (Try.f12.params.toList ++ Rows.stateBackSpec.plain.varTypes Try.prog ++ Try.f12.resultTypes.toList)) = true := by kernel_rfl
theorem closed : joinedFacts Try.pinned.checked.prog 12 Try.f12 Rows.stateBackSpec Rows.stateBackRow = true := by
  unfold joinedFacts
  exact (andI (andI (andI (andI (andI (andI (andI (andI (andI (andI (andI (andI (andI (andI (andI (andI (andI (andI (andI (andI (andI (andI (andI (andI (andI (andI (andI (andI (andI (andI (andI k0 V.seat_laid) V.seat_rowed) (by kernel_rfl)) (by kernel_rfl)) k5) k6) (by kernel_rfl)) k8) k9) k10) k11) k12) (by kernel_rfl)) (by kernel_rfl)) k15) (by kernel_rfl)) (by kernel_rfl)) (by kernel_rfl)) (by kernel_rfl)) (by kernel_rfl)) (by kernel_rfl)) k22) (by kernel_rfl)) k24) V.seat_enter) k26) k27) (by kernel_rfl)) (by kernel_rfl)) k30) k31)

theorem over : Rows.stateBackRow.holds Try.pinned (OpenSpec.ofChange Rows.stateBackSpec) :=
  OpenClaim.holds_of_wide 12 Try.f12 rfl rfl rfl rfl rfl rfl rfl ⟨rfl, rfl, rfl, rfl, rfl⟩ rfl rfl rfl rfl rfl (by kernel_rfl) Try.func12 closed
    (of_decide_eq_true (by kernel_rfl)) (by unfold Func.isWrapper; first | (rw [if_pos (by decide +kernel)]; kernel_rfl) | (rw [if_neg (by decide +kernel)]; exact ⟨rfl, rfl⟩))
    (fun os started H enc _ => lifted os started H enc)

/-- The statement. -/
theorem proved : Rows.StateBackSaid := over

end Go.Proofs.Ytcdejlgophpdjaa.lawStateBack
