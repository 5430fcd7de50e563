/-
  The law 'FrameShapes': called with any arguments it returns true, and its arguments read behind the call as before.
-/
import Derived.Test.YtcdejlgophpdjaaRows
import Derived.Test.YtcdejlgophpdjaaQFrameShapes7
namespace Go.Proofs.Ytcdejlgophpdjaa.lawFrameShapes
open Go Go.RowKit Go.Proofs.Ytcdejlgophpdjaa.V Go.Proofs.Ytcdejlgophpdjaa

theorem own : ownKnob Try.prog.godebug = none := by kernel_rfl
theorem laid : laidOutB Try.prog = true := by kernel_rfl

theorem shapes : kcShapes Try.prog Try.f18.params.toList = some [(true, [.one (.int .u8), .one (.int .u8), .slc [.int .u8, .int .u8, .int .u8, .int .u8, .int .u16, .int .u8]]), (false, [.one (.int .u8)]), (false, [.one (.int .u8)]), (true, [.one (.int .u8), .one (.int .u8), .one (.int .u8), .one (.int .u8), .one (.int .u16), .one (.int .u8)])] := by kernel_rfl

theorem core : AllB [(true, [.one (.int .u8), .one (.int .u8), .slc [.int .u8, .int .u8, .int .u8, .int .u8, .int .u16, .int .u8]]), (false, [.one (.int .u8)]), (false, [.one (.int .u8)]), (true, [.one (.int .u8), .one (.int .u8), .one (.int .u8), .one (.int .u8), .one (.int .u16), .one (.int .u8)])] [] fun ar bs => ∀ (vs : Array Value) (w : World) (φ : Phi), All2 (LV.rel φ) ar vs.toList → (∀ out, MR w (fun _ => False) φ (memOf bs) (hdsIn bs out) (fun b => bs.length ≤ b) w) → Calls Try.prog 18 vs w fun e w' => e = .returned (.bool true) ∧ Grows w w' := by
  simp only [AllB, AllC]
  intro x0_0 a0_0 b0_0 x0_1 a0_1 b0_1 y0_2 p0_2 q0_2 x1 a1 b1 x2 a2 b2 x3_0 a3_0 b3_0 x3_1 a3_1 b3_1 x3_2 a3_2 b3_2 x3_3 a3_3 b3_3 x3_4 a3_4 b3_4 x3_5 a3_5 b3_5 vs w φ h hM
  exact law_coreB lFrShp_ok (args := [.g [.int true .u8 x0_0, .int true .u8 x0_1, .slc true 0 0 0 6 0 (List.length y0_2)], .a (.int true .u8 x1), .a (.int true .u8 x2), .g [.int true .u8 x3_0, .int true .u8 x3_1, .int true .u8 x3_2, .int true .u8 x3_3, .int true .u16 x3_4, .int true .u8 x3_5]]) (bs := [⟨⟨0, 0, true, some ⟨0, [.int .u8, .int .u8, .int .u8, .int .u8, .int .u16, .int .u8], y0_2, none⟩⟩, []⟩]) (obs := _) (m := true) (b := _) rfl (FrameShapes_obs x0_0 a0_0 b0_0 x0_1 a0_1 b0_1 y0_2 p0_2 q0_2 x1 a1 b1 x2 a2 b2 x3_0 a3_0 b3_0 x3_1 a3_1 b3_1 x3_2 a3_2 b3_2 x3_3 a3_3 b3_3 x3_4 a3_4 b3_4 x3_5 a3_5 b3_5) (FrameShapes_true x0_0 a0_0 b0_0 x0_1 a0_1 b0_1 y0_2 p0_2 q0_2 x1 a1 b1 x2 a2 b2 x3_0 a3_0 b3_0 x3_1 a3_1 b3_1 x3_2 a3_2 b3_2 x3_3 a3_3 b3_3 x3_4 a3_4 b3_4 x3_5 a3_5 b3_5) vs w φ h hM

set_option maxRecDepth 100000 in
theorem lifted (os : Os) (started : os.Started) (H : Type) (enc : TypeId × Value → H) :
    ReturnsInHanded {} Try.checked os 18 .any (Rows.frameShapesSpec.pre6 enc Try.prog Try.f18 Rows.frameShapesRow.domain false) (Rows.frameShapesSpec.post enc Try.prog Try.f18 false true false false) :=
  law_liftedB (C := Try.checked) (tb := 4) started enc own (by kernel_rfl) Try.func18 rfl (fun ds h => by
    match ds, h with
    | [_, _, _, _], _ => rfl) laid (by kernel_rfl) shapes (by kernel_rfl) (by kernel_rfl)
    (ChangeSpec.witness6 (enc := enc) (C := Try.checked) false ⟨#[], #[.agg #[.int .u8 0, .int .u8 0, .slice none 0 0], .int .u8 0, .int .u8 0, .agg #[.int .u8 0, .int .u8 0, .int .u8 0, .int .u8 0, .int .u16 0, .int .u8 0]], []⟩ 8 (by kernel_rfl) (by kernel_rfl) (by kernel_rfl) (by kernel_rfl)) core

theorem k0 : (Rows.frameShapesRow.wf (OpenSpec.ofChange Rows.frameShapesSpec)) = true := by kernel_rfl
theorem k5 : ((Rows.frameShapesRow.stops == [])) = true := by kernel_rfl
theorem k6 : ((Try.prog.stops == [])) = true := by kernel_rfl
theorem k8 : ((Try.prog.stopKnobs == [])) = true := by kernel_rfl
theorem k9 : ((Rows.frameShapesRow.inPlace == Try.prog.inPlace 18)) = true := by kernel_rfl
theorem k10 : ((Rows.frameShapesRow.unfollowed == Try.prog.unfollowed 18)) = true := by kernel_rfl
theorem k11 : ((Rows.frameShapesRow.recurses == Try.prog.recurses 18)) = true := by kernel_rfl
theorem k12 : ((Rows.frameShapesRow.named == Try.prog.varsNamed 18)) = true := by kernel_rfl
theorem k15 : ((Rows.frameShapesRow.mapsOut == Try.prog.mapsAmong Try.f18.resultTypes.toList)) = true := by kernel_rfl
theorem k22 : ((Rows.frameShapesRow.plainKeys == Try.prog.plainKeys)) = true := by kernel_rfl
theorem k24 : (Try.prog.stopsHeard) = true := by kernel_rfl
theorem k26 : ((Rows.frameShapesRow.lifted == Try.prog.liftsFinal)) = true := by rw [V.seat_lifts]; kernel_rfl
theorem k27 : ((Try.prog.make == some Rows.frameShapesRow.make)) = true := by rw [V.seat_make]; kernel_rfl
theorem k30 : ((Rows.frameShapesRow.veiled == (Try.f18.params.toList ++ Rows.frameShapesSpec.plain.varTypes Try.prog ++ Try.f18.resultTypes.toList).any (Try.prog.veiledRec ·))) = true := by kernel_rfl
theorem k31 : (Rows.frameShapesRow.veiledFits Try.prog Try.f18.params.toList (Try.f18.params.toList ++ Rows.frameShapesSpec.plain.varTypes Try.prog ++ Try.f18.resultTypes.toList)) = true := by kernel_rfl
theorem closed : joinedFacts Try.pinned.checked.prog 18 Try.f18 Rows.frameShapesSpec Rows.frameShapesRow = true := by
  unfold joinedFacts
  exact (andI (andI (andI (andI (andI (andI (andI (andI (andI (andI (andI (andI (andI (andI (andI (andI (andI (andI (andI (andI (andI (andI (andI (andI (andI (andI (andI (andI (andI (andI (andI k0 V.seat_laid) V.seat_rowed) (by kernel_rfl)) (by kernel_rfl)) k5) k6) (by kernel_rfl)) k8) k9) k10) k11) k12) (by kernel_rfl)) (by kernel_rfl)) k15) (by kernel_rfl)) (by kernel_rfl)) (by kernel_rfl)) (by kernel_rfl)) (by kernel_rfl)) (by kernel_rfl)) k22) (by kernel_rfl)) k24) V.seat_enter) k26) k27) (by kernel_rfl)) (by kernel_rfl)) k30) k31)

theorem over : Rows.frameShapesRow.holds Try.pinned (OpenSpec.ofChange Rows.frameShapesSpec) :=
  OpenClaim.holds_of_wide 18 Try.f18 rfl rfl rfl rfl rfl rfl rfl ⟨rfl, rfl, rfl, rfl, rfl⟩ rfl rfl rfl rfl rfl (by kernel_rfl) Try.func18 closed
    (of_decide_eq_true (by kernel_rfl)) (by unfold Func.isWrapper; first | (rw [if_pos (by decide +kernel)]; kernel_rfl) | (rw [if_neg (by decide +kernel)]; exact ⟨rfl, rfl⟩))
    (fun os started H enc _ => lifted os started H enc)

/-- The statement. -/
theorem proved : Rows.FrameShapesSaid := over

end Go.Proofs.Ytcdejlgophpdjaa.lawFrameShapes
