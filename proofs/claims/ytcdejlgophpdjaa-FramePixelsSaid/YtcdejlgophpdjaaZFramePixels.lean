/-
  The law 'FramePixels': called with any arguments it returns true, and its arguments read behind the call as before.
-/
import Derived.Test.YtcdejlgophpdjaaRows
import Derived.Test.YtcdejlgophpdjaaQFramePixels7
namespace Go.Proofs.Ytcdejlgophpdjaa.lawFramePixels
open Go Go.RowKit Go.Proofs.Ytcdejlgophpdjaa.V Go.Proofs.Ytcdejlgophpdjaa

theorem own : ownKnob Try.prog.godebug = none := by kernel_rfl
theorem laid : laidOutB Try.prog = true := by kernel_rfl

theorem shapes : kcShapes Try.prog Try.f13.params.toList = some [(true, [.one (.int .u8), .one (.int .u8), .slc [.int .u8, .int .u8, .int .u8, .int .u8, .int .u16, .int .u8]]), (false, [.one (.int .i64)]), (false, [.one (.int .i64)]), (true, [.one (.int .u8), .one (.int .u8), .one (.int .u8), .one (.int .u8), .one (.int .u16), .one (.int .u8)]), (true, [.one (.int .u8), .one (.int .u8)])] := by kernel_rfl

theorem core : AllB [(true, [.one (.int .u8), .one (.int .u8), .slc [.int .u8, .int .u8, .int .u8, .int .u8, .int .u16, .int .u8]]), (false, [.one (.int .i64)]), (false, [.one (.int .i64)]), (true, [.one (.int .u8), .one (.int .u8), .one (.int .u8), .one (.int .u8), .one (.int .u16), .one (.int .u8)]), (true, [.one (.int .u8), .one (.int .u8)])] [] fun ar bs => ∀ (vs : Array Value) (w : World) (φ : Phi), All2 (LV.rel φ) ar vs.toList → (∀ out, MR w (fun _ => False) φ (memOf bs) (hdsIn bs out) (fun b => bs.length ≤ b) w) → Calls Try.prog 13 vs w fun e w' => e = .returned (.bool true) ∧ Grows w w' := by
  simp only [AllB, AllC]
  intro x0_0 a0_0 b0_0 x0_1 a0_1 b0_1 y0_2 p0_2 q0_2 x1 a1 b1 x2 a2 b2 x3_0 a3_0 b3_0 x3_1 a3_1 b3_1 x3_2 a3_2 b3_2 x3_3 a3_3 b3_3 x3_4 a3_4 b3_4 x3_5 a3_5 b3_5 x4_0 a4_0 b4_0 x4_1 a4_1 b4_1 vs w φ h hM
  exact law_coreB lFrPix_ok (args := [.g [.int true .u8 x0_0, .int true .u8 x0_1, .slc true 0 0 0 6 0 (List.length y0_2)], .a (.int true .i64 x1), .a (.int true .i64 x2), .g [.int true .u8 x3_0, .int true .u8 x3_1, .int true .u8 x3_2, .int true .u8 x3_3, .int true .u16 x3_4, .int true .u8 x3_5], .g [.int true .u8 x4_0, .int true .u8 x4_1]]) (bs := [⟨⟨0, 0, true, some ⟨0, [.int .u8, .int .u8, .int .u8, .int .u8, .int .u16, .int .u8], y0_2, none⟩⟩, []⟩]) (obs := _) (m := true) (b := _) rfl (FramePixels_obs x0_0 a0_0 b0_0 x0_1 a0_1 b0_1 y0_2 p0_2 q0_2 x1 a1 b1 x2 a2 b2 x3_0 a3_0 b3_0 x3_1 a3_1 b3_1 x3_2 a3_2 b3_2 x3_3 a3_3 b3_3 x3_4 a3_4 b3_4 x3_5 a3_5 b3_5 x4_0 a4_0 b4_0 x4_1 a4_1 b4_1) (FramePixels_true x0_0 a0_0 b0_0 x0_1 a0_1 b0_1 y0_2 p0_2 q0_2 x1 a1 b1 x2 a2 b2 x3_0 a3_0 b3_0 x3_1 a3_1 b3_1 x3_2 a3_2 b3_2 x3_3 a3_3 b3_3 x3_4 a3_4 b3_4 x3_5 a3_5 b3_5 x4_0 a4_0 b4_0 x4_1 a4_1 b4_1) vs w φ h hM

set_option maxRecDepth 100000 in
theorem lifted (os : Os) (started : os.Started) (H : Type) (enc : TypeId × Value → H) :
    ReturnsInHanded {} Try.checked os 13 .any (Rows.framePixelsSpec.pre6 enc Try.prog Try.f13 Rows.framePixelsRow.domain false) (Rows.framePixelsSpec.post enc Try.prog Try.f13 false true false false) :=
  law_liftedB (C := Try.checked) (tb := 4) started enc own (by kernel_rfl) Try.func13 rfl (fun ds h => by
    match ds, h with
    | [_, _, _, _, _], _ => rfl) laid (by kernel_rfl) shapes (by kernel_rfl) (by kernel_rfl)
    (ChangeSpec.witness6 (enc := enc) (C := Try.checked) false ⟨#[], #[.agg #[.int .u8 0, .int .u8 0, .slice none 0 0], .int .i64 0, .int .i64 0, .agg #[.int .u8 0, .int .u8 0, .int .u8 0, .int .u8 0, .int .u16 0, .int .u8 0], .agg #[.int .u8 0, .int .u8 0]], []⟩ 8 (by kernel_rfl) (by kernel_rfl) (by kernel_rfl) (by kernel_rfl)) core

theorem k0 : (Rows.framePixelsRow.wf (OpenSpec.ofChange Rows.framePixelsSpec)) = true := by kernel_rfl
theorem k5 : ((Rows.framePixelsRow.stops == [])) = true := by kernel_rfl
theorem k6 : ((Try.prog.stops == [])) = true := by kernel_rfl
theorem k8 : ((Try.prog.stopKnobs == [])) = true := by kernel_rfl
theorem k9 : ((Rows.framePixelsRow.inPlace == Try.prog.inPlace 13)) = true := by kernel_rfl
theorem k10 : ((Rows.framePixelsRow.unfollowed == Try.prog.unfollowed 13)) = true := by kernel_rfl
theorem k11 : ((Rows.framePixelsRow.recurses == Try.prog.recurses 13)) = true := by kernel_rfl
theorem k12 : ((Rows.framePixelsRow.named == Try.prog.varsNamed 13)) = true := by kernel_rfl
theorem k15 : ((Rows.framePixelsRow.mapsOut == Try.prog.mapsAmong Try.f13.resultTypes.toList)) = true := by kernel_rfl
theorem k22 : ((Rows.framePixelsRow.plainKeys == Try.prog.plainKeys)) = true := by kernel_rfl
theorem k24 : (Try.prog.stopsHeard) = true := by kernel_rfl
theorem k26 : ((Rows.framePixelsRow.lifted == Try.prog.liftsFinal)) = true := by rw [V.seat_lifts]; kernel_rfl
theorem k27 : ((Try.prog.make == some Rows.framePixelsRow.make)) = true := by rw [V.seat_make]; kernel_rfl
theorem k30 : ((Rows.framePixelsRow.veiled == (Try.f13.params.toList ++ Rows.framePixelsSpec.plain.varTypes Try.prog ++ Try.f13.resultTypes.toList).any (Try.prog.veiledRec ·))) = true := by kernel_rfl
theorem k31 : (Rows.framePixelsRow.veiledFits Try.prog Try.f13.params.toList (Try.f13.params.toList ++ Rows.framePixelsSpec.plain.varTypes Try.prog ++ Try.f13.resultTypes.toList)) = true := by kernel_rfl
theorem closed : joinedFacts Try.pinned.checked.prog 13 Try.f13 Rows.framePixelsSpec Rows.framePixelsRow = true := by
  unfold joinedFacts
  exact (andI (andI (andI (andI (andI (andI (andI (andI (andI (andI (andI (andI (andI (andI (andI (andI (andI (andI (andI (andI (andI (andI (andI (andI (andI (andI (andI (andI (andI (andI (andI k0 V.seat_laid) V.seat_rowed) (by kernel_rfl)) (by kernel_rfl)) k5) k6) (by kernel_rfl)) k8) k9) k10) k11) k12) (by kernel_rfl)) (by kernel_rfl)) k15) (by kernel_rfl)) (by kernel_rfl)) (by kernel_rfl)) (by kernel_rfl)) (by kernel_rfl)) (by kernel_rfl)) k22) (by kernel_rfl)) k24) V.seat_enter) k26) k27) (by kernel_rfl)) (by kernel_rfl)) k30) k31)

theorem over : Rows.framePixelsRow.holds Try.pinned (OpenSpec.ofChange Rows.framePixelsSpec) :=
  OpenClaim.holds_of_wide 13 Try.f13 rfl rfl rfl rfl rfl rfl rfl ⟨rfl, rfl, rfl, rfl, rfl⟩ rfl rfl rfl rfl rfl (by kernel_rfl) Try.func13 closed
    (of_decide_eq_true (by kernel_rfl)) (by unfold Func.isWrapper; first | (rw [if_pos (by decide +kernel)]; kernel_rfl) | (rw [if_neg (by decide +kernel)]; exact ⟨rfl, rfl⟩))
    (fun os started H enc _ => lifted os started H enc)

/-- The statement. -/
theorem proved : Rows.FramePixelsSaid := over

end Go.Proofs.Ytcdejlgophpdjaa.lawFramePixels
