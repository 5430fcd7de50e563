/-
  The law 'TileRight': called with any arguments it returns true, and its arguments read behind the call as before.
-/
import Derived.Test.YtcdejlgophpdjaaRows
import Derived.Test.YtcdejlgophpdjaaQTileRight8
namespace Go.Proofs.Ytcdejlgophpdjaa.lawTileRight
open Go Go.RowKit Go.Proofs.Ytcdejlgophpdjaa.V Go.Proofs.Ytcdejlgophpdjaa

theorem own : ownKnob Try.prog.godebug = none := by kernel_rfl
theorem laid : laidOutB Try.prog = true := by kernel_rfl

theorem shapes : kcShapes Try.prog Try.f17.params.toList = some [(true, [.one (.int .i64), .one (.int .i64), .one (.int .i64), .one (.int .i64)]), (true, [.one (.int .u8), .one (.int .u8), .one (.int .u8), .one (.int .u8)]), (true, [.one (.int .u8), .one (.int .u8), .slc [.int .u8, .int .u8, .int .u8, .int .u8, .int .u16, .int .u8]]), (true, [.one (.int .u8), .one (.int .u8), .one (.int .u8), .one (.int .u8), .one (.int .u16), .one (.int .u8)])] := by kernel_rfl

theorem core : AllB [(true, [.one (.int .i64), .one (.int .i64), .one (.int .i64), .one (.int .i64)]), (true, [.one (.int .u8), .one (.int .u8), .one (.int .u8), .one (.int .u8)]), (true, [.one (.int .u8), .one (.int .u8), .slc [.int .u8, .int .u8, .int .u8, .int .u8, .int .u16, .int .u8]]), (true, [.one (.int .u8), .one (.int .u8), .one (.int .u8), .one (.int .u8), .one (.int .u16), .one (.int .u8)])] [] fun ar bs => ∀ (vs : Array Value) (w : World) (φ : Phi), All2 (LV.rel φ) ar vs.toList → (∀ out, MR w (fun _ => False) φ (memOf bs) (hdsIn bs out) (fun b => bs.length ≤ b) w) → Calls Try.prog 17 vs w fun e w' => e = .returned (.bool true) ∧ Grows w w' := by
  simp only [AllB, AllC]
  intro x0_0 a0_0 b0_0 x0_1 a0_1 b0_1 x0_2 a0_2 b0_2 x0_3 a0_3 b0_3 x1_0 a1_0 b1_0 x1_1 a1_1 b1_1 x1_2 a1_2 b1_2 x1_3 a1_3 b1_3 x2_0 a2_0 b2_0 x2_1 a2_1 b2_1 y2_2 p2_2 q2_2 x3_0 a3_0 b3_0 x3_1 a3_1 b3_1 x3_2 a3_2 b3_2 x3_3 a3_3 b3_3 x3_4 a3_4 b3_4 x3_5 a3_5 b3_5 vs w φ h hM
  exact law_coreB lTilRt_ok (args := [.g [.int true .i64 x0_0, .int true .i64 x0_1, .int true .i64 x0_2, .int true .i64 x0_3], .g [.int true .u8 x1_0, .int true .u8 x1_1, .int true .u8 x1_2, .int true .u8 x1_3], .g [.int true .u8 x2_0, .int true .u8 x2_1, .slc true 0 0 0 6 0 (List.length y2_2)], .g [.int true .u8 x3_0, .int true .u8 x3_1, .int true .u8 x3_2, .int true .u8 x3_3, .int true .u16 x3_4, .int true .u8 x3_5]]) (bs := [⟨⟨0, 0, true, some ⟨0, [.int .u8, .int .u8, .int .u8, .int .u8, .int .u16, .int .u8], y2_2, none⟩⟩, []⟩]) (obs := _) (m := true) (b := _) rfl (TileRight_obs x0_0 a0_0 b0_0 x0_1 a0_1 b0_1 x0_2 a0_2 b0_2 x0_3 a0_3 b0_3 x1_0 a1_0 b1_0 x1_1 a1_1 b1_1 x1_2 a1_2 b1_2 x1_3 a1_3 b1_3 x2_0 a2_0 b2_0 x2_1 a2_1 b2_1 y2_2 p2_2 q2_2 x3_0 a3_0 b3_0 x3_1 a3_1 b3_1 x3_2 a3_2 b3_2 x3_3 a3_3 b3_3 x3_4 a3_4 b3_4 x3_5 a3_5 b3_5) (TileRight_true x0_0 a0_0 b0_0 x0_1 a0_1 b0_1 x0_2 a0_2 b0_2 x0_3 a0_3 b0_3 x1_0 a1_0 b1_0 x1_1 a1_1 b1_1 x1_2 a1_2 b1_2 x1_3 a1_3 b1_3 x2_0 a2_0 b2_0 x2_1 a2_1 b2_1 y2_2 p2_2 q2_2 x3_0 a3_0 b3_0 x3_1 a3_1 b3_1 x3_2 a3_2 b3_2 x3_3 a3_3 b3_3 x3_4 a3_4 b3_4 x3_5 a3_5 b3_5) vs w φ h hM

set_option maxRecDepth 100000 in
theorem lifted (os : Os) (started : os.Started) (H : Type) (enc : TypeId × Value → H) :
    ReturnsInHanded {} Try.checked os 17 .any (Rows.tileRightSpec.pre6 enc Try.prog Try.f17 Rows.tileRightRow.domain false) (Rows.tileRightSpec.post enc Try.prog Try.f17 false true false false) :=
  law_liftedB (C := Try.checked) (tb := 4) started enc own (by kernel_rfl) Try.func17 rfl (fun ds h => by
    match ds, h with
    | [_, _, _, _], _ => rfl) laid (by kernel_rfl) shapes (by kernel_rfl) (by kernel_rfl)
    (ChangeSpec.witness6 (enc := enc) (C := Try.checked) false ⟨#[], #[.agg #[.int .i64 0, .int .i64 0, .int .i64 0, .int .i64 0], .agg #[.int .u8 0, .int .u8 0, .int .u8 0, .int .u8 0], .agg #[.int .u8 0, .int .u8 0, .slice none 0 0], .agg #[.int .u8 0, .int .u8 0, .int .u8 0, .int .u8 0, .int .u16 0, .int .u8 0]], []⟩ 8 (by kernel_rfl) (by kernel_rfl) (by kernel_rfl) (by kernel_rfl)) core

theorem k0 : (Rows.tileRightRow.wf (OpenSpec.ofChange Rows.tileRightSpec)) = true := by kernel_rfl
theorem k5 : ((Rows.tileRightRow.stops == [])) = true := by kernel_rfl
theorem k6 : ((Try.prog.stops == [])) = true := by kernel_rfl
theorem k8 : ((Try.prog.stopKnobs == [])) = true := by kernel_rfl
theorem k9 : ((Rows.tileRightRow.inPlace == Try.prog.inPlace 17)) = true := by kernel_rfl
theorem k10 : ((Rows.tileRightRow.unfollowed == Try.prog.unfollowed 17)) = true := by kernel_rfl
theorem k11 : ((Rows.tileRightRow.recurses == Try.prog.recurses 17)) = true := by kernel_rfl
theorem k12 : ((Rows.tileRightRow.named == Try.prog.varsNamed 17)) = true := by kernel_rfl
theorem k15 : ((Rows.tileRightRow.mapsOut == Try.prog.mapsAmong Try.f17.resultTypes.toList)) = true := by kernel_rfl
theorem k22 : ((Rows.tileRightRow.plainKeys == Try.prog.plainKeys)) = true := by kernel_rfl
theorem k24 : (Try.prog.stopsHeard) = true := by kernel_rfl
theorem k26 : ((Rows.tileRightRow.lifted == Try.prog.liftsFinal)) = true := by rw [V.seat_lifts]; kernel_rfl
theorem k27 : ((Try.prog.make == some Rows.tileRightRow.make)) = true := by rw [V.seat_make]; kernel_rfl
theorem k30 : ((Rows.tileRightRow.veiled == (Try.f17.params.toList ++ Rows.tileRightSpec.plain.varTypes Try.prog ++ Try.f17.resultTypes.toList).any (Try.prog.veiledRec ·))) = true := by kernel_rfl
theorem k31 : (Rows.tileRightRow.veiledFits Try.prog Try.f17.params.toList (Try.f17.params.toList ++ Rows.tileRightSpec.plain.varTypes Try.prog ++ Try.f17.resultTypes.toList)) = true := by kernel_rfl
theorem closed : joinedFacts Try.pinned.checked.prog 17 Try.f17 Rows.tileRightSpec Rows.tileRightRow = true := by
  unfold joinedFacts
  exact (andI (andI (andI (andI (andI (andI (andI (andI (andI (andI (andI (andI (andI (andI (andI (andI (andI (andI (andI (andI (andI (andI (andI (andI (andI (andI (andI (andI (andI (andI (andI k0 V.seat_laid) V.seat_rowed) (by kernel_rfl)) (by kernel_rfl)) k5) k6) (by kernel_rfl)) k8) k9) k10) k11) k12) (by kernel_rfl)) (by kernel_rfl)) k15) (by kernel_rfl)) (by kernel_rfl)) (by kernel_rfl)) (by kernel_rfl)) (by kernel_rfl)) (by kernel_rfl)) k22) (by kernel_rfl)) k24) V.seat_enter) k26) k27) (by kernel_rfl)) (by kernel_rfl)) k30) k31)

theorem over : Rows.tileRightRow.holds Try.pinned (OpenSpec.ofChange Rows.tileRightSpec) :=
  OpenClaim.holds_of_wide 17 Try.f17 rfl rfl rfl rfl rfl rfl rfl ⟨rfl, rfl, rfl, rfl, rfl⟩ rfl rfl rfl rfl rfl (by kernel_rfl) Try.func17 closed
    (of_decide_eq_true (by kernel_rfl)) (by unfold Func.isWrapper; first | (rw [if_pos (by decide +kernel)]; kernel_rfl) | (rw [if_neg (by decide +kernel)]; exact ⟨rfl, rfl⟩))
    (fun os started H enc _ => lifted os started H enc)

/-- The statement. -/
theorem proved : Rows.TileRightSaid := over

end Go.Proofs.Ytcdejlgophpdjaa.lawTileRight
