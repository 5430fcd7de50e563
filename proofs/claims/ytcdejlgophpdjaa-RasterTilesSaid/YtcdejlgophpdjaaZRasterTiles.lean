/-
  The law 'RasterTiles': called with any arguments it returns true, and its arguments read behind the call as before.
-/
import Derived.Test.YtcdejlgophpdjaaRows
import Derived.Test.YtcdejlgophpdjaaQRasterTiles9
namespace Go.Proofs.Ytcdejlgophpdjaa.lawRasterTiles
open Go Go.RowKit Go.Proofs.Ytcdejlgophpdjaa.V Go.Proofs.Ytcdejlgophpdjaa

theorem own : ownKnob Try.prog.godebug = none := by kernel_rfl
theorem laid : laidOutB Try.prog = true := by kernel_rfl

theorem shapes : kcShapes Try.prog Try.f19.params.toList = some [(true, [.one (.int .i8), .one (.int .i8), .one (.int .i8), .one (.int .i8), .one (.int .i8), .one (.int .i8), .one (.int .u16), .one (.int .u16), .one (.int .u16), .one (.int .u16), .one (.int .u16), .one (.int .u16), .one (.int .u16), .one (.int .u16), .one (.int .u16), .one (.int .u16), .one (.int .u16), .one (.int .u16), .one (.int .u16), .one (.int .u16), .one (.int .u16), .one (.int .u16), .one (.int .u16), .one (.int .u16), .one (.int .u8)]), (false, [.one (.int .u8)]), (false, [.one (.int .u8)]), (true, [.one (.int .u8), .one (.int .u8), .one (.int .u8), .one (.int .u8)])] := by kernel_rfl

theorem core : AllB [(true, [.one (.int .i8), .one (.int .i8), .one (.int .i8), .one (.int .i8), .one (.int .i8), .one (.int .i8), .one (.int .u16), .one (.int .u16), .one (.int .u16), .one (.int .u16), .one (.int .u16), .one (.int .u16), .one (.int .u16), .one (.int .u16), .one (.int .u16), .one (.int .u16), .one (.int .u16), .one (.int .u16), .one (.int .u16), .one (.int .u16), .one (.int .u16), .one (.int .u16), .one (.int .u16), .one (.int .u16), .one (.int .u8)]), (false, [.one (.int .u8)]), (false, [.one (.int .u8)]), (true, [.one (.int .u8), .one (.int .u8), .one (.int .u8), .one (.int .u8)])] [] fun ar bs => ∀ (vs : Array Value) (w : World) (φ : Phi), All2 (LV.rel φ) ar vs.toList → (∀ out, MR w (fun _ => False) φ (memOf bs) (hdsIn bs out) (fun b => bs.length ≤ b) w) → Calls Try.prog 19 vs w fun e w' => e = .returned (.bool true) ∧ Grows w w' := by
  simp only [AllB, AllC]
  intro x0_0 a0_0 b0_0 x0_1 a0_1 b0_1 x0_2 a0_2 b0_2 x0_3 a0_3 b0_3 x0_4 a0_4 b0_4 x0_5 a0_5 b0_5 x0_6 a0_6 b0_6 x0_7 a0_7 b0_7 x0_8 a0_8 b0_8 x0_9 a0_9 b0_9 x0_10 a0_10 b0_10 x0_11 a0_11 b0_11 x0_12 a0_12 b0_12 x0_13 a0_13 b0_13 x0_14 a0_14 b0_14 x0_15 a0_15 b0_15 x0_16 a0_16 b0_16 x0_17 a0_17 b0_17 x0_18 a0_18 b0_18 x0_19 a0_19 b0_19 x0_20 a0_20 b0_20 x0_21 a0_21 b0_21 x0_22 a0_22 b0_22 x0_23 a0_23 b0_23 x0_24 a0_24 b0_24 x1 a1 b1 x2 a2 b2 x3_0 a3_0 b3_0 x3_1 a3_1 b3_1 x3_2 a3_2 b3_2 x3_3 a3_3 b3_3 vs w φ h hM
  cases hq : sm13Tri_9 x0_0 x0_1 x0_2 x0_3 x0_4 x0_5 x0_24
  · exact law_coreB lRasTz_ok (args := [.g [.int true .i8 x0_0, .int true .i8 x0_1, .int true .i8 x0_2, .int true .i8 x0_3, .int true .i8 x0_4, .int true .i8 x0_5, .int true .u16 x0_6, .int true .u16 x0_7, .int true .u16 x0_8, .int true .u16 x0_9, .int true .u16 x0_10, .int true .u16 x0_11, .int true .u16 x0_12, .int true .u16 x0_13, .int true .u16 x0_14, .int true .u16 x0_15, .int true .u16 x0_16, .int true .u16 x0_17, .int true .u16 x0_18, .int true .u16 x0_19, .int true .u16 x0_20, .int true .u16 x0_21, .int true .u16 x0_22, .int true .u16 x0_23, .int true .u8 x0_24], .a (.int true .u8 x1), .a (.int true .u8 x2), .g [.int true .u8 x3_0, .int true .u8 x3_1, .int true .u8 x3_2, .int true .u8 x3_3]]) (bs := []) (obs := _) (m := true) (b := _) rfl (RasterTilesB_obs x0_0 a0_0 b0_0 x0_1 a0_1 b0_1 x0_2 a0_2 b0_2 x0_3 a0_3 b0_3 x0_4 a0_4 b0_4 x0_5 a0_5 b0_5 x0_6 a0_6 b0_6 x0_7 a0_7 b0_7 x0_8 a0_8 b0_8 x0_9 a0_9 b0_9 x0_10 a0_10 b0_10 x0_11 a0_11 b0_11 x0_12 a0_12 b0_12 x0_13 a0_13 b0_13 x0_14 a0_14 b0_14 x0_15 a0_15 b0_15 x0_16 a0_16 b0_16 x0_17 a0_17 b0_17 x0_18 a0_18 b0_18 x0_19 a0_19 b0_19 x0_20 a0_20 b0_20 x0_21 a0_21 b0_21 x0_22 a0_22 b0_22 x0_23 a0_23 b0_23 x0_24 a0_24 b0_24 x1 a1 b1 x2 a2 b2 x3_0 a3_0 b3_0 x3_1 a3_1 b3_1 x3_2 a3_2 b3_2 x3_3 a3_3 b3_3 hq) (RasterTilesB_true x0_0 a0_0 b0_0 x0_1 a0_1 b0_1 x0_2 a0_2 b0_2 x0_3 a0_3 b0_3 x0_4 a0_4 b0_4 x0_5 a0_5 b0_5 x0_6 a0_6 b0_6 x0_7 a0_7 b0_7 x0_8 a0_8 b0_8 x0_9 a0_9 b0_9 x0_10 a0_10 b0_10 x0_11 a0_11 b0_11 x0_12 a0_12 b0_12 x0_13 a0_13 b0_13 x0_14 a0_14 b0_14 x0_15 a0_15 b0_15 x0_16 a0_16 b0_16 x0_17 a0_17 b0_17 x0_18 a0_18 b0_18 x0_19 a0_19 b0_19 x0_20 a0_20 b0_20 x0_21 a0_21 b0_21 x0_22 a0_22 b0_22 x0_23 a0_23 b0_23 x0_24 a0_24 b0_24 x1 a1 b1 x2 a2 b2 x3_0 a3_0 b3_0 x3_1 a3_1 b3_1 x3_2 a3_2 b3_2 x3_3 a3_3 b3_3 hq) vs w φ h hM
  · exact law_coreB lRasTi_ok (args := [.g [.int true .i8 x0_0, .int true .i8 x0_1, .int true .i8 x0_2, .int true .i8 x0_3, .int true .i8 x0_4, .int true .i8 x0_5, .int true .u16 x0_6, .int true .u16 x0_7, .int true .u16 x0_8, .int true .u16 x0_9, .int true .u16 x0_10, .int true .u16 x0_11, .int true .u16 x0_12, .int true .u16 x0_13, .int true .u16 x0_14, .int true .u16 x0_15, .int true .u16 x0_16, .int true .u16 x0_17, .int true .u16 x0_18, .int true .u16 x0_19, .int true .u16 x0_20, .int true .u16 x0_21, .int true .u16 x0_22, .int true .u16 x0_23, .int true .u8 x0_24], .a (.int true .u8 x1), .a (.int true .u8 x2), .g [.int true .u8 x3_0, .int true .u8 x3_1, .int true .u8 x3_2, .int true .u8 x3_3]]) (bs := []) (obs := _) (m := true) (b := _) rfl (RasterTiles_obs x0_0 a0_0 b0_0 x0_1 a0_1 b0_1 x0_2 a0_2 b0_2 x0_3 a0_3 b0_3 x0_4 a0_4 b0_4 x0_5 a0_5 b0_5 x0_6 a0_6 b0_6 x0_7 a0_7 b0_7 x0_8 a0_8 b0_8 x0_9 a0_9 b0_9 x0_10 a0_10 b0_10 x0_11 a0_11 b0_11 x0_12 a0_12 b0_12 x0_13 a0_13 b0_13 x0_14 a0_14 b0_14 x0_15 a0_15 b0_15 x0_16 a0_16 b0_16 x0_17 a0_17 b0_17 x0_18 a0_18 b0_18 x0_19 a0_19 b0_19 x0_20 a0_20 b0_20 x0_21 a0_21 b0_21 x0_22 a0_22 b0_22 x0_23 a0_23 b0_23 x0_24 a0_24 b0_24 x1 a1 b1 x2 a2 b2 x3_0 a3_0 b3_0 x3_1 a3_1 b3_1 x3_2 a3_2 b3_2 x3_3 a3_3 b3_3 hq) (RasterTiles_true x0_0 a0_0 b0_0 x0_1 a0_1 b0_1 x0_2 a0_2 b0_2 x0_3 a0_3 b0_3 x0_4 a0_4 b0_4 x0_5 a0_5 b0_5 x0_6 a0_6 b0_6 x0_7 a0_7 b0_7 x0_8 a0_8 b0_8 x0_9 a0_9 b0_9 x0_10 a0_10 b0_10 x0_11 a0_11 b0_11 x0_12 a0_12 b0_12 x0_13 a0_13 b0_13 x0_14 a0_14 b0_14 x0_15 a0_15 b0_15 x0_16 a0_16 b0_16 x0_17 a0_17 b0_17 x0_18 a0_18 b0_18 x0_19 a0_19 b0_19 x0_20 a0_20 b0_20 x0_21 a0_21 b0_21 x0_22 a0_22 b0_22 x0_23 a0_23 b0_23 x0_24 a0_24 b0_24 x1 a1 b1 x2 a2 b2 x3_0 a3_0 b3_0 x3_1 a3_1 b3_1 x3_2 a3_2 b3_2 x3_3 a3_3 b3_3 hq) vs w φ h hM

set_option maxRecDepth 100000 in
theorem lifted (os : Os) (started : os.Started) (H : Type) (enc : TypeId × Value → H) :
    ReturnsInHanded {} Try.checked os 19 .any (Rows.rasterTilesSpec.pre6 enc Try.prog Try.f19 Rows.rasterTilesRow.domain false) (Rows.rasterTilesSpec.post enc Try.prog Try.f19 false true false false) :=
  law_liftedB (C := Try.checked) (tb := 4) started enc own (by kernel_rfl) Try.func19 rfl (fun ds h => by
    match ds, h with
    | [_, _, _, _], _ => rfl) laid (by kernel_rfl) shapes (by kernel_rfl) (by kernel_rfl)
    (ChangeSpec.witness6 (enc := enc) (C := Try.checked) false ⟨#[], #[.agg #[.int .i8 0, .int .i8 0, .int .i8 0, .int .i8 0, .int .i8 0, .int .i8 0, .int .u16 0, .int .u16 0, .int .u16 0, .int .u16 0, .int .u16 0, .int .u16 0, .int .u16 0, .int .u16 0, .int .u16 0, .int .u16 0, .int .u16 0, .int .u16 0, .int .u16 0, .int .u16 0, .int .u16 0, .int .u16 0, .int .u16 0, .int .u16 0, .int .u8 0], .int .u8 0, .int .u8 0, .agg #[.int .u8 0, .int .u8 0, .int .u8 0, .int .u8 0]], []⟩ 8 (by kernel_rfl) (by kernel_rfl) (by kernel_rfl) (by kernel_rfl)) core

theorem k0 : (Rows.rasterTilesRow.wf (OpenSpec.ofChange Rows.rasterTilesSpec)) = true := by kernel_rfl
theorem k5 : ((Rows.rasterTilesRow.stops == [])) = true := by kernel_rfl
theorem k6 : ((Try.prog.stops == [])) = true := by kernel_rfl
theorem k8 : ((Try.prog.stopKnobs == [])) = true := by kernel_rfl
theorem k9 : ((Rows.rasterTilesRow.inPlace == Try.prog.inPlace 19)) = true := by kernel_rfl
theorem k10 : ((Rows.rasterTilesRow.unfollowed == Try.prog.unfollowed 19)) = true := by kernel_rfl
theorem k11 : ((Rows.rasterTilesRow.recurses == Try.prog.recurses 19)) = true := by kernel_rfl
theorem k12 : ((Rows.rasterTilesRow.named == Try.prog.varsNamed 19)) = true := by kernel_rfl
theorem k15 : ((Rows.rasterTilesRow.mapsOut == Try.prog.mapsAmong Try.f19.resultTypes.toList)) = true := by kernel_rfl
theorem k22 : ((Rows.rasterTilesRow.plainKeys == Try.prog.plainKeys)) = true := by kernel_rfl
theorem k24 : (Try.prog.stopsHeard) = true := by kernel_rfl
theorem k26 : ((Rows.rasterTilesRow.lifted == Try.prog.liftsFinal)) = true := by rw [V.seat_lifts]; kernel_rfl
theorem k27 : ((Try.prog.make == some Rows.rasterTilesRow.make)) = true := by rw [V.seat_make]; kernel_rfl
theorem k30 : ((Rows.rasterTilesRow.veiled == (Try.f19.params.toList ++ Rows.rasterTilesSpec.plain.varTypes Try.prog ++ Try.f19.resultTypes.toList).any (Try.prog.veiledRec ·))) = true := by kernel_rfl
theorem k31 : (Rows.rasterTilesRow.veiledFits Try.prog Try.f19.params.toList (Try.f19.params.toList ++ Rows.rasterTilesSpec.plain.varTypes Try.prog ++ Try.f19.resultTypes.toList)) = true := by kernel_rfl
theorem closed : joinedFacts Try.pinned.checked.prog 19 Try.f19 Rows.rasterTilesSpec Rows.rasterTilesRow = true := by
  unfold joinedFacts
  exact (andI (andI (andI (andI (andI (andI (andI (andI (andI (andI (andI (andI (andI (andI (andI (andI (andI (andI (andI (andI (andI (andI (andI (andI (andI (andI (andI (andI (andI (andI (andI k0 V.seat_laid) V.seat_rowed) (by kernel_rfl)) (by kernel_rfl)) k5) k6) (by kernel_rfl)) k8) k9) k10) k11) k12) (by kernel_rfl)) (by kernel_rfl)) k15) (by kernel_rfl)) (by kernel_rfl)) (by kernel_rfl)) (by kernel_rfl)) (by kernel_rfl)) (by kernel_rfl)) k22) (by kernel_rfl)) k24) V.seat_enter) k26) k27) (by kernel_rfl)) (by kernel_rfl)) k30) k31)

theorem over : Rows.rasterTilesRow.holds Try.pinned (OpenSpec.ofChange Rows.rasterTilesSpec) :=
  OpenClaim.holds_of_wide 19 Try.f19 rfl rfl rfl rfl rfl rfl rfl ⟨rfl, rfl, rfl, rfl, rfl⟩ rfl rfl rfl rfl rfl (by kernel_rfl) Try.func19 closed
    (of_decide_eq_true (by kernel_rfl)) (by unfold Func.isWrapper; first | (rw [if_pos (by decide +kernel)]; kernel_rfl) | (rw [if_neg (by decide +kernel)]; exact ⟨rfl, rfl⟩))
    (fun os started H enc _ => lifted os started H enc)

/-- The statement. -/
theorem proved : Rows.RasterTilesSaid := over

end Go.Proofs.Ytcdejlgophpdjaa.lawRasterTiles
