/-
  The law 'TileLoads': called with any arguments it returns true, and its arguments read behind the call as before.
-/
import Derived.Test.YtcdejlgophpdjaaRows
import Derived.Test.YtcdejlgophpdjaaQTileLoads8
namespace Go.Proofs.Ytcdejlgophpdjaa.lawTileLoads
open Go Go.RowKit Go.Proofs.Ytcdejlgophpdjaa.V Go.Proofs.Ytcdejlgophpdjaa

theorem own : ownKnob Try.prog.godebug = none := by kernel_rfl
theorem laid : laidOutB Try.prog = true := by kernel_rfl

theorem shapes : kcShapes Try.prog Try.f15.params.toList = some [(true, [.one (.int .u8), .one (.int .u8), .slc [.int .u8, .int .u8, .int .u8, .int .u8, .int .u16, .int .u8]]), (false, [.one (.int .i64)]), (false, [.one (.int .u8)])] := by kernel_rfl

theorem core : AllB [(true, [.one (.int .u8), .one (.int .u8), .slc [.int .u8, .int .u8, .int .u8, .int .u8, .int .u16, .int .u8]]), (false, [.one (.int .i64)]), (false, [.one (.int .u8)])] [] fun ar bs => ∀ (vs : Array Value) (w : World) (φ : Phi), All2 (LV.rel φ) ar vs.toList → (∀ out, MR w (fun _ => False) φ (memOf bs) (hdsIn bs out) (fun b => bs.length ≤ b) w) → Calls Try.prog 15 vs w fun e w' => e = .returned (.bool true) ∧ Grows w w' := by
  simp only [AllB, AllC]
  intro x0_0 a0_0 b0_0 x0_1 a0_1 b0_1 y0_2 p0_2 q0_2 x1 a1 b1 x2 a2 b2 vs w φ h hM
  cases hq : (decide (0 ≤ x1) && decide (x1 < bGTiles_0 (fSmF_0 x0_0 x0_1 (List.length y0_2) y0_2) (fSmF_1 x0_0 x0_1 (List.length y0_2) y0_2)))
  · exact law_coreB lTilLdA_ok (args := [.g [.int true .u8 x0_0, .int true .u8 x0_1, .slc true 0 0 0 6 0 (List.length y0_2)], .a (.int true .i64 x1), .a (.int true .u8 x2)]) (bs := [⟨⟨0, 0, true, some ⟨0, [.int .u8, .int .u8, .int .u8, .int .u8, .int .u16, .int .u8], y0_2, none⟩⟩, []⟩]) (obs := _) (m := true) (b := _) rfl (TileLoadsB_obs x0_0 a0_0 b0_0 x0_1 a0_1 b0_1 y0_2 p0_2 q0_2 x1 a1 b1 x2 a2 b2 hq) (TileLoadsB_true x0_0 a0_0 b0_0 x0_1 a0_1 b0_1 y0_2 p0_2 q0_2 x1 a1 b1 x2 a2 b2 hq) vs w φ h hM
  · exact law_coreB lTilLdB_ok (args := [.g [.int true .u8 x0_0, .int true .u8 x0_1, .slc true 0 0 0 6 0 (List.length y0_2)], .a (.int true .i64 x1), .a (.int true .u8 x2)]) (bs := [⟨⟨0, 0, true, some ⟨0, [.int .u8, .int .u8, .int .u8, .int .u8, .int .u16, .int .u8], y0_2, none⟩⟩, []⟩]) (obs := _) (m := true) (b := _) rfl (TileLoads_obs x0_0 a0_0 b0_0 x0_1 a0_1 b0_1 y0_2 p0_2 q0_2 x1 a1 b1 x2 a2 b2 hq) (TileLoads_true x0_0 a0_0 b0_0 x0_1 a0_1 b0_1 y0_2 p0_2 q0_2 x1 a1 b1 x2 a2 b2 hq) vs w φ h hM

set_option maxRecDepth 100000 in
theorem lifted (os : Os) (started : os.Started) (H : Type) (enc : TypeId × Value → H) :
    ReturnsInHanded {} Try.checked os 15 .any (Rows.tileLoadsSpec.pre6 enc Try.prog Try.f15 Rows.tileLoadsRow.domain false) (Rows.tileLoadsSpec.post enc Try.prog Try.f15 false true false false) :=
  law_liftedB (C := Try.checked) (tb := 4) started enc own (by kernel_rfl) Try.func15 rfl (fun ds h => by
    match ds, h with
    | [_, _, _], _ => rfl) laid (by kernel_rfl) shapes (by kernel_rfl) (by kernel_rfl)
    (ChangeSpec.witness6 (enc := enc) (C := Try.checked) false ⟨#[], #[.agg #[.int .u8 0, .int .u8 0, .slice none 0 0], .int .i64 0, .int .u8 0], []⟩ 8 (by kernel_rfl) (by kernel_rfl) (by kernel_rfl) (by kernel_rfl)) core

theorem k0 : (Rows.tileLoadsRow.wf (OpenSpec.ofChange Rows.tileLoadsSpec)) = true := by kernel_rfl
theorem k5 : ((Rows.tileLoadsRow.stops == [])) = true := by kernel_rfl
theorem k6 : ((Try.prog.stops == [])) = true := by kernel_rfl
theorem k8 : ((Try.prog.stopKnobs == [])) = true := by kernel_rfl
theorem k9 : ((Rows.tileLoadsRow.inPlace == Try.prog.inPlace 15)) = true := by kernel_rfl
theorem k10 : ((Rows.tileLoadsRow.unfollowed == Try.prog.unfollowed 15)) = true := by kernel_rfl
theorem k11 : ((Rows.tileLoadsRow.recurses == Try.prog.recurses 15)) = true := by kernel_rfl
theorem k12 : ((Rows.tileLoadsRow.named == Try.prog.varsNamed 15)) = true := by kernel_rfl
theorem k15 : ((Rows.tileLoadsRow.mapsOut == Try.prog.mapsAmong Try.f15.resultTypes.toList)) = true := by kernel_rfl
theorem k22 : ((Rows.tileLoadsRow.plainKeys == Try.prog.plainKeys)) = true := by kernel_rfl
theorem k24 : (Try.prog.stopsHeard) = true := by kernel_rfl
theorem k26 : ((Rows.tileLoadsRow.lifted == Try.prog.liftsFinal)) = true := by rw [V.seat_lifts]; kernel_rfl
theorem k27 : ((Try.prog.make == some Rows.tileLoadsRow.make)) = true := by rw [V.seat_make]; kernel_rfl
theorem k30 : ((Rows.tileLoadsRow.veiled == (Try.f15.params.toList ++ Rows.tileLoadsSpec.plain.varTypes Try.prog ++ Try.f15.resultTypes.toList).any (Try.prog.veiledRec ·))) = true := by kernel_rfl
theorem k31 : (Rows.tileLoadsRow.veiledFits Try.prog Try.f15.params.toList (Try.f15.params.toList ++ Rows.tileLoadsSpec.plain.varTypes Try.prog ++ Try.f15.resultTypes.toList)) = true := by kernel_rfl
theorem closed : joinedFacts Try.pinned.checked.prog 15 Try.f15 Rows.tileLoadsSpec Rows.tileLoadsRow = true := by
  unfold joinedFacts
  exact (andI (andI (andI (andI (andI (andI (andI (andI (andI (andI (andI (andI (andI (andI (andI (andI (andI (andI (andI (andI (andI (andI (andI (andI (andI (andI (andI (andI (andI (andI (andI k0 V.seat_laid) V.seat_rowed) (by kernel_rfl)) (by kernel_rfl)) k5) k6) (by kernel_rfl)) k8) k9) k10) k11) k12) (by kernel_rfl)) (by kernel_rfl)) k15) (by kernel_rfl)) (by kernel_rfl)) (by kernel_rfl)) (by kernel_rfl)) (by kernel_rfl)) (by kernel_rfl)) k22) (by kernel_rfl)) k24) V.seat_enter) k26) k27) (by kernel_rfl)) (by kernel_rfl)) k30) k31)

theorem over : Rows.tileLoadsRow.holds Try.pinned (OpenSpec.ofChange Rows.tileLoadsSpec) :=
  OpenClaim.holds_of_wide 15 Try.f15 rfl rfl rfl rfl rfl rfl rfl ⟨rfl, rfl, rfl, rfl, rfl⟩ rfl rfl rfl rfl rfl (by kernel_rfl) Try.func15 closed
    (of_decide_eq_true (by kernel_rfl)) (by unfold Func.isWrapper; first | (rw [if_pos (by decide +kernel)]; kernel_rfl) | (rw [if_neg (by decide +kernel)]; exact ⟨rfl, rfl⟩))
    (fun os started H enc _ => lifted os started H enc)

/-- The statement. -/
theorem proved : Rows.TileLoadsSaid := over

end Go.Proofs.Ytcdejlgophpdjaa.lawTileLoads
