/-
  The law 'TileStores': called with any arguments it returns true, and its arguments read behind the call as before.
-/
import Derived.Test.YtcdejlgophpdjaaRows
import Derived.Test.YtcdejlgophpdjaaQTileStores8
namespace Go.Proofs.Ytcdejlgophpdjaa.lawTileStores
open Go Go.RowKit Go.Proofs.Ytcdejlgophpdjaa.V Go.Proofs.Ytcdejlgophpdjaa

theorem own : ownKnob Try.prog.godebug = none := by kernel_rfl
theorem laid : laidOutB Try.prog = true := by kernel_rfl

theorem shapes : kcShapes Try.prog Try.f16.params.toList = some [(true, [.one (.int .u8), .one (.int .u8), .slc [.int .u8, .int .u8, .int .u8, .int .u8, .int .u16, .int .u8]]), (false, [.one (.int .u8)]), (false, [.one (.int .u8)]), (false, [.one (.int .u8)]), (true, [.one (.int .u8), .one (.int .u8), .one (.int .u8), .one (.int .u8), .one (.int .u16), .one (.int .u8)])] := by kernel_rfl

theorem core : AllB [(true, [.one (.int .u8), .one (.int .u8), .slc [.int .u8, .int .u8, .int .u8, .int .u8, .int .u16, .int .u8]]), (false, [.one (.int .u8)]), (false, [.one (.int .u8)]), (false, [.one (.int .u8)]), (true, [.one (.int .u8), .one (.int .u8), .one (.int .u8), .one (.int .u8), .one (.int .u16), .one (.int .u8)])] [] fun ar bs => ∀ (vs : Array Value) (w : World) (φ : Phi), All2 (LV.rel φ) ar vs.toList → (∀ out, MR w (fun _ => False) φ (memOf bs) (hdsIn bs out) (fun b => bs.length ≤ b) w) → Calls Try.prog 16 vs w fun e w' => e = .returned (.bool true) ∧ Grows w w' := by
  simp only [AllB, AllC]
  intro x0_0 a0_0 b0_0 x0_1 a0_1 b0_1 y0_2 p0_2 q0_2 x1 a1 b1 x2 a2 b2 x3 a3 b3 x4_0 a4_0 b4_0 x4_1 a4_1 b4_1 x4_2 a4_2 b4_2 x4_3 a4_3 b4_3 x4_4 a4_4 b4_4 x4_5 a4_5 b4_5 vs w φ h hM
  cases hq : lTilStA_s6 x0_0 x0_1 (List.length y0_2) x1 x2 x3 y0_2
  · exact law_coreB lTilStB_ok (args := [.g [.int true .u8 x0_0, .int true .u8 x0_1, .slc true 0 0 0 6 0 (List.length y0_2)], .a (.int true .u8 x1), .a (.int true .u8 x2), .a (.int true .u8 x3), .g [.int true .u8 x4_0, .int true .u8 x4_1, .int true .u8 x4_2, .int true .u8 x4_3, .int true .u16 x4_4, .int true .u8 x4_5]]) (bs := [⟨⟨0, 0, true, some ⟨0, [.int .u8, .int .u8, .int .u8, .int .u8, .int .u16, .int .u8], y0_2, none⟩⟩, []⟩]) (obs := _) (m := true) (b := _) rfl (TileStoresB_obs x0_0 a0_0 b0_0 x0_1 a0_1 b0_1 y0_2 p0_2 q0_2 x1 a1 b1 x2 a2 b2 x3 a3 b3 x4_0 a4_0 b4_0 x4_1 a4_1 b4_1 x4_2 a4_2 b4_2 x4_3 a4_3 b4_3 x4_4 a4_4 b4_4 x4_5 a4_5 b4_5 hq) (TileStoresB_true x0_0 a0_0 b0_0 x0_1 a0_1 b0_1 y0_2 p0_2 q0_2 x1 a1 b1 x2 a2 b2 x3 a3 b3 x4_0 a4_0 b4_0 x4_1 a4_1 b4_1 x4_2 a4_2 b4_2 x4_3 a4_3 b4_3 x4_4 a4_4 b4_4 x4_5 a4_5 b4_5 hq) vs w φ h hM
  · exact law_coreB lTilStA_ok (args := [.g [.int true .u8 x0_0, .int true .u8 x0_1, .slc true 0 0 0 6 0 (List.length y0_2)], .a (.int true .u8 x1), .a (.int true .u8 x2), .a (.int true .u8 x3), .g [.int true .u8 x4_0, .int true .u8 x4_1, .int true .u8 x4_2, .int true .u8 x4_3, .int true .u16 x4_4, .int true .u8 x4_5]]) (bs := [⟨⟨0, 0, true, some ⟨0, [.int .u8, .int .u8, .int .u8, .int .u8, .int .u16, .int .u8], y0_2, none⟩⟩, []⟩]) (obs := _) (m := true) (b := _) rfl (TileStores_obs x0_0 a0_0 b0_0 x0_1 a0_1 b0_1 y0_2 p0_2 q0_2 x1 a1 b1 x2 a2 b2 x3 a3 b3 x4_0 a4_0 b4_0 x4_1 a4_1 b4_1 x4_2 a4_2 b4_2 x4_3 a4_3 b4_3 x4_4 a4_4 b4_4 x4_5 a4_5 b4_5 hq) (TileStores_true x0_0 a0_0 b0_0 x0_1 a0_1 b0_1 y0_2 p0_2 q0_2 x1 a1 b1 x2 a2 b2 x3 a3 b3 x4_0 a4_0 b4_0 x4_1 a4_1 b4_1 x4_2 a4_2 b4_2 x4_3 a4_3 b4_3 x4_4 a4_4 b4_4 x4_5 a4_5 b4_5 hq) vs w φ h hM

set_option maxRecDepth 100000 in
theorem lifted (os : Os) (started : os.Started) (H : Type) (enc : TypeId × Value → H) :
    ReturnsInHanded {} Try.checked os 16 .any (Rows.tileStoresSpec.pre6 enc Try.prog Try.f16 Rows.tileStoresRow.domain false) (Rows.tileStoresSpec.post enc Try.prog Try.f16 false true false false) :=
  law_liftedB (C := Try.checked) (tb := 4) started enc own (by kernel_rfl) Try.func16 rfl (fun ds h => by
    match ds, h with
    | [_, _, _, _, _], _ => rfl) laid (by kernel_rfl) shapes (by kernel_rfl) (by kernel_rfl)
    (ChangeSpec.witness6 (enc := enc) (C := Try.checked) false ⟨#[], #[.agg #[.int .u8 0, .int .u8 0, .slice none 0 0], .int .u8 0, .int .u8 0, .int .u8 0, .agg #[.int .u8 0, .int .u8 0, .int .u8 0, .int .u8 0, .int .u16 0, .int .u8 0]], []⟩ 8 (by kernel_rfl) (by kernel_rfl) (by kernel_rfl) (by kernel_rfl)) core

theorem k0 : (Rows.tileStoresRow.wf (OpenSpec.ofChange Rows.tileStoresSpec)) = true := by kernel_rfl
theorem k5 : ((Rows.tileStoresRow.stops == [])) = true := by kernel_rfl
theorem k6 : ((Try.prog.stops == [])) = true := by kernel_rfl
theorem k8 : ((Try.prog.stopKnobs == [])) = true := by kernel_rfl
theorem k9 : ((Rows.tileStoresRow.inPlace == Try.prog.inPlace 16)) = true := by kernel_rfl
theorem k10 : ((Rows.tileStoresRow.unfollowed == Try.prog.unfollowed 16)) = true := by kernel_rfl
theorem k11 : ((Rows.tileStoresRow.recurses == Try.prog.recurses 16)) = true := by kernel_rfl
theorem k12 : ((Rows.tileStoresRow.named == Try.prog.varsNamed 16)) = true := by kernel_rfl
theorem k15 : ((Rows.tileStoresRow.mapsOut == Try.prog.mapsAmong Try.f16.resultTypes.toList)) = true := by kernel_rfl
theorem k22 : ((Rows.tileStoresRow.plainKeys == Try.prog.plainKeys)) = true := by kernel_rfl
theorem k24 : (Try.prog.stopsHeard) = true := by kernel_rfl
theorem k26 : ((Rows.tileStoresRow.lifted == Try.prog.liftsFinal)) = true := by rw [V.seat_lifts]; kernel_rfl
theorem k27 : ((Try.prog.make == some Rows.tileStoresRow.make)) = true := by rw [V.seat_make]; kernel_rfl
theorem k30 : ((Rows.tileStoresRow.veiled == (Try.f16.params.toList ++ Rows.tileStoresSpec.plain.varTypes Try.prog ++ Try.f16.resultTypes.toList).any (Try.prog.veiledRec ·))) = true := by kernel_rfl
theorem k31 : (Rows.tileStoresRow.veiledFits Try.prog Try.f16.params.toList (Try.f16.params.toList ++ Rows.tileStoresSpec.plain.varTypes Try.prog ++ Try.f16.resultTypes.toList)) = true := by kernel_rfl
theorem closed : joinedFacts Try.pinned.checked.prog 16 Try.f16 Rows.tileStoresSpec Rows.tileStoresRow = true := by
  unfold joinedFacts
  exact (andI (andI (andI (andI (andI (andI (andI (andI (andI (andI (andI (andI (andI (andI (andI (andI (andI (andI (andI (andI (andI (andI (andI (andI (andI (andI (andI (andI (andI (andI (andI k0 V.seat_laid) V.seat_rowed) (by kernel_rfl)) (by kernel_rfl)) k5) k6) (by kernel_rfl)) k8) k9) k10) k11) k12) (by kernel_rfl)) (by kernel_rfl)) k15) (by kernel_rfl)) (by kernel_rfl)) (by kernel_rfl)) (by kernel_rfl)) (by kernel_rfl)) (by kernel_rfl)) k22) (by kernel_rfl)) k24) V.seat_enter) k26) k27) (by kernel_rfl)) (by kernel_rfl)) k30) k31)

theorem over : Rows.tileStoresRow.holds Try.pinned (OpenSpec.ofChange Rows.tileStoresSpec) :=
  OpenClaim.holds_of_wide 16 Try.f16 rfl rfl rfl rfl rfl rfl rfl ⟨rfl, rfl, rfl, rfl, rfl⟩ rfl rfl rfl rfl rfl (by kernel_rfl) Try.func16 closed
    (of_decide_eq_true (by kernel_rfl)) (by unfold Func.isWrapper; first | (rw [if_pos (by decide +kernel)]; kernel_rfl) | (rw [if_neg (by decide +kernel)]; exact ⟨rfl, rfl⟩))
    (fun os started H enc _ => lifted os started H enc)

/-- The statement. -/
theorem proved : Rows.TileStoresSaid := over

end Go.Proofs.Ytcdejlgophpdjaa.lawTileStores
