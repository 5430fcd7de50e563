/-
  The law 'TileAll': called with any arguments it returns true, and its arguments read behind the call as before.
-/
import Derived.Test.YtcdejlgophpdjaaRows
import Derived.Test.YtcdejlgophpdjaaQTileAll8
namespace Go.Proofs.Ytcdejlgophpdjaa.lawTileAll
open Go Go.RowKit Go.Proofs.Ytcdejlgophpdjaa.V Go.Proofs.Ytcdejlgophpdjaa

theorem own : ownKnob Try.prog.godebug = none := by kernel_rfl
theorem laid : laidOutB Try.prog = true := by kernel_rfl

theorem shapes : kcShapes Try.prog Try.f14.params.toList = some [(true, [.one (.int .u8), .one (.int .u8), .slc [.int .u8, .int .u8, .int .u8, .int .u8, .int .u16, .int .u8]]), (true, [.one (.int .u8), .one (.int .u8), .slc [.int .u8, .int .u8, .int .u8, .int .u8, .int .u16, .int .u8]]), (false, [.one .bool])] := by kernel_rfl

theorem core : AllB [(true, [.one (.int .u8), .one (.int .u8), .slc [.int .u8, .int .u8, .int .u8, .int .u8, .int .u16, .int .u8]]), (true, [.one (.int .u8), .one (.int .u8), .slc [.int .u8, .int .u8, .int .u8, .int .u8, .int .u16, .int .u8]]), (false, [.one .bool])] [] fun ar bs => ∀ (vs : Array Value) (w : World) (φ : Phi), All2 (LV.rel φ) ar vs.toList → (∀ out, MR w (fun _ => False) φ (memOf bs) (hdsIn bs out) (fun b => bs.length ≤ b) w) → Calls Try.prog 14 vs w fun e w' => e = .returned (.bool true) ∧ Grows w w' := by
  simp only [AllB, AllC]
  intro x0_0 a0_0 b0_0 x0_1 a0_1 b0_1 y0_2 p0_2 q0_2 x1_0 a1_0 b1_0 x1_1 a1_1 b1_1 y1_2 p1_2 q1_2 x2 vs w φ h hM
  exact law_coreB lTilAl_ok (args := [.g [.int true .u8 x0_0, .int true .u8 x0_1, .slc true 0 0 0 6 0 (List.length y0_2)], .g [.int true .u8 x1_0, .int true .u8 x1_1, .slc true 1 0 0 6 0 (List.length y1_2)], .a (.bool true x2)]) (bs := [⟨⟨0, 0, true, some ⟨0, [.int .u8, .int .u8, .int .u8, .int .u8, .int .u16, .int .u8], y0_2, none⟩⟩, []⟩, ⟨⟨0, 0, true, some ⟨0, [.int .u8, .int .u8, .int .u8, .int .u8, .int .u16, .int .u8], y1_2, none⟩⟩, []⟩]) (obs := _) (m := true) (b := _) rfl (TileAll_obs x0_0 a0_0 b0_0 x0_1 a0_1 b0_1 y0_2 p0_2 q0_2 x1_0 a1_0 b1_0 x1_1 a1_1 b1_1 y1_2 p1_2 q1_2 x2) (TileAll_true x0_0 a0_0 b0_0 x0_1 a0_1 b0_1 y0_2 p0_2 q0_2 x1_0 a1_0 b1_0 x1_1 a1_1 b1_1 y1_2 p1_2 q1_2 x2) vs w φ h hM

set_option maxRecDepth 100000 in
theorem lifted (os : Os) (started : os.Started) (H : Type) (enc : TypeId × Value → H) :
    ReturnsInHanded {} Try.checked os 14 .any (Rows.tileAllSpec.pre6 enc Try.prog Try.f14 Rows.tileAllRow.domain false) (Rows.tileAllSpec.post enc Try.prog Try.f14 false true false false) :=
  law_liftedB (C := Try.checked) (tb := 4) started enc own (by kernel_rfl) Try.func14 rfl (fun ds h => by
    match ds, h with
    | [_, _, _], _ => rfl) laid (by kernel_rfl) shapes (by kernel_rfl) (by kernel_rfl)
    (ChangeSpec.witness6 (enc := enc) (C := Try.checked) false ⟨#[], #[.agg #[.int .u8 0, .int .u8 0, .slice none 0 0], .agg #[.int .u8 0, .int .u8 0, .slice none 0 0], .bool false], []⟩ 8 (by kernel_rfl) (by kernel_rfl) (by kernel_rfl) (by kernel_rfl)) core

theorem k0 : (Rows.tileAllRow.wf (OpenSpec.ofChange Rows.tileAllSpec)) = true := by kernel_rfl
theorem k5 : ((Rows.tileAllRow.stops == [])) = true := by kernel_rfl
theorem k6 : ((Try.prog.stops == [])) = true := by kernel_rfl
theorem k8 : ((Try.prog.stopKnobs == [])) = true := by kernel_rfl
theorem k9 : ((Rows.tileAllRow.inPlace == Try.prog.inPlace 14)) = true := by kernel_rfl
theorem k10 : ((Rows.tileAllRow.unfollowed == Try.prog.unfollowed 14)) = true := by kernel_rfl
theorem k11 : ((Rows.tileAllRow.recurses == Try.prog.recurses 14)) = true := by kernel_rfl
theorem k12 : ((Rows.tileAllRow.named == Try.prog.varsNamed 14)) = true := by kernel_rfl
theorem k15 : ((Rows.tileAllRow.mapsOut == Try.prog.mapsAmong Try.f14.resultTypes.toList)) = true := by kernel_rfl
theorem k22 : ((Rows.tileAllRow.plainKeys == Try.prog.plainKeys)) = true := by kernel_rfl
theorem k24 : (Try.prog.stopsHeard) = true := by kernel_rfl
theorem k26 : ((Rows.tileAllRow.lifted == Try.prog.liftsFinal)) = true := by rw [V.seat_lifts]; kernel_rfl
theorem k27 : ((Try.prog.make == some Rows.tileAllRow.make)) = true := by rw [V.seat_make]; kernel_rfl
theorem k30 : ((Rows.tileAllRow.veiled == (Try.f14.params.toList ++ Rows.tileAllSpec.plain.varTypes Try.prog ++ Try.f14.resultTypes.toList).any (Try.prog.veiledRec ·))) = true := by kernel_rfl
theorem k31 : (Rows.tileAllRow.veiledFits Try.prog Try.f14.params.toList (Try.f14.params.toList ++ Rows.tileAllSpec.plain.varTypes Try.prog ++ Try.f14.resultTypes.toList)) = true := by kernel_rfl
theorem closed : joinedFacts Try.pinned.checked.prog 14 Try.f14 Rows.tileAllSpec Rows.tileAllRow = true := by
  unfold joinedFacts
  exact (andI (andI (andI (andI (andI (andI (andI (andI (andI (andI (andI (andI (andI (andI (andI (andI (andI (andI (andI (andI (andI (andI (andI (andI (andI (andI (andI (andI (andI (andI (andI k0 V.seat_laid) V.seat_rowed) (by kernel_rfl)) (by kernel_rfl)) k5) k6) (by kernel_rfl)) k8) k9) k10) k11) k12) (by kernel_rfl)) (by kernel_rfl)) k15) (by kernel_rfl)) (by kernel_rfl)) (by kernel_rfl)) (by kernel_rfl)) (by kernel_rfl)) (by kernel_rfl)) k22) (by kernel_rfl)) k24) V.seat_enter) k26) k27) (by kernel_rfl)) (by kernel_rfl)) k30) k31)

theorem over : Rows.tileAllRow.holds Try.pinned (OpenSpec.ofChange Rows.tileAllSpec) :=
  OpenClaim.holds_of_wide 14 Try.f14 rfl rfl rfl rfl rfl rfl rfl ⟨rfl, rfl, rfl, rfl, rfl⟩ rfl rfl rfl rfl rfl (by kernel_rfl) Try.func14 closed
    (of_decide_eq_true (by kernel_rfl)) (by unfold Func.isWrapper; first | (rw [if_pos (by decide +kernel)]; kernel_rfl) | (rw [if_neg (by decide +kernel)]; exact ⟨rfl, rfl⟩))
    (fun os started H enc _ => lifted os started H enc)

/-- The statement. -/
theorem proved : Rows.TileAllSaid := over

end Go.Proofs.Ytcdejlgophpdjaa.lawTileAll
