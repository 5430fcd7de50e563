/-
  The law 'VmPlaces': called with any arguments it returns true, and its arguments read behind the call as before.
-/
import Derived.Test.YtcdejlgophpdjaaRows
import Derived.Test.YtcdejlgophpdjaaQVmPlaces9
namespace Go.Proofs.Ytcdejlgophpdjaa.lawVmPlaces
open Go Go.RowKit Go.Proofs.Ytcdejlgophpdjaa.V Go.Proofs.Ytcdejlgophpdjaa

theorem own : ownKnob Try.prog.godebug = none := by kernel_rfl
theorem laid : laidOutB Try.prog = true := by kernel_rfl

theorem shapes : kcShapes Try.prog Try.f24.params.toList = some [(false, [.slc [.int .u8, .int .u8, .int .u8, .int .u8, .int .i16, .bool]]), (true, [.one (.int .i32), .one (.int .i32), .one (.int .i32), .one (.int .i32), .one (.int .i32), .one (.int .i32), .one (.int .i32), .one (.int .i32), .one (.int .i32), .one (.int .i32), .one (.int .i32), .one (.int .i32), .one (.int .i32), .one (.int .i32), .one (.int .i32), .one (.int .i32)]), (true, [.one (.int .i32), .one (.int .i32), .one (.int .i32), .one (.int .i32)]), (true, [.one (.int .i32), .one (.int .i32), .one (.int .i32), .one (.int .i32)]), (false, [.one (.int .u16)]), (false, [.one (.int .u16)]), (false, [.one (.int .u16)])] := by kernel_rfl

theorem core : AllB [(false, [.slc [.int .u8, .int .u8, .int .u8, .int .u8, .int .i16, .bool]]), (true, [.one (.int .i32), .one (.int .i32), .one (.int .i32), .one (.int .i32), .one (.int .i32), .one (.int .i32), .one (.int .i32), .one (.int .i32), .one (.int .i32), .one (.int .i32), .one (.int .i32), .one (.int .i32), .one (.int .i32), .one (.int .i32), .one (.int .i32), .one (.int .i32)]), (true, [.one (.int .i32), .one (.int .i32), .one (.int .i32), .one (.int .i32)]), (true, [.one (.int .i32), .one (.int .i32), .one (.int .i32), .one (.int .i32)]), (false, [.one (.int .u16)]), (false, [.one (.int .u16)]), (false, [.one (.int .u16)])] [] fun ar bs => ∀ (vs : Array Value) (w : World) (φ : Phi), All2 (LV.rel φ) ar vs.toList → (∀ out, MR w (fun _ => False) φ (memOf bs) (hdsIn bs out) (fun b => bs.length ≤ b) w) → Calls Try.prog 24 vs w fun e w' => e = .returned (.bool true) ∧ Grows w w' := by
  simp only [AllB, AllC]
  intro y0 p0 q0 x1_0 a1_0 b1_0 x1_1 a1_1 b1_1 x1_2 a1_2 b1_2 x1_3 a1_3 b1_3 x1_4 a1_4 b1_4 x1_5 a1_5 b1_5 x1_6 a1_6 b1_6 x1_7 a1_7 b1_7 x1_8 a1_8 b1_8 x1_9 a1_9 b1_9 x1_10 a1_10 b1_10 x1_11 a1_11 b1_11 x1_12 a1_12 b1_12 x1_13 a1_13 b1_13 x1_14 a1_14 b1_14 x1_15 a1_15 b1_15 x2_0 a2_0 b2_0 x2_1 a2_1 b2_1 x2_2 a2_2 b2_2 x2_3 a2_3 b2_3 x3_0 a3_0 b3_0 x3_1 a3_1 b3_1 x3_2 a3_2 b3_2 x3_3 a3_3 b3_3 x4 a4 b4 x5 a5 b5 x6 a6 b6 vs w φ h hM
  exact law_coreB lVmPl_ok (args := [.a (.slc true 0 0 0 6 0 (List.length y0)), .g [.int true .i32 x1_0, .int true .i32 x1_1, .int true .i32 x1_2, .int true .i32 x1_3, .int true .i32 x1_4, .int true .i32 x1_5, .int true .i32 x1_6, .int true .i32 x1_7, .int true .i32 x1_8, .int true .i32 x1_9, .int true .i32 x1_10, .int true .i32 x1_11, .int true .i32 x1_12, .int true .i32 x1_13, .int true .i32 x1_14, .int true .i32 x1_15], .g [.int true .i32 x2_0, .int true .i32 x2_1, .int true .i32 x2_2, .int true .i32 x2_3], .g [.int true .i32 x3_0, .int true .i32 x3_1, .int true .i32 x3_2, .int true .i32 x3_3], .a (.int true .u16 x4), .a (.int true .u16 x5), .a (.int true .u16 x6)]) (bs := [⟨⟨0, 0, true, some ⟨0, [.int .u8, .int .u8, .int .u8, .int .u8, .int .i16, .bool], y0, none⟩⟩, []⟩]) (obs := _) (m := true) (b := _) rfl (VmPlaces_obs y0 p0 q0 x1_0 a1_0 b1_0 x1_1 a1_1 b1_1 x1_2 a1_2 b1_2 x1_3 a1_3 b1_3 x1_4 a1_4 b1_4 x1_5 a1_5 b1_5 x1_6 a1_6 b1_6 x1_7 a1_7 b1_7 x1_8 a1_8 b1_8 x1_9 a1_9 b1_9 x1_10 a1_10 b1_10 x1_11 a1_11 b1_11 x1_12 a1_12 b1_12 x1_13 a1_13 b1_13 x1_14 a1_14 b1_14 x1_15 a1_15 b1_15 x2_0 a2_0 b2_0 x2_1 a2_1 b2_1 x2_2 a2_2 b2_2 x2_3 a2_3 b2_3 x3_0 a3_0 b3_0 x3_1 a3_1 b3_1 x3_2 a3_2 b3_2 x3_3 a3_3 b3_3 x4 a4 b4 x5 a5 b5 x6 a6 b6) (VmPlaces_true y0 p0 q0 x1_0 a1_0 b1_0 x1_1 a1_1 b1_1 x1_2 a1_2 b1_2 x1_3 a1_3 b1_3 x1_4 a1_4 b1_4 x1_5 a1_5 b1_5 x1_6 a1_6 b1_6 x1_7 a1_7 b1_7 x1_8 a1_8 b1_8 x1_9 a1_9 b1_9 x1_10 a1_10 b1_10 x1_11 a1_11 b1_11 x1_12 a1_12 b1_12 x1_13 a1_13 b1_13 x1_14 a1_14 b1_14 x1_15 a1_15 b1_15 x2_0 a2_0 b2_0 x2_1 a2_1 b2_1 x2_2 a2_2 b2_2 x2_3 a2_3 b2_3 x3_0 a3_0 b3_0 x3_1 a3_1 b3_1 x3_2 a3_2 b3_2 x3_3 a3_3 b3_3 x4 a4 b4 x5 a5 b5 x6 a6 b6) vs w φ h hM

set_option maxRecDepth 100000 in
theorem lifted (os : Os) (started : os.Started) (H : Type) (enc : TypeId × Value → H) :
    ReturnsInHanded {} Try.checked os 24 .any (Rows.vmPlacesSpec.pre6 enc Try.prog Try.f24 Rows.vmPlacesRow.domain false) (Rows.vmPlacesSpec.post enc Try.prog Try.f24 false true false false) :=
  law_liftedB (C := Try.checked) (tb := 4) started enc own (by kernel_rfl) Try.func24 rfl (fun ds h => by
    match ds, h with
    | [_, _, _, _, _, _, _], _ => rfl) laid (by kernel_rfl) shapes (by kernel_rfl) (by kernel_rfl)
    (ChangeSpec.witness6 (enc := enc) (C := Try.checked) false ⟨#[], #[.slice none 0 0, .agg #[.int .i32 0, .int .i32 0, .int .i32 0, .int .i32 0, .int .i32 0, .int .i32 0, .int .i32 0, .int .i32 0, .int .i32 0, .int .i32 0, .int .i32 0, .int .i32 0, .int .i32 0, .int .i32 0, .int .i32 0, .int .i32 0], .agg #[.int .i32 0, .int .i32 0, .int .i32 0, .int .i32 0], .agg #[.int .i32 0, .int .i32 0, .int .i32 0, .int .i32 0], .int .u16 0, .int .u16 0, .int .u16 0], []⟩ 8 (by kernel_rfl) (by kernel_rfl) (by kernel_rfl) (by kernel_rfl)) core

theorem k0 : (Rows.vmPlacesRow.wf (OpenSpec.ofChange Rows.vmPlacesSpec)) = true := by kernel_rfl
theorem k5 : ((Rows.vmPlacesRow.stops == [])) = true := by kernel_rfl
theorem k6 : ((Try.prog.stops == [])) = true := by kernel_rfl
theorem k8 : ((Try.prog.stopKnobs == [])) = true := by kernel_rfl
theorem k9 : ((Rows.vmPlacesRow.inPlace == Try.prog.inPlace 24)) = true := by kernel_rfl
theorem k10 : ((Rows.vmPlacesRow.unfollowed == Try.prog.unfollowed 24)) = true := by kernel_rfl
theorem k11 : ((Rows.vmPlacesRow.recurses == Try.prog.recurses 24)) = true := by kernel_rfl
theorem k12 : ((Rows.vmPlacesRow.named == Try.prog.varsNamed 24)) = true := by kernel_rfl
theorem k15 : ((Rows.vmPlacesRow.mapsOut == Try.prog.mapsAmong Try.f24.resultTypes.toList)) = true := by kernel_rfl
theorem k22 : ((Rows.vmPlacesRow.plainKeys == Try.prog.plainKeys)) = true := by kernel_rfl
theorem k24 : (Try.prog.stopsHeard) = true := by kernel_rfl
theorem k26 : ((Rows.vmPlacesRow.lifted == Try.prog.liftsFinal)) = true := by rw [V.seat_lifts]; kernel_rfl
theorem k27 : ((Try.prog.make == some Rows.vmPlacesRow.make)) = true := by rw [V.seat_make]; kernel_rfl
theorem k30 : ((Rows.vmPlacesRow.veiled == (Try.f24.params.toList ++ Rows.vmPlacesSpec.plain.varTypes Try.prog ++ Try.f24.resultTypes.toList).any (Try.prog.veiledRec ·))) = true := by kernel_rfl
theorem k31 : (Rows.vmPlacesRow.veiledFits Try.prog Try.f24.params.toList (Try.f24.params.toList ++ Rows.vmPlacesSpec.plain.varTypes Try.prog ++ Try.f24.resultTypes.toList)) = true := by kernel_rfl
theorem closed : joinedFacts Try.pinned.checked.prog 24 Try.f24 Rows.vmPlacesSpec Rows.vmPlacesRow = true := by
  unfold joinedFacts
  exact (andI (andI (andI (andI (andI (andI (andI (andI (andI (andI (andI (andI (andI (andI (andI (andI (andI (andI (andI (andI (andI (andI (andI (andI (andI (andI (andI (andI (andI (andI (andI k0 V.seat_laid) V.seat_rowed) (by kernel_rfl)) (by kernel_rfl)) k5) k6) (by kernel_rfl)) k8) k9) k10) k11) k12) (by kernel_rfl)) (by kernel_rfl)) k15) (by kernel_rfl)) (by kernel_rfl)) (by kernel_rfl)) (by kernel_rfl)) (by kernel_rfl)) (by kernel_rfl)) k22) (by kernel_rfl)) k24) V.seat_enter) k26) k27) (by kernel_rfl)) (by kernel_rfl)) k30) k31)

theorem over : Rows.vmPlacesRow.holds Try.pinned (OpenSpec.ofChange Rows.vmPlacesSpec) :=
  OpenClaim.holds_of_wide 24 Try.f24 rfl rfl rfl rfl rfl rfl rfl ⟨rfl, rfl, rfl, rfl, rfl⟩ rfl rfl rfl rfl rfl (by kernel_rfl) Try.func24 closed
    (of_decide_eq_true (by kernel_rfl)) (by unfold Func.isWrapper; first | (rw [if_pos (by decide +kernel)]; kernel_rfl) | (rw [if_neg (by decide +kernel)]; exact ⟨rfl, rfl⟩))
    (fun os started H enc _ => lifted os started H enc)

/-- The statement. -/
theorem proved : Rows.VmPlacesSaid := over

end Go.Proofs.Ytcdejlgophpdjaa.lawVmPlaces
