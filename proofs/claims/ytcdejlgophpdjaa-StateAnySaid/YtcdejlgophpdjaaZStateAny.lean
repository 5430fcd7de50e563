/-
  The law 'StateAny': called with any arguments it returns true, and its arguments read behind the call as before.
-/
import Derived.Test.YtcdejlgophpdjaaRows
import Derived.Test.YtcdejlgophpdjaaVS
import Derived.Test.YtcdejlgophpdjaaVMb
import Derived.Test.YtcdejlgophpdjaaWg
namespace Go.Proofs.Ytcdejlgophpdjaa.lawStateAny
open Go Go.RowKit Go.Proofs.Ytcdejlgophpdjaa.V Go.Proofs.Ytcdejlgophpdjaa

theorem own : ownKnob Try.prog.godebug = none := by kernel_rfl
theorem laid : laidOutB Try.prog = true := by kernel_rfl

theorem shapes : kcShapes Try.prog Try.f10.params.toList = some [(false, [.slc [.int .u8]]), (true, [.one (.int .u8), .one (.int .u8), .one (.int .u8), .one (.int .u8), .one (.int .u8), .one (.int .u8), .one (.int .u8), .one (.int .u8), .one (.int .u8), .one (.int .u8), .one .bool, .one .bool, .one (.int .u8), .one (.int .u8), .one (.int .u8), .one (.int .u8)]), (false, [.one (.int .u8)]), (false, [.one (.int .u8)]), (true, [.one (.int .u8), .one .bool, .one (.int .u8), .one (.int .u8), .one (.int .u8), .one (.int .u8), .one (.int .u8), .one (.int .u8), .one (.int .u8), .one (.int .u8), .one (.int .u8), .one (.int .i64), .one (.int .i64), .one (.int .i64), .one (.int .i64)])] := by kernel_rfl

theorem core : AllB [(false, [.slc [.int .u8]]), (true, [.one (.int .u8), .one (.int .u8), .one (.int .u8), .one (.int .u8), .one (.int .u8), .one (.int .u8), .one (.int .u8), .one (.int .u8), .one (.int .u8), .one (.int .u8), .one .bool, .one .bool, .one (.int .u8), .one (.int .u8), .one (.int .u8), .one (.int .u8)]), (false, [.one (.int .u8)]), (false, [.one (.int .u8)]), (true, [.one (.int .u8), .one .bool, .one (.int .u8), .one (.int .u8), .one (.int .u8), .one (.int .u8), .one (.int .u8), .one (.int .u8), .one (.int .u8), .one (.int .u8), .one (.int .u8), .one (.int .i64), .one (.int .i64), .one (.int .i64), .one (.int .i64)])] [] fun ar bs => ∀ (vs : Array Value) (w : World) (φ : Phi), All2 (LV.rel φ) ar vs.toList → (∀ out, MR w (fun _ => False) φ (memOf bs) (hdsIn bs out) (fun b => bs.length ≤ b) w) → Calls Try.prog 10 vs w fun e w' => e = .returned (.bool true) ∧ Grows w w' := by
  simp only [AllB, AllC]
  intro y0 p0 q0 x1_0 a1_0 b1_0 x1_1 a1_1 b1_1 x1_2 a1_2 b1_2 x1_3 a1_3 b1_3 x1_4 a1_4 b1_4 x1_5 a1_5 b1_5 x1_6 a1_6 b1_6 x1_7 a1_7 b1_7 x1_8 a1_8 b1_8 x1_9 a1_9 b1_9 x1_10 x1_11 x1_12 a1_12 b1_12 x1_13 a1_13 b1_13 x1_14 a1_14 b1_14 x1_15 a1_15 b1_15 x2 a2 b2 x3 a3 b3 x4_0 a4_0 b4_0 x4_1 x4_2 a4_2 b4_2 x4_3 a4_3 b4_3 x4_4 a4_4 b4_4 x4_5 a4_5 b4_5 x4_6 a4_6 b4_6 x4_7 a4_7 b4_7 x4_8 a4_8 b4_8 x4_9 a4_9 b4_9 x4_10 a4_10 b4_10 x4_11 a4_11 b4_11 x4_12 a4_12 b4_12 x4_13 a4_13 b4_13 x4_14 a4_14 b4_14 vs w φ h hM
  exact law_coreB lAny_ok (args := [.a (.slc true 0 0 0 1 0 (List.length y0)), .g [.int true .u8 x1_0, .int true .u8 x1_1, .int true .u8 x1_2, .int true .u8 x1_3, .int true .u8 x1_4, .int true .u8 x1_5, .int true .u8 x1_6, .int true .u8 x1_7, .int true .u8 x1_8, .int true .u8 x1_9, .bool true x1_10, .bool true x1_11, .int true .u8 x1_12, .int true .u8 x1_13, .int true .u8 x1_14, .int true .u8 x1_15], .a (.int true .u8 x2), .a (.int true .u8 x3), .g [.int true .u8 x4_0, .bool true x4_1, .int true .u8 x4_2, .int true .u8 x4_3, .int true .u8 x4_4, .int true .u8 x4_5, .int true .u8 x4_6, .int true .u8 x4_7, .int true .u8 x4_8, .int true .u8 x4_9, .int true .u8 x4_10, .int true .i64 x4_11, .int true .i64 x4_12, .int true .i64 x4_13, .int true .i64 x4_14]]) (bs := [⟨⟨0, 0, true, some ⟨0, [.int .u8], y0, none⟩⟩, []⟩]) (obs := _) (m := true) (b := _) rfl (StateAny_obs y0 p0 q0 x1_0 a1_0 b1_0 x1_1 a1_1 b1_1 x1_2 a1_2 b1_2 x1_3 a1_3 b1_3 x1_4 a1_4 b1_4 x1_5 a1_5 b1_5 x1_6 a1_6 b1_6 x1_7 a1_7 b1_7 x1_8 a1_8 b1_8 x1_9 a1_9 b1_9 x1_10 x1_11 x1_12 a1_12 b1_12 x1_13 a1_13 b1_13 x1_14 a1_14 b1_14 x1_15 a1_15 b1_15 x2 a2 b2 x3 a3 b3 x4_0 a4_0 b4_0 x4_1 x4_2 a4_2 b4_2 x4_3 a4_3 b4_3 x4_4 a4_4 b4_4 x4_5 a4_5 b4_5 x4_6 a4_6 b4_6 x4_7 a4_7 b4_7 x4_8 a4_8 b4_8 x4_9 a4_9 b4_9 x4_10 a4_10 b4_10 x4_11 a4_11 b4_11 x4_12 a4_12 b4_12 x4_13 a4_13 b4_13 x4_14 a4_14 b4_14) (StateAny_true y0 p0 q0 x1_0 a1_0 b1_0 x1_1 a1_1 b1_1 x1_2 a1_2 b1_2 x1_3 a1_3 b1_3 x1_4 a1_4 b1_4 x1_5 a1_5 b1_5 x1_6 a1_6 b1_6 x1_7 a1_7 b1_7 x1_8 a1_8 b1_8 x1_9 a1_9 b1_9 x1_10 x1_11 x1_12 a1_12 b1_12 x1_13 a1_13 b1_13 x1_14 a1_14 b1_14 x1_15 a1_15 b1_15 x2 a2 b2 x3 a3 b3 x4_0 a4_0 b4_0 x4_1 x4_2 a4_2 b4_2 x4_3 a4_3 b4_3 x4_4 a4_4 b4_4 x4_5 a4_5 b4_5 x4_6 a4_6 b4_6 x4_7 a4_7 b4_7 x4_8 a4_8 b4_8 x4_9 a4_9 b4_9 x4_10 a4_10 b4_10 x4_11 a4_11 b4_11 x4_12 a4_12 b4_12 x4_13 a4_13 b4_13 x4_14 a4_14 b4_14) vs w φ h hM

set_option maxRecDepth 100000 in
theorem lifted (os : Os) (started : os.Started) (H : Type) (enc : TypeId × Value → H) :
    ReturnsInHanded {} Try.checked os 10 .any (Rows.stateAnySpec.pre6 enc Try.prog Try.f10 Rows.stateAnyRow.domain false) (Rows.stateAnySpec.post enc Try.prog Try.f10 false true false false) :=
  law_liftedB (C := Try.checked) (tb := 4) started enc own (by kernel_rfl) Try.func10 rfl (fun ds h => by
    match ds, h with
    | [_, _, _, _, _], _ => rfl) laid (by kernel_rfl) shapes (by kernel_rfl) (by kernel_rfl)
    (ChangeSpec.witness6 (enc := enc) (C := Try.checked) false ⟨#[], #[.slice none 0 0, .agg #[.int .u8 0, .int .u8 0, .int .u8 0, .int .u8 0, .int .u8 0, .int .u8 0, .int .u8 0, .int .u8 0, .int .u8 0, .int .u8 0, .bool false, .bool false, .int .u8 0, .int .u8 0, .int .u8 0, .int .u8 0], .int .u8 0, .int .u8 0, .agg #[.int .u8 0, .bool false, .int .u8 0, .int .u8 0, .int .u8 0, .int .u8 0, .int .u8 0, .int .u8 0, .int .u8 0, .int .u8 0, .int .u8 0, .int .i64 0, .int .i64 0, .int .i64 0, .int .i64 0]], []⟩ 8 (by kernel_rfl) (by kernel_rfl) (by kernel_rfl) (by kernel_rfl)) core

theorem k0 : (Rows.stateAnyRow.wf (OpenSpec.ofChange Rows.stateAnySpec)) = true := by kernel_rfl
theorem k5 : ((Rows.stateAnyRow.stops == [])) = true := by kernel_rfl
theorem k6 : ((Try.prog.stops == [])) = true := by kernel_rfl
theorem k8 : ((Try.prog.stopKnobs == [])) = true := by kernel_rfl
theorem k9 : ((Rows.stateAnyRow.inPlace == Try.prog.inPlace 10)) = true := by kernel_rfl
theorem k10 : ((Rows.stateAnyRow.unfollowed == Try.prog.unfollowed 10)) = true := by kernel_rfl
theorem k11 : ((Rows.stateAnyRow.recurses == Try.prog.recurses 10)) = true := by kernel_rfl
theorem k12 : ((Rows.stateAnyRow.named == Try.prog.varsNamed 10)) = true := by kernel_rfl
theorem k15 : ((Rows.stateAnyRow.mapsOut == Try.prog.mapsAmong Try.f10.resultTypes.toList)) = true := by kernel_rfl
theorem k22 : ((Rows.stateAnyRow.plainKeys == Try.prog.plainKeys)) = true := by kernel_rfl
theorem k24 : (Try.prog.stopsHeard) = true := by kernel_rfl
theorem k26 : ((Rows.stateAnyRow.lifted == Try.prog.liftsFinal)) = true := by rw [V.seat_lifts]; kernel_rfl
theorem k27 : ((Try.prog.make == some Rows.stateAnyRow.make)) = true := by rw [V.seat_make]; kernel_rfl
theorem k30 : ((Rows.stateAnyRow.veiled == (Try.f10.params.toList ++ Rows.stateAnySpec.plain.varTypes Try.prog ++ Try.f10.resultTypes.toList).any (Try.prog.veiledRec ·))) = true := by kernel_rfl
theorem k31 : (Rows.stateAnyRow.veiledFits Try.prog Try.f10.params.toList (Try.f10.params.toList ++ Rows.stateAnySpec.plain.varTypes Try.prog ++ Try.f10.resultTypes.toList)) = true := by kernel_rfl
theorem closed : joinedFacts Try.pinned.checked.prog 10 Try.f10 Rows.stateAnySpec Rows.stateAnyRow = true := by
  unfold joinedFacts
  exact (andI (andI (andI (andI (andI (andI (andI (andI (andI (andI (andI (andI (andI (andI (andI (andI (andI (andI (andI (andI (andI (andI (andI (andI (andI (andI (andI (andI (andI (andI (andI k0 V.seat_laid) V.seat_rowed) (by kernel_rfl)) (by kernel_rfl)) k5) k6) (by kernel_rfl)) k8) k9) k10) k11) k12) (by kernel_rfl)) (by kernel_rfl)) k15) (by kernel_rfl)) (by kernel_rfl)) (by kernel_rfl)) (by kernel_rfl)) (by kernel_rfl)) (by kernel_rfl)) k22) (by kernel_rfl)) k24) V.seat_enter) k26) k27) (by kernel_rfl)) (by kernel_rfl)) k30) k31)

theorem over : Rows.stateAnyRow.holds Try.pinned (OpenSpec.ofChange Rows.stateAnySpec) :=
  OpenClaim.holds_of_wide 10 Try.f10 rfl rfl rfl rfl rfl rfl rfl ⟨rfl, rfl, rfl, rfl, rfl⟩ rfl rfl rfl rfl rfl (by kernel_rfl) Try.func10 closed
    (of_decide_eq_true (by kernel_rfl)) (by unfold Func.isWrapper; first | (rw [if_pos (by decide +kernel)]; kernel_rfl) | (rw [if_neg (by decide +kernel)]; exact ⟨rfl, rfl⟩))
    (fun os started H enc _ => lifted os started H enc)

/-- The statement. -/
theorem proved : Rows.StateAnySaid := over

end Go.Proofs.Ytcdejlgophpdjaa.lawStateAny
