/-
  The law 'VmColours': called with any arguments it returns true, and its arguments read behind the call as before.
-/
import Derived.Test.YtcdejlgophpdjaaRows
import Derived.Test.YtcdejlgophpdjaaQVmColours9
namespace Go.Proofs.Ytcdejlgophpdjaa.lawVmColours
open Go Go.RowKit Go.Proofs.Ytcdejlgophpdjaa.V Go.Proofs.Ytcdejlgophpdjaa

theorem own : ownKnob Try.prog.godebug = none := by kernel_rfl
theorem laid : laidOutB Try.prog = true := by kernel_rfl

theorem shapes : kcShapes Try.prog Try.f25.params.toList = some [(false, [.slc [.int .u8, .int .u8, .int .u8, .int .u8, .int .i16, .bool]]), (true, [.one (.int .i64), .one (.int .i64), .one (.int .i64), .one (.int .i64)]), (true, [.one (.int .i64), .one (.int .i64), .one (.int .i64), .one (.int .i64)]), (true, [.one (.int .i64), .one (.int .i64), .one (.int .i64), .one (.int .i64), .one (.int .i64), .one (.int .i64), .one (.int .i64), .one (.int .i64), .one (.int .i64), .one (.int .i64), .one (.int .i64), .one (.int .i64), .one (.int .i64), .one (.int .i64), .one (.int .i64), .one (.int .i64)]), (false, [.one (.int .i64)]), (false, [.one (.int .i64)]), (false, [.one (.int .i64)])] := by kernel_rfl

theorem core : AllB [(false, [.slc [.int .u8, .int .u8, .int .u8, .int .u8, .int .i16, .bool]]), (true, [.one (.int .i64), .one (.int .i64), .one (.int .i64), .one (.int .i64)]), (true, [.one (.int .i64), .one (.int .i64), .one (.int .i64), .one (.int .i64)]), (true, [.one (.int .i64), .one (.int .i64), .one (.int .i64), .one (.int .i64), .one (.int .i64), .one (.int .i64), .one (.int .i64), .one (.int .i64), .one (.int .i64), .one (.int .i64), .one (.int .i64), .one (.int .i64), .one (.int .i64), .one (.int .i64), .one (.int .i64), .one (.int .i64)]), (false, [.one (.int .i64)]), (false, [.one (.int .i64)]), (false, [.one (.int .i64)])] [] fun ar bs => ∀ (vs : Array Value) (w : World) (φ : Phi), All2 (LV.rel φ) ar vs.toList → (∀ out, MR w (fun _ => False) φ (memOf bs) (hdsIn bs out) (fun b => bs.length ≤ b) w) → Calls Try.prog 25 vs w fun e w' => e = .returned (.bool true) ∧ Grows w w' := by
  simp only [AllB, AllC]
  intro y0 p0 q0 x1_0 a1_0 b1_0 x1_1 a1_1 b1_1 x1_2 a1_2 b1_2 x1_3 a1_3 b1_3 x2_0 a2_0 b2_0 x2_1 a2_1 b2_1 x2_2 a2_2 b2_2 x2_3 a2_3 b2_3 x3_0 a3_0 b3_0 x3_1 a3_1 b3_1 x3_2 a3_2 b3_2 x3_3 a3_3 b3_3 x3_4 a3_4 b3_4 x3_5 a3_5 b3_5 x3_6 a3_6 b3_6 x3_7 a3_7 b3_7 x3_8 a3_8 b3_8 x3_9 a3_9 b3_9 x3_10 a3_10 b3_10 x3_11 a3_11 b3_11 x3_12 a3_12 b3_12 x3_13 a3_13 b3_13 x3_14 a3_14 b3_14 x3_15 a3_15 b3_15 x4 a4 b4 x5 a5 b5 x6 a6 b6 vs w φ h hM
  exact law_coreB lVmCo_ok (args := [.a (.slc true 0 0 0 6 0 (List.length y0)), .g [.int true .i64 x1_0, .int true .i64 x1_1, .int true .i64 x1_2, .int true .i64 x1_3], .g [.int true .i64 x2_0, .int true .i64 x2_1, .int true .i64 x2_2, .int true .i64 x2_3], .g [.int true .i64 x3_0, .int true .i64 x3_1, .int true .i64 x3_2, .int true .i64 x3_3, .int true .i64 x3_4, .int true .i64 x3_5, .int true .i64 x3_6, .int true .i64 x3_7, .int true .i64 x3_8, .int true .i64 x3_9, .int true .i64 x3_10, .int true .i64 x3_11, .int true .i64 x3_12, .int true .i64 x3_13, .int true .i64 x3_14, .int true .i64 x3_15], .a (.int true .i64 x4), .a (.int true .i64 x5), .a (.int true .i64 x6)]) (bs := [⟨⟨0, 0, true, some ⟨0, [.int .u8, .int .u8, .int .u8, .int .u8, .int .i16, .bool], y0, none⟩⟩, []⟩]) (obs := _) (m := true) (b := _) rfl (VmColours_obs y0 p0 q0 x1_0 a1_0 b1_0 x1_1 a1_1 b1_1 x1_2 a1_2 b1_2 x1_3 a1_3 b1_3 x2_0 a2_0 b2_0 x2_1 a2_1 b2_1 x2_2 a2_2 b2_2 x2_3 a2_3 b2_3 x3_0 a3_0 b3_0 x3_1 a3_1 b3_1 x3_2 a3_2 b3_2 x3_3 a3_3 b3_3 x3_4 a3_4 b3_4 x3_5 a3_5 b3_5 x3_6 a3_6 b3_6 x3_7 a3_7 b3_7 x3_8 a3_8 b3_8 x3_9 a3_9 b3_9 x3_10 a3_10 b3_10 x3_11 a3_11 b3_11 x3_12 a3_12 b3_12 x3_13 a3_13 b3_13 x3_14 a3_14 b3_14 x3_15 a3_15 b3_15 x4 a4 b4 x5 a5 b5 x6 a6 b6) (VmColours_true y0 p0 q0 x1_0 a1_0 b1_0 x1_1 a1_1 b1_1 x1_2 a1_2 b1_2 x1_3 a1_3 b1_3 x2_0 a2_0 b2_0 x2_1 a2_1 b2_1 x2_2 a2_2 b2_2 x2_3 a2_3 b2_3 x3_0 a3_0 b3_0 x3_1 a3_1 b3_1 x3_2 a3_2 b3_2 x3_3 a3_3 b3_3 x3_4 a3_4 b3_4 x3_5 a3_5 b3_5 x3_6 a3_6 b3_6 x3_7 a3_7 b3_7 x3_8 a3_8 b3_8 x3_9 a3_9 b3_9 x3_10 a3_10 b3_10 x3_11 a3_11 b3_11 x3_12 a3_12 b3_12 x3_13 a3_13 b3_13 x3_14 a3_14 b3_14 x3_15 a3_15 b3_15 x4 a4 b4 x5 a5 b5 x6 a6 b6) vs w φ h hM

set_option maxRecDepth 100000 in
theorem lifted (os : Os) (started : os.Started) (H : Type) (enc : TypeId × Value → H) :
    ReturnsInHanded {} Try.checked os 25 .any (Rows.vmColoursSpec.pre6 enc Try.prog Try.f25 Rows.vmColoursRow.domain false) (Rows.vmColoursSpec.post enc Try.prog Try.f25 false true false false) :=
  law_liftedB (C := Try.checked) (tb := 4) started enc own (by kernel_rfl) Try.func25 rfl (fun ds h => by
    match ds, h with
    | [_, _, _, _, _, _, _], _ => rfl) laid (by kernel_rfl) shapes (by kernel_rfl) (by kernel_rfl)
    (ChangeSpec.witness6 (enc := enc) (C := Try.checked) false ⟨#[], #[.slice none 0 0, .agg #[.int .i64 0, .int .i64 0, .int .i64 0, .int .i64 0], .agg #[.int .i64 0, .int .i64 0, .int .i64 0, .int .i64 0], .agg #[.int .i64 0, .int .i64 0, .int .i64 0, .int .i64 0, .int .i64 0, .int .i64 0, .int .i64 0, .int .i64 0, .int .i64 0, .int .i64 0, .int .i64 0, .int .i64 0, .int .i64 0, .int .i64 0, .int .i64 0, .int .i64 0], .int .i64 0, .int .i64 0, .int .i64 0], []⟩ 8 (by kernel_rfl) (by kernel_rfl) (by kernel_rfl) (by kernel_rfl)) core

theorem k0 : (Rows.vmColoursRow.wf (OpenSpec.ofChange Rows.vmColoursSpec)) = true := by kernel_rfl
theorem k5 : ((Rows.vmColoursRow.stops == [])) = true := by kernel_rfl
theorem k6 : ((Try.prog.stops == [])) = true := by kernel_rfl
theorem k8 : ((Try.prog.stopKnobs == [])) = true := by kernel_rfl
theorem k9 : ((Rows.vmColoursRow.inPlace == Try.prog.inPlace 25)) = true := by kernel_rfl
theorem k10 : ((Rows.vmColoursRow.unfollowed == Try.prog.unfollowed 25)) = true := by kernel_rfl
theorem k11 : ((Rows.vmColoursRow.recurses == Try.prog.recurses 25)) = true := by kernel_rfl
theorem k12 : ((Rows.vmColoursRow.named == Try.prog.varsNamed 25)) = true := by kernel_rfl
theorem k15 : ((Rows.vmColoursRow.mapsOut == Try.prog.mapsAmong Try.f25.resultTypes.toList)) = true := by kernel_rfl
theorem k22 : ((Rows.vmColoursRow.plainKeys == Try.prog.plainKeys)) = true := by kernel_rfl
theorem k24 : (Try.prog.stopsHeard) = true := by kernel_rfl
theorem k26 : ((Rows.vmColoursRow.lifted == Try.prog.liftsFinal)) = true := by rw [V.seat_lifts]; kernel_rfl
theorem k27 : ((Try.prog.make == some Rows.vmColoursRow.make)) = true := by rw [V.seat_make]; kernel_rfl
theorem k30 : ((Rows.vmColoursRow.veiled == (Try.f25.params.toList ++ Rows.vmColoursSpec.plain.varTypes Try.prog ++ Try.f25.resultTypes.toList).any (Try.prog.veiledRec ·))) = true := by kernel_rfl
theorem k31 : (Rows.vmColoursRow.veiledFits Try.prog Try.f25.params.toList (Try.f25.params.toList ++ Rows.vmColoursSpec.plain.varTypes Try.prog ++ Try.f25.resultTypes.toList)) = true := by kernel_rfl
theorem closed : joinedFacts Try.pinned.checked.prog 25 Try.f25 Rows.vmColoursSpec Rows.vmColoursRow = true := by
  unfold joinedFacts
  exact (andI (andI (andI (andI (andI (andI (andI (andI (andI (andI (andI (andI (andI (andI (andI (andI (andI (andI (andI (andI (andI (andI (andI (andI (andI (andI (andI (andI (andI (andI (andI k0 V.seat_laid) V.seat_rowed) (by kernel_rfl)) (by kernel_rfl)) k5) k6) (by kernel_rfl)) k8) k9) k10) k11) k12) (by kernel_rfl)) (by kernel_rfl)) k15) (by kernel_rfl)) (by kernel_rfl)) (by kernel_rfl)) (by kernel_rfl)) (by kernel_rfl)) (by kernel_rfl)) k22) (by kernel_rfl)) k24) V.seat_enter) k26) k27) (by kernel_rfl)) (by kernel_rfl)) k30) k31)

theorem over : Rows.vmColoursRow.holds Try.pinned (OpenSpec.ofChange Rows.vmColoursSpec) :=
  OpenClaim.holds_of_wide 25 Try.f25 rfl rfl rfl rfl rfl rfl rfl ⟨rfl, rfl, rfl, rfl, rfl⟩ rfl rfl rfl rfl rfl (by kernel_rfl) Try.func25 closed
    (of_decide_eq_true (by kernel_rfl)) (by unfold Func.isWrapper; first | (rw [if_pos (by decide +kernel)]; kernel_rfl) | (rw [if_neg (by decide +kernel)]; exact ⟨rfl, rfl⟩))
    (fun os started H enc _ => lifted os started H enc)

/-- The statement. -/
theorem proved : Rows.VmColoursSaid := over

end Go.Proofs.Ytcdejlgophpdjaa.lawVmColours
