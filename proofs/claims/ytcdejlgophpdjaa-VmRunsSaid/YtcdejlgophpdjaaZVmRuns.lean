/-
  The law 'VmRuns': called with any arguments it returns true, and its arguments read behind the call as before.
-/
import Derived.Test.YtcdejlgophpdjaaRows
import Derived.Test.YtcdejlgophpdjaaQVmRuns9
namespace Go.Proofs.Ytcdejlgophpdjaa.lawVmRuns
open Go Go.RowKit Go.Proofs.Ytcdejlgophpdjaa.V Go.Proofs.Ytcdejlgophpdjaa

theorem own : ownKnob Try.prog.godebug = none := by kernel_rfl
theorem laid : laidOutB Try.prog = true := by kernel_rfl

theorem shapes : kcShapes Try.prog Try.f20.params.toList = some [(false, [.slc [.int .u8, .int .u8, .int .u8, .int .u8, .int .i16, .bool]]), (false, [.slc [.int .i32]]), (true, [.one (.int .i64), .one (.int .i64), .one (.int .i64), .one (.int .i64)])] := by kernel_rfl

theorem core : AllB [(false, [.slc [.int .u8, .int .u8, .int .u8, .int .u8, .int .i16, .bool]]), (false, [.slc [.int .i32]]), (true, [.one (.int .i64), .one (.int .i64), .one (.int .i64), .one (.int .i64)])] [] fun ar bs => ∀ (vs : Array Value) (w : World) (φ : Phi), All2 (LV.rel φ) ar vs.toList → (∀ out, MR w (fun _ => False) φ (memOf bs) (hdsIn bs out) (fun b => bs.length ≤ b) w) → Calls Try.prog 20 vs w fun e w' => e = .returned (.bool true) ∧ Grows w w' := by
  simp only [AllB, AllC]
  intro y0 p0 q0 y1 p1 q1 x2_0 a2_0 b2_0 x2_1 a2_1 b2_1 x2_2 a2_2 b2_2 x2_3 a2_3 b2_3 vs w φ h hM
  exact law_coreB lVmRu_ok (args := [.a (.slc true 0 0 0 6 0 (List.length y0)), .a (.slc true 1 0 0 1 0 (List.length y1)), .g [.int true .i64 x2_0, .int true .i64 x2_1, .int true .i64 x2_2, .int true .i64 x2_3]]) (bs := [⟨⟨0, 0, true, some ⟨0, [.int .u8, .int .u8, .int .u8, .int .u8, .int .i16, .bool], y0, none⟩⟩, []⟩, ⟨⟨0, 0, true, some ⟨0, [.int .i32], y1, none⟩⟩, []⟩]) (obs := _) (m := true) (b := _) rfl (VmRuns_obs y0 p0 q0 y1 p1 q1 x2_0 a2_0 b2_0 x2_1 a2_1 b2_1 x2_2 a2_2 b2_2 x2_3 a2_3 b2_3) (VmRuns_true y0 p0 q0 y1 p1 q1 x2_0 a2_0 b2_0 x2_1 a2_1 b2_1 x2_2 a2_2 b2_2 x2_3 a2_3 b2_3) vs w φ h hM

set_option maxRecDepth 100000 in
theorem lifted (os : Os) (started : os.Started) (H : Type) (enc : TypeId × Value → H) :
    ReturnsInHanded {} Try.checked os 20 .any (Rows.vmRunsSpec.pre6 enc Try.prog Try.f20 Rows.vmRunsRow.domain false) (Rows.vmRunsSpec.post enc Try.prog Try.f20 false true false false) :=
  law_liftedB (C := Try.checked) (tb := 4) started enc own (by kernel_rfl) Try.func20 rfl (fun ds h => by
    match ds, h with
    | [_, _, _], _ => rfl) laid (by kernel_rfl) shapes (by kernel_rfl) (by kernel_rfl)
    (ChangeSpec.witness6 (enc := enc) (C := Try.checked) false ⟨#[], #[.slice none 0 0, .slice none 0 0, .agg #[.int .i64 0, .int .i64 0, .int .i64 0, .int .i64 0]], []⟩ 8 (by kernel_rfl) (by kernel_rfl) (by kernel_rfl) (by kernel_rfl)) core

theorem k0 : (Rows.vmRunsRow.wf (OpenSpec.ofChange Rows.vmRunsSpec)) = true := by kernel_rfl
theorem k5 : ((Rows.vmRunsRow.stops == [])) = true := by kernel_rfl
theorem k6 : ((Try.prog.stops == [])) = true := by kernel_rfl
theorem k8 : ((Try.prog.stopKnobs == [])) = true := by kernel_rfl
theorem k9 : ((Rows.vmRunsRow.inPlace == Try.prog.inPlace 20)) = true := by kernel_rfl
theorem k10 : ((Rows.vmRunsRow.unfollowed == Try.prog.unfollowed 20)) = true := by kernel_rfl
theorem k11 : ((Rows.vmRunsRow.recurses == Try.prog.recurses 20)) = true := by kernel_rfl
theorem k12 : ((Rows.vmRunsRow.named == Try.prog.varsNamed 20)) = true := by kernel_rfl
theorem k15 : ((Rows.vmRunsRow.mapsOut == Try.prog.mapsAmong Try.f20.resultTypes.toList)) = true := by kernel_rfl
theorem k22 : ((Rows.vmRunsRow.plainKeys == Try.prog.plainKeys)) = true := by kernel_rfl
theorem k24 : (Try.prog.stopsHeard) = true := by kernel_rfl
theorem k26 : ((Rows.vmRunsRow.lifted == Try.prog.liftsFinal)) = true := by rw [V.seat_lifts]; kernel_rfl
theorem k27 : ((Try.prog.make == some Rows.vmRunsRow.make)) = true := by rw [V.seat_make]; kernel_rfl
theorem k30 : ((Rows.vmRunsRow.veiled == (Try.f20.params.toList ++ Rows.vmRunsSpec.plain.varTypes Try.prog ++ Try.f20.resultTypes.toList).any (Try.prog.veiledRec ·))) = true := by kernel_rfl
theorem k31 : (Rows.vmRunsRow.veiledFits Try.prog Try.f20.params.toList (Try.f20.params.toList ++ Rows.vmRunsSpec.plain.varTypes Try.prog ++ Try.f20.resultTypes.toList)) = true := by kernel_rfl
theorem closed : joinedFacts Try.pinned.checked.prog 20 Try.f20 Rows.vmRunsSpec Rows.vmRunsRow = true := by
  unfold joinedFacts
  exact (andI (andI (andI (andI (andI (andI (andI (andI (andI (andI (andI (andI (andI (andI (andI (andI (andI (andI (andI (andI (andI (andI (andI (andI (andI (andI (andI (andI (andI (andI (andI k0 V.seat_laid) V.seat_rowed) (by kernel_rfl)) (by kernel_rfl)) k5) k6) (by kernel_rfl)) k8) k9) k10) k11) k12) (by kernel_rfl)) (by kernel_rfl)) k15) (by kernel_rfl)) (by kernel_rfl)) (by kernel_rfl)) (by kernel_rfl)) (by kernel_rfl)) (by kernel_rfl)) k22) (by kernel_rfl)) k24) V.seat_enter) k26) k27) (by kernel_rfl)) (by kernel_rfl)) k30) k31)

theorem over : Rows.vmRunsRow.holds Try.pinned (OpenSpec.ofChange Rows.vmRunsSpec) :=
  OpenClaim.holds_of_wide 20 Try.f20 rfl rfl rfl rfl rfl rfl rfl ⟨rfl, rfl, rfl, rfl, rfl⟩ rfl rfl rfl rfl rfl (by kernel_rfl) Try.func20 closed
    (of_decide_eq_true (by kernel_rfl)) (by unfold Func.isWrapper; first | (rw [if_pos (by decide +kernel)]; kernel_rfl) | (rw [if_neg (by decide +kernel)]; exact ⟨rfl, rfl⟩))
    (fun os started H enc _ => lifted os started H enc)

/-- The statement. -/
theorem proved : Rows.VmRunsSaid := over

end Go.Proofs.Ytcdejlgophpdjaa.lawVmRuns
