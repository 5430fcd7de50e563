/-
  The law 'FrameNew': called with any arguments it returns true, and its arguments read behind the call as before.
-/
import Derived.Test.YtcdejlgophpdjaaRows
import Derived.Test.YtcdejlgophpdjaaQFrameNew6
namespace Go.Proofs.Ytcdejlgophpdjaa.lawFrameNew
open Go Go.RowKit Go.Proofs.Ytcdejlgophpdjaa.V Go.Proofs.Ytcdejlgophpdjaa

theorem own : ownKnob Try.prog.godebug = none := by kernel_rfl

theorem shapes : argShapes Try.prog Try.f4.params.toList = some [(false, [.int .i64]), (false, [.int .i64]), (true, [.int .u8, .int .u8, .int .u8, .int .u8, .int .u16, .int .u8]), (false, [.int .i64]), (false, [.int .u8])] := by kernel_rfl

theorem core : AllArgs [(false, [.int .i64]), (false, [.int .i64]), (true, [.int .u8, .int .u8, .int .u8, .int .u8, .int .u16, .int .u8]), (false, [.int .i64]), (false, [.int .u8])] fun ar => ∀ (vs : Array Value) (w : World), All2 (LV.rel (fun _ => none)) ar vs.toList → Calls Try.prog 4 vs w fun e w' => e = .returned (.bool true) ∧ Grows w w' := by
  simp only [AllArgs, AllFit]
  intro x0 a0 b0 x1 a1 b1 x2_0 a2_0 b2_0 x2_1 a2_1 b2_1 x2_2 a2_2 b2_2 x2_3 a2_3 b2_3 x2_4 a2_4 b2_4 x2_5 a2_5 b2_5 x3 a3 b3 x4 a4 b4 vs w h
  exact law_core lFrNew_ok (args := [.a (.int true .i64 x0), .a (.int true .i64 x1), .g [.int true .u8 x2_0, .int true .u8 x2_1, .int true .u8 x2_2, .int true .u8 x2_3, .int true .u16 x2_4, .int true .u8 x2_5], .a (.int true .i64 x3), .a (.int true .u8 x4)]) (obs := _) (m := true) (b := _) rfl (FrameNew_obs x0 a0 b0 x1 a1 b1 x2_0 a2_0 b2_0 x2_1 a2_1 b2_1 x2_2 a2_2 b2_2 x2_3 a2_3 b2_3 x2_4 a2_4 b2_4 x2_5 a2_5 b2_5 x3 a3 b3 x4 a4 b4) (FrameNew_true x0 a0 b0 x1 a1 b1 x2_0 a2_0 b2_0 x2_1 a2_1 b2_1 x2_2 a2_2 b2_2 x2_3 a2_3 b2_3 x2_4 a2_4 b2_4 x2_5 a2_5 b2_5 x3 a3 b3 x4 a4 b4) vs w h

set_option maxRecDepth 100000 in
theorem lifted (os : Os) (started : os.Started) (H : Type) (enc : TypeId × Value → H) :
    ReturnsInHanded {} Try.checked os 4 .any (Rows.frameNewSpec.pre6 enc Try.prog Try.f4 Rows.frameNewRow.domain false) (Rows.frameNewSpec.post enc Try.prog Try.f4 false true false false) :=
  law_lifted (C := Try.checked) (tb := 4) started enc own (by kernel_rfl) Try.func4 rfl (fun ds h => by
    match ds, h with
    | [_, _, _, _, _], _ => rfl) (by kernel_rfl) shapes (by kernel_rfl) (by kernel_rfl)
    (ChangeSpec.witness6 (enc := enc) (C := Try.checked) false ⟨#[], #[.int .i64 0, .int .i64 0, .agg #[.int .u8 0, .int .u8 0, .int .u8 0, .int .u8 0, .int .u16 0, .int .u8 0], .int .i64 0, .int .u8 0], []⟩ 8 (by kernel_rfl) (by kernel_rfl) (by kernel_rfl) (by kernel_rfl)) core

theorem k0 : (Rows.frameNewRow.wf (OpenSpec.ofChange Rows.frameNewSpec)) = true := by kernel_rfl
theorem k5 : ((Rows.frameNewRow.stops == [])) = true := by kernel_rfl
theorem k6 : ((Try.prog.stops == [])) = true := by kernel_rfl
theorem k8 : ((Try.prog.stopKnobs == [])) = true := by kernel_rfl
theorem k9 : ((Rows.frameNewRow.inPlace == Try.prog.inPlace 4)) = true := by kernel_rfl
theorem k10 : ((Rows.frameNewRow.unfollowed == Try.prog.unfollowed 4)) = true := by kernel_rfl
theorem k11 : ((Rows.frameNewRow.recurses == Try.prog.recurses 4)) = true := by kernel_rfl
theorem k12 : ((Rows.frameNewRow.named == Try.prog.varsNamed 4)) = true := by kernel_rfl
theorem k15 : ((Rows.frameNewRow.mapsOut == Try.prog.mapsAmong Try.f4.resultTypes.toList)) = true := by kernel_rfl
theorem k22 : ((Rows.frameNewRow.plainKeys == Try.prog.plainKeys)) = true := by kernel_rfl
theorem k24 : (Try.prog.stopsHeard) = true := by kernel_rfl
theorem k26 : ((Rows.frameNewRow.lifted == Try.prog.liftsFinal)) = true := by rw [V.seat_lifts]; kernel_rfl
theorem k27 : ((Try.prog.make == some Rows.frameNewRow.make)) = true := by rw [V.seat_make]; kernel_rfl
theorem k30 : ((Rows.frameNewRow.veiled == (Try.f4.params.toList ++ Rows.frameNewSpec.plain.varTypes Try.prog ++ Try.f4.resultTypes.toList).any (Try.prog.veiledRec ·))) = true := by kernel_rfl
theorem k31 : (Rows.frameNewRow.veiledFits Try.prog Try.f4.params.toList (Try.f4.params.toList ++ Rows.frameNewSpec.plain.varTypes Try.prog ++ Try.f4.resultTypes.toList)) = true := by kernel_rfl
theorem closed : joinedFacts Try.pinned.checked.prog 4 Try.f4 Rows.frameNewSpec Rows.frameNewRow = true := by
  unfold joinedFacts
  exact (andI (andI (andI (andI (andI (andI (andI (andI (andI (andI (andI (andI (andI (andI (andI (andI (andI (andI (andI (andI (andI (andI (andI (andI (andI (andI (andI (andI (andI (andI (andI k0 V.seat_laid) V.seat_rowed) (by kernel_rfl)) (by kernel_rfl)) k5) k6) (by kernel_rfl)) k8) k9) k10) k11) k12) (by kernel_rfl)) (by kernel_rfl)) k15) (by kernel_rfl)) (by kernel_rfl)) (by kernel_rfl)) (by kernel_rfl)) (by kernel_rfl)) (by kernel_rfl)) k22) (by kernel_rfl)) k24) V.seat_enter) k26) k27) (by kernel_rfl)) (by kernel_rfl)) k30) k31)

theorem over : Rows.frameNewRow.holds Try.pinned (OpenSpec.ofChange Rows.frameNewSpec) :=
  OpenClaim.holds_of_wide 4 Try.f4 rfl rfl rfl rfl rfl rfl rfl ⟨rfl, rfl, rfl, rfl, rfl⟩ rfl rfl rfl rfl rfl (by kernel_rfl) Try.func4 closed
    (of_decide_eq_true (by kernel_rfl)) (by unfold Func.isWrapper; first | (rw [if_pos (by decide +kernel)]; kernel_rfl) | (rw [if_neg (by decide +kernel)]; exact ⟨rfl, rfl⟩))
    (fun os started H enc _ => lifted os started H enc)

/-- The statement. -/
theorem proved : Rows.FrameNewSaid := over

end Go.Proofs.Ytcdejlgophpdjaa.lawFrameNew
