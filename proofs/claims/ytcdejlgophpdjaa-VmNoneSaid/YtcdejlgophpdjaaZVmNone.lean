/-
  The law 'VmNone': called with any arguments it returns true, and its arguments read behind the call as before.
-/
import Derived.Test.YtcdejlgophpdjaaRows
import Derived.Test.YtcdejlgophpdjaaQVmNone9
namespace Go.Proofs.Ytcdejlgophpdjaa.lawVmNone
open Go Go.RowKit Go.Proofs.Ytcdejlgophpdjaa.V Go.Proofs.Ytcdejlgophpdjaa

theorem own : ownKnob Try.prog.godebug = none := by kernel_rfl
theorem laid : laidOutB Try.prog = true := by kernel_rfl

theorem shapes : kcShapes Try.prog Try.f21.params.toList = some [(false, [.slc [.int .u8, .int .u8, .int .u8, .int .u8, .int .i16]]), (false, [.slc [.int .i32]]), (true, [.one (.int .i64), .one (.int .i64), .one (.int .i64), .one (.int .i64)]), (false, [.one (.int .i64)]), (false, [.one (.int .i64)]), (false, [.one (.int .i64)])] := by kernel_rfl

theorem core : AllBn [(false, [.slc [.int .u8, .int .u8, .int .u8, .int .u8, .int .i16]]), (false, [.slc [.int .i32]]), (true, [.one (.int .i64), .one (.int .i64), .one (.int .i64), .one (.int .i64)]), (false, [.one (.int .i64)]), (false, [.one (.int .i64)]), (false, [.one (.int .i64)])] [] fun ar bs => ∀ (vs : Array Value) (w : World) (φ : Phi), All2 (LV.rel φ) ar vs.toList → (∀ out, MR w (fun _ => False) φ (memOf bs) (hdsIn bs out) (fun b => bs.length ≤ b) w) → Calls Try.prog 21 vs w fun e w' => e = .returned (.bool true) ∧ Grows w w' := by
  simp only [AllBn, AllCn]
  intro y0 p0 q0 y1 p1 q1 x2_0 a2_0 b2_0 x2_1 a2_1 b2_1 x2_2 a2_2 b2_2 x2_3 a2_3 b2_3 x3 a3 b3 x4 a4 b4 x5 a5 b5 vs w φ h hM
  cases y0 with
  | nil => exact law_coreB lVmNb_ok (args := [.a (.slc false 0 0 0 5 0 0), .a (.slc true 1 0 0 1 0 (List.length y1)), .g [.int true .i64 x2_0, .int true .i64 x2_1, .int true .i64 x2_2, .int true .i64 x2_3], .a (.int true .i64 x3), .a (.int true .i64 x4), .a (.int true .i64 x5)]) (bs := [⟨⟨0, 0, true, some ⟨0, [.int .u8, .int .u8, .int .u8, .int .u8, .int .i16], [], none⟩⟩, []⟩, ⟨⟨0, 0, true, some ⟨0, [.int .i32], y1, none⟩⟩, []⟩]) (obs := _) (m := true) (b := _) rfl (none_bo _ x2_0 x2_1 x2_2 x2_3 x3 x4 x5 [] y1) (none_b _ x3 x4 x5 y1) vs w φ (all2_hd h fun _ k => k) hM
  | cons r l => exact law_coreB lVmNa_ok (args := [.a (.vec 0 0 5), .a (.slc true 1 0 0 1 0 (List.length y1)), .g [.int true .i64 x2_0, .int true .i64 x2_1, .int true .i64 x2_2, .int true .i64 x2_3], .a (.int true .i64 x3), .a (.int true .i64 x4), .a (.int true .i64 x5)]) (bs := [⟨⟨0, 0, true, some ⟨0, [.int .u8, .int .u8, .int .u8, .int .u8, .int .i16], (r :: l), none⟩⟩, []⟩, ⟨⟨0, 0, true, some ⟨0, [.int .i32], y1, none⟩⟩, []⟩]) (obs := _) (m := true) (b := _) rfl (none_ao _ x2_0 x2_1 x2_2 x2_3 x3 x4 x5 p0 y1) (none_a _ x2_0 x2_1 x2_2 x2_3 x3 x4 x5 p0 y1) vs w φ h hM

set_option maxRecDepth 100000 in
theorem lifted (os : Os) (started : os.Started) (H : Type) (enc : TypeId × Value → H) :
    ReturnsInHanded {} Try.checked os 21 .any (Rows.vmNoneSpec.pre6 enc Try.prog Try.f21 Rows.vmNoneRow.domain false) (Rows.vmNoneSpec.post enc Try.prog Try.f21 false true false false) :=
  law_liftedBn (C := Try.checked) (tb := 4) started enc own (by kernel_rfl) Try.func21 rfl (fun ds h => by
    match ds, h with
    | [_, _, _, _, _, _], _ => rfl) laid (by kernel_rfl) shapes (by kernel_rfl) (by kernel_rfl)
    (ChangeSpec.witness6 (enc := enc) (C := Try.checked) false ⟨#[], #[.slice none 0 0, .slice none 0 0, .agg #[.int .i64 0, .int .i64 0, .int .i64 0, .int .i64 0], .int .i64 0, .int .i64 0, .int .i64 0], []⟩ 8 (by kernel_rfl) (by kernel_rfl) (by kernel_rfl) (by kernel_rfl)) core

theorem k0 : (Rows.vmNoneRow.wf (OpenSpec.ofChange Rows.vmNoneSpec)) = true := by kernel_rfl
theorem k5 : ((Rows.vmNoneRow.stops == [])) = true := by kernel_rfl
theorem k6 : ((Try.prog.stops == [])) = true := by kernel_rfl
theorem k8 : ((Try.prog.stopKnobs == [])) = true := by kernel_rfl
theorem k9 : ((Rows.vmNoneRow.inPlace == Try.prog.inPlace 21)) = true := by kernel_rfl
theorem k10 : ((Rows.vmNoneRow.unfollowed == Try.prog.unfollowed 21)) = true := by kernel_rfl
theorem k11 : ((Rows.vmNoneRow.recurses == Try.prog.recurses 21)) = true := by kernel_rfl
theorem k12 : ((Rows.vmNoneRow.named == Try.prog.varsNamed 21)) = true := by kernel_rfl
theorem k15 : ((Rows.vmNoneRow.mapsOut == Try.prog.mapsAmong Try.f21.resultTypes.toList)) = true := by kernel_rfl
theorem k22 : ((Rows.vmNoneRow.plainKeys == Try.prog.plainKeys)) = true := by kernel_rfl
theorem k24 : (Try.prog.stopsHeard) = true := by kernel_rfl
theorem k26 : ((Rows.vmNoneRow.lifted == Try.prog.liftsFinal)) = true := by rw [V.seat_lifts]; kernel_rfl
theorem k27 : ((Try.prog.make == some Rows.vmNoneRow.make)) = true := by rw [V.seat_make]; kernel_rfl
theorem k30 : ((Rows.vmNoneRow.veiled == (Try.f21.params.toList ++ Rows.vmNoneSpec.plain.varTypes Try.prog ++ Try.f21.resultTypes.toList).any (Try.prog.veiledRec ·))) = true := by kernel_rfl
theorem k31 : (Rows.vmNoneRow.veiledFits Try.prog Try.f21.params.toList (Try.f21.params.toList ++ Rows.vmNoneSpec.plain.varTypes Try.prog ++ Try.f21.resultTypes.toList)) = true := by kernel_rfl
theorem closed : joinedFacts Try.pinned.checked.prog 21 Try.f21 Rows.vmNoneSpec Rows.vmNoneRow = true := by
  unfold joinedFacts
  exact (andI (andI (andI (andI (andI (andI (andI (andI (andI (andI (andI (andI (andI (andI (andI (andI (andI (andI (andI (andI (andI (andI (andI (andI (andI (andI (andI (andI (andI (andI (andI k0 V.seat_laid) V.seat_rowed) (by kernel_rfl)) (by kernel_rfl)) k5) k6) (by kernel_rfl)) k8) k9) k10) k11) k12) (by kernel_rfl)) (by kernel_rfl)) k15) (by kernel_rfl)) (by kernel_rfl)) (by kernel_rfl)) (by kernel_rfl)) (by kernel_rfl)) (by kernel_rfl)) k22) (by kernel_rfl)) k24) V.seat_enter) k26) k27) (by kernel_rfl)) (by kernel_rfl)) k30) k31)

theorem over : Rows.vmNoneRow.holds Try.pinned (OpenSpec.ofChange Rows.vmNoneSpec) :=
  OpenClaim.holds_of_wide 21 Try.f21 rfl rfl rfl rfl rfl rfl rfl ⟨rfl, rfl, rfl, rfl, rfl⟩ rfl rfl rfl rfl rfl (by kernel_rfl) Try.func21 closed
    (of_decide_eq_true (by kernel_rfl)) (by unfold Func.isWrapper; first | (rw [if_pos (by decide +kernel)]; kernel_rfl) | (rw [if_neg (by decide +kernel)]; exact ⟨rfl, rfl⟩))
    (fun os started H enc _ => lifted os started H enc)

/-- The statement. -/
theorem proved : Rows.VmNoneSaid := over

end Go.Proofs.Ytcdejlgophpdjaa.lawVmNone
