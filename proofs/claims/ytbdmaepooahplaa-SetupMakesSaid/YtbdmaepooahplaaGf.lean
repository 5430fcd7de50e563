/-
  The vertices that are left of a triangle can be shown.
-/
import Derived.Test.YtbdmaepooahplaaGe
namespace Go.Proofs.Ytbdmaepooahplaa
open Go Go.RowKit Go.Proofs.Ytbdmaepooahplaa.V
set_option linter.unusedVariables false
set_option linter.unusedSectionVars false

theorem col_bd (x : Int) : 0 ≤ vmColour_0 x ∧ vmColour_0 x ≤ 65536 := by unfold vmColour_0 vmColour_s0; split <;> (try split) <;> omega
theorem sh_fix (r : List Int) : Sh ((fixR r).getD 0 0) ((fixR r).getD 1 0) ((fixR r).getD 2 0) ((fixR r).getD 3 0) ((fixR r).getD 4 0) ((fixR r).getD 5 0) ((fixR r).getD 6 0) ((fixR r).getD 7 0) := by
  have e : ∀ x, Wn (fWithin_0 x 4194304) := fun x => by rw [fwi]; exact wi_bd x
  have e3 : Wn (if fWithin_0 (r.getD 3 0) 4194304 < 256 then 256 else fWithin_0 (r.getD 3 0) 4194304) ∧ 256 ≤ (if fWithin_0 (r.getD 3 0) 4194304 < 256 then 256 else fWithin_0 (r.getD 3 0) 4194304) := by
    have h := e (r.getD 3 0)
    unfold Wn at h ⊢
    split <;> omega
  exact ⟨e _, e _, e _, e3.1, e3.2, col_bd _, col_bd _, col_bd _, col_bd _⟩

/-- The cull's number. -/
theorem cull_bd {x : Int} (h : 0 ≤ x ∧ x ≤ 255) : IntKind.wrap .i64 (Int.tmod x 3) = Int.tmod x 3 ∧ 0 ≤ Int.tmod x 3 ∧ Int.tmod x 3 ≤ 2 := by
  rw [Int.tmod_eq_emod_of_nonneg h.1]
  refine ⟨w64_in (by omega) (by omega), by omega, by omega⟩

/-- What the reference's quotients ask for, above 0. -/
theorem flo {d : Int} (h : 256 ≤ d) : rFloor_s0 d = false := decide_eq_false (by omega)

end Go.Proofs.Ytbdmaepooahplaa
