/-
  Tables by which slices that are written out are rows from the start.
-/
import Derived.Test.YtbdmaepooahplaaCa3
namespace Go.Proofs.Ytbdmaepooahplaa
open Go Go.RowKit Go.Proofs.Ytbdmaepooahplaa.V

theorem vecLitC_ok : ConOK Try.prog 2 vecLitC := by
  intro args bs obs lv out h ho
  unfold vecLitC at h
  split at h
  · simp only [Option.some.injEq, Prod.mk.injEq] at h
    obtain ⟨rfl, rfl, rfl⟩ := h
    exact ho.1.elim
  · cases h
theorem vecLitC_en : Enters Try.prog 2 := fun args => by kernel_rfl
def tabCa4 : Tab := (2, vecLitC) :: tabCa3
theorem tabCa4_ok : TOK Try.prog tabCa4 := TOK.cons vecLitC_en vecLitC_ok tabCa3_ok

end Go.Proofs.Ytbdmaepooahplaa
