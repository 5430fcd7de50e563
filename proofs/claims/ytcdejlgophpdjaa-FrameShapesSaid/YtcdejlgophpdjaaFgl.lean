/-
  From here on the slices that are written out are rows.
-/
import Derived.Test.YtcdejlgophpdjaaFg3
namespace Go.Proofs.Ytcdejlgophpdjaa
open Go Go.RowKit Go.Proofs.Ytcdejlgophpdjaa.V

theorem vecLitC_ok : ConOK Try.prog 2 vecLitC := by
  intro args bs obs lv out h ho
  unfold vecLitC at h
  split at h
  · simp only [Option.some.injEq, Prod.mk.injEq] at h
    obtain ⟨rfl, rfl, rfl⟩ := h
    exact ho.1.elim
  · cases h
theorem vecLitC_en : Enters Try.prog 2 := fun args => by kernel_rfl
def tabFgl : Tab := (2, vecLitC) :: tabFg3
theorem tabFgl_ok : TOK Try.prog tabFgl := TOK.cons vecLitC_en vecLitC_ok tabFg3_ok

end Go.Proofs.Ytcdejlgophpdjaa
