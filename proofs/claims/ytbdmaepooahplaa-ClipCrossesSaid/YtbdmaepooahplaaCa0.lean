/-
  A contract that asks for what is never so: for calls that do not come about.
-/
import Derived.Test.YtbdmaepooahplaaSa3
namespace Go.Proofs.Ytbdmaepooahplaa
open Go Go.RowKit Go.Proofs.Ytbdmaepooahplaa.V

def dumF_c : Con
  | [.a (.int _ .i64 _), .a (.int _ .i64 _)], [] => some ([False], .a (.int true .i64 0), [])
  | _, _ => none
theorem dumF_ok : ConOK Try.prog 94 (normC dumF_c) := normC_ok (by
  intro args bs obs lv out h ho
  unfold dumF_c at h
  split at h
  · simp only [Option.some.injEq, Prod.mk.injEq] at h
    obtain ⟨rfl, rfl, rfl⟩ := h
    exact ho.1.elim
  · cases h)
theorem dumF_en : Enters Try.prog 94 := fun args => by kernel_rfl
def tabCa0 : Tab := (94, normC dumF_c) :: tabSa3
theorem tabCa0_ok : TOK Try.prog tabCa0 := TOK.cons dumF_en dumF_ok tabSa3_ok

end Go.Proofs.Ytbdmaepooahplaa
