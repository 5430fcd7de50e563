/-
  A contract that asks for what is never so: for the reference's call of itself that does not come about.
-/
import Derived.Test.YtbdmaepooahplaaCa8
namespace Go.Proofs.Ytbdmaepooahplaa
open Go Go.RowKit Go.Proofs.Ytbdmaepooahplaa.V

def dumM_c : Con
  | [.g [.int _ .i64 _, .int _ .i64 _, .int _ .i64 _, .int _ .i64 _, .int _ .i64 _, .int _ .i64 _, .int _ .i64 _, .int _ .i64 _, .int _ .i64 _, .int _ .i64 _, .int _ .i64 _, .int _ .i64 _, .int _ .i64 _, .int _ .i64 _, .int _ .i64 _, .int _ .i64 _, .int _ .i64 _, .int _ .i64 _, .int _ .i64 _, .int _ .i64 _, .int _ .i64 _, .int _ .i64 _, .int _ .i64 _, .int _ .i64 _], .a (.int _ .i64 _), .a (.int _ .i64 _), .a (.int _ .i64 _)], [] => some ([False], .t [.g [.int true .i64 0, .int true .i64 0, .int true .i64 0, .int true .i64 0, .int true .i64 0, .int true .i64 0, .int true .i64 0, .int true .i64 0, .int true .i64 0, .int true .i64 0, .int true .i64 0, .int true .i64 0, .int true .i64 0, .int true .i64 0, .int true .i64 0, .int true .i64 0, .int true .i64 0, .int true .i64 0, .int true .i64 0, .int true .i64 0, .int true .i64 0, .int true .i64 0, .int true .i64 0, .int true .i64 0], .a (.bool true false)], [])
  | _, _ => none
theorem dumM_ok : ConOK Try.prog 65 (normC dumM_c) := normC_ok (by
  intro args bs obs lv out h ho
  unfold dumM_c at h
  split at h
  · simp only [Option.some.injEq, Prod.mk.injEq] at h
    obtain ⟨rfl, rfl, rfl⟩ := h
    exact ho.1.elim
  · cases h)
theorem dumM_en : Enters Try.prog 65 := fun args => by kernel_rfl
def tabGa0 : Tab := (65, normC dumM_c) :: tabCa8
theorem tabGa0_ok : TOK Try.prog tabGa0 := TOK.cons dumM_en dumM_ok tabCa8_ok

end Go.Proofs.Ytbdmaepooahplaa
