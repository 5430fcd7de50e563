/-
  Contracts of functions of the program, each run on the local memory (printed by a program of this session's own: wip/tools).
-/
import Derived.Test.YtcdejlgophpdjaaWb2
namespace Go.Proofs.Ytcdejlgophpdjaa
open Go Go.RowKit Go.Proofs.Ytcdejlgophpdjaa.V
set_option linter.unusedVariables false

def rBytesF_D : Tab := (2, decC [(13, true)]) :: tabWb2
theorem rBytesF_D_ok : TOK Try.prog rBytesF_D := TOK.cons (fun args => by kernel_rfl) (fun _ _ _ _ _ h ho => (decC_ok h ho).elim) tabWb2_ok
/-! (*azulejo/wire.Reader).Bytes -/
def rBytesF_0 (xe : Int) : Int := wFail_0 (3 : Int) xe
def rBytesF_o (x1 : Int) (xa : Int) (xe : Int) (r1 : Bool) (l : List (List Int)) : List Prop := [(bif decide (x1 < (0 : Int)) then true else decide (wLeft_0 xa xe l < x1)) = true]
theorem rBytesF_p (x1 : Int) (xa : Int) (xe : Int) (r1 : Bool) (l : List (List Int)) : evG Try.prog rBytesF_D 2000 116 [0, 1, 4, 12, 20] [] [0] [.a (.ptr 0 0), .a (.int true .i64 x1)] [⟨⟨0, 3, false, none⟩, [some (.vec 1 0 1), some (.int true .i64 xa), some (.int true .i64 xe)]⟩, ⟨⟨0, 0, r1, some ⟨0, [.int .u8], l, none⟩⟩, []⟩] = some (rBytesF_o x1 xa xe r1 l, LV.a At.nils, [some (BC.mk (Hd.mk (nat_lit 0) (nat_lit 3) false none) [some (At.vec (nat_lit 1) (nat_lit 0) (nat_lit 1)), some (At.int true IntKind.i64 xa), some (At.int true IntKind.i64 (rBytesF_0 xe))]), none]) := by kernel_rfl
def rBytesF_c : Con
  | [.a (.ptr 0 0), .a (.int true .i64 x1)], [⟨⟨0, 3, false, none⟩, [some (.vec 1 0 1), some (.int true .i64 xa), some (.int true .i64 xe)]⟩, ⟨⟨0, 0, r1, some ⟨0, [.int .u8], l, none⟩⟩, []⟩] => some (rBytesF_o x1 xa xe r1 l, LV.a At.nils, [some (BC.mk (Hd.mk (nat_lit 0) (nat_lit 3) false none) [some (At.vec (nat_lit 1) (nat_lit 0) (nat_lit 1)), some (At.int true IntKind.i64 xa), some (At.int true IntKind.i64 (rBytesF_0 xe))]), none])
  | _, _ => none
theorem rBytesF_ok : ConOK Try.prog 116 (normC rBytesF_c) := normC_ok (by
  intro args bs obs lv out h ho φ vs w may ha hM
  unfold rBytesF_c at h
  split at h
  · simp only [Option.some.injEq, Prod.mk.injEq] at h
    obtain ⟨rfl, rfl, rfl⟩ := h
    rename_i x1 xa xe r1 l
    exact evG_ok rBytesF_D_ok follows _ _ _ _ _ (rBytesF_p x1 xa xe r1 l) ho φ vs w may ha hM
  · cases h)
theorem rBytesF_en : Enters Try.prog 116 := fun args => by kernel_rfl
-- 95 16 2 ms

def tabWbF1 : Tab := (116, normC rBytesF_c) :: tabWb2
theorem tabWbF1_ok : TOK Try.prog tabWbF1 := TOK.cons rBytesF_en rBytesF_ok (tabWb2_ok)

end Go.Proofs.Ytcdejlgophpdjaa
