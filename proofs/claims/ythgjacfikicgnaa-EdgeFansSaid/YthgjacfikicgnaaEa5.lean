/-
  Contracts of functions of the program, each run on the local memory (printed by a program of this session's own: wip/tools).
-/
import Derived.Test.YthgjacfikicgnaaEa4
namespace Go.Proofs.Ythgjacfikicgnaa
open Go Go.RowKit Go.Proofs.Ythgjacfikicgnaa.V
set_option linter.unusedVariables false

/-! (azulejo/edge.Tri).Covers -/
def eCovers_s0 (x0_2 : Int) (x0_3 : Int) (x0_4 : Int) (x0_5 : Int) (x1_0 : Int) (x1_1 : Int) : Bool := bif decide (eWeights_0 x0_2 x0_3 x0_4 x0_5 x1_0 x1_1 < 0) then true else bif eWeights_0 x0_2 x0_3 x0_4 x0_5 x1_0 x1_1 == 0 then !eOwns_0 x0_2 x0_3 x0_4 x0_5 else false
def eCovers_s1 (x0_0 : Int) (x0_1 : Int) (x0_4 : Int) (x0_5 : Int) (x1_0 : Int) (x1_1 : Int) : Bool := bif decide (eWeights_1 x0_0 x0_1 x0_4 x0_5 x1_0 x1_1 < 0) then true else bif eWeights_1 x0_0 x0_1 x0_4 x0_5 x1_0 x1_1 == 0 then !eOwns_0 x0_4 x0_5 x0_0 x0_1 else false
def eCovers_0 (x0_0 : Int) (x0_1 : Int) (x0_2 : Int) (x0_3 : Int) (x0_4 : Int) (x0_5 : Int) (x1_0 : Int) (x1_1 : Int) : Bool := bif decide (eArea_0 x0_0 x0_1 x0_2 x0_3 x0_4 x0_5 ≤ 0) then false else bif eCovers_s0 x0_2 x0_3 x0_4 x0_5 x1_0 x1_1 || !eCovers_s0 x0_2 x0_3 x0_4 x0_5 x1_0 x1_1 && (eCovers_s1 x0_0 x0_1 x0_4 x0_5 x1_0 x1_1 || !eCovers_s1 x0_0 x0_1 x0_4 x0_5 x1_0 x1_1 && bif decide (eWeights_2 x0_0 x0_1 x0_2 x0_3 x1_0 x1_1 < 0) then true else bif eWeights_2 x0_0 x0_1 x0_2 x0_3 x1_0 x1_1 == 0 then !eOwns_0 x0_0 x0_1 x0_2 x0_3 else false) then false else true
theorem eCovers_p (x0_0 : Int) (x0_1 : Int) (x0_2 : Int) (x0_3 : Int) (x0_4 : Int) (x0_5 : Int) (x1_0 : Int) (x1_1 : Int) : evG Try.prog tabEa4 2000 39 [0, 1, 2, 3, 4, 5, 6, 9, 12, 13, 14, 36] [] [] [.g [.int true .i64 x0_0, .int true .i64 x0_1, .int true .i64 x0_2, .int true .i64 x0_3, .int true .i64 x0_4, .int true .i64 x0_5], .g [.int true .i64 x1_0, .int true .i64 x1_1]] [] = some ([], LV.a (At.bool true (eCovers_0 x0_0 x0_1 x0_2 x0_3 x0_4 x0_5 x1_0 x1_1)), []) := by kernel_rfl
def eCovers_c : Con
  | [.g [.int true .i64 x0_0, .int true .i64 x0_1, .int true .i64 x0_2, .int true .i64 x0_3, .int true .i64 x0_4, .int true .i64 x0_5], .g [.int true .i64 x1_0, .int true .i64 x1_1]], [] => some ([], LV.a (At.bool true (eCovers_0 x0_0 x0_1 x0_2 x0_3 x0_4 x0_5 x1_0 x1_1)), [])
  | _, _ => none
theorem eCovers_ok : ConOK Try.prog 39 (normC eCovers_c) := normC_ok (by
  intro args bs obs lv out h ho φ vs w may ha hM
  unfold eCovers_c at h
  split at h
  · simp only [Option.some.injEq, Prod.mk.injEq] at h
    obtain ⟨rfl, rfl, rfl⟩ := h
    rename_i x0_0 x0_1 x0_2 x0_3 x0_4 x0_5 x1_0 x1_1
    exact evG_ok tabEa4_ok follows _ _ _ _ _ (eCovers_p x0_0 x0_1 x0_2 x0_3 x0_4 x0_5 x1_0 x1_1) ho φ vs w may ha hM
  · cases h)
theorem eCovers_en : Enters Try.prog 39 := fun args => by kernel_rfl
-- 838 85 11 ms

def tabEa5 : Tab := (39, normC eCovers_c) :: tabEa4
theorem tabEa5_ok : TOK Try.prog tabEa5 := TOK.cons eCovers_en eCovers_ok (tabEa4_ok)

end Go.Proofs.Ythgjacfikicgnaa
