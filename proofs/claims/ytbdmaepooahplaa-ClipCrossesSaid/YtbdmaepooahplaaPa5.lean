/-
  Contracts of functions of the program, each run on the local memory (printed by a program of this session's own: wip/tools).
-/
import Derived.Test.YtbdmaepooahplaaPa4
namespace Go.Proofs.Ytbdmaepooahplaa
open Go Go.RowKit Go.Proofs.Ytbdmaepooahplaa.V
set_option linter.unusedVariables false

/-! (azulejo/edge.Tri).Covers -/
def tCovers_s0 (x0_2 : Int) (x0_3 : Int) (x0_4 : Int) (x0_5 : Int) (x1_0 : Int) (x1_1 : Int) : Bool := bif decide (tWeights_0 x0_2 x0_3 x0_4 x0_5 x1_0 x1_1 < (0 : Int)) then true else bif tWeights_0 x0_2 x0_3 x0_4 x0_5 x1_0 x1_1 == (0 : Int) then !eOwns_0 x0_2 x0_3 x0_4 x0_5 else false
def tCovers_s1 (x0_0 : Int) (x0_1 : Int) (x0_4 : Int) (x0_5 : Int) (x1_0 : Int) (x1_1 : Int) : Bool := bif decide (tWeights_1 x0_0 x0_1 x0_4 x0_5 x1_0 x1_1 < (0 : Int)) then true else bif tWeights_1 x0_0 x0_1 x0_4 x0_5 x1_0 x1_1 == (0 : Int) then !eOwns_0 x0_4 x0_5 x0_0 x0_1 else false
def tCovers_0 (x0_0 : Int) (x0_1 : Int) (x0_2 : Int) (x0_3 : Int) (x0_4 : Int) (x0_5 : Int) (x1_0 : Int) (x1_1 : Int) : Bool := bif decide (tArea_0 x0_0 x0_1 x0_2 x0_3 x0_4 x0_5 ≤ (0 : Int)) then false else bif tCovers_s0 x0_2 x0_3 x0_4 x0_5 x1_0 x1_1 || !tCovers_s0 x0_2 x0_3 x0_4 x0_5 x1_0 x1_1 && (tCovers_s1 x0_0 x0_1 x0_4 x0_5 x1_0 x1_1 || !tCovers_s1 x0_0 x0_1 x0_4 x0_5 x1_0 x1_1 && bif decide (tWeights_2 x0_0 x0_1 x0_2 x0_3 x1_0 x1_1 < (0 : Int)) then true else bif tWeights_2 x0_0 x0_1 x0_2 x0_3 x1_0 x1_1 == (0 : Int) then !eOwns_0 x0_0 x0_1 x0_2 x0_3 else false) then false else true
theorem tCovers_p (x0_0 : Int) (x0_1 : Int) (x0_2 : Int) (x0_3 : Int) (x0_4 : Int) (x0_5 : Int) (x1_0 : Int) (x1_1 : Int) : evG Try.prog tabPa4 2000 49 [0, 1, 2, 3, 4, 5, 6, 9, 12, 13, 14, 36] [] [] [.g [.int true .i64 x0_0, .int true .i64 x0_1, .int true .i64 x0_2, .int true .i64 x0_3, .int true .i64 x0_4, .int true .i64 x0_5], .g [.int true .i64 x1_0, .int true .i64 x1_1]] [] = some ([], LV.a (At.bool true (tCovers_0 x0_0 x0_1 x0_2 x0_3 x0_4 x0_5 x1_0 x1_1)), []) := by kernel_rfl
def tCovers_c : Con
  | [.g [.int true .i64 x0_0, .int true .i64 x0_1, .int true .i64 x0_2, .int true .i64 x0_3, .int true .i64 x0_4, .int true .i64 x0_5], .g [.int true .i64 x1_0, .int true .i64 x1_1]], [] => some ([], LV.a (At.bool true (tCovers_0 x0_0 x0_1 x0_2 x0_3 x0_4 x0_5 x1_0 x1_1)), [])
  | _, _ => none
theorem tCovers_ok : ConOK Try.prog 49 (normC tCovers_c) := normC_ok (by
  intro args bs obs lv out h ho φ vs w may ha hM
  unfold tCovers_c at h
  split at h
  · simp only [Option.some.injEq, Prod.mk.injEq] at h
    obtain ⟨rfl, rfl, rfl⟩ := h
    rename_i x0_0 x0_1 x0_2 x0_3 x0_4 x0_5 x1_0 x1_1
    exact evG_ok tabPa4_ok follows _ _ _ _ _ (tCovers_p x0_0 x0_1 x0_2 x0_3 x0_4 x0_5 x1_0 x1_1) ho φ vs w may ha hM
  · cases h)
theorem tCovers_en : Enters Try.prog 49 := fun args => by kernel_rfl
-- 602 75 8 ms

def tabPa5 : Tab := (49, normC tCovers_c) :: tabPa4
theorem tabPa5_ok : TOK Try.prog tabPa5 := TOK.cons tCovers_en tCovers_ok (tabPa4_ok)

end Go.Proofs.Ytbdmaepooahplaa
