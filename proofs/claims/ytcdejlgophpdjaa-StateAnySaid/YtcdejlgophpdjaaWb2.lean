/-
  Contracts of functions of the program, each run on the local memory (printed by a program of this session's own: wip/tools).
-/
import Derived.Test.YtcdejlgophpdjaaWb1
namespace Go.Proofs.Ytcdejlgophpdjaa
open Go Go.RowKit Go.Proofs.Ytcdejlgophpdjaa.V
set_option linter.unusedVariables false

/-! (azulejo/state.State).Put -/
def stPut0_s0 (x0_1 : Bool) : Int := bif x0_1 then (1 : Int) else (0 : Int)
def stPut0_0 (x0_0 : Int) (x0_1 : Bool) (x0_2 : Int) (x0_3 : Int) (x0_4 : Int) (x0_5 : Int) (x0_6 : Int) (x0_7 : Int) (x0_8 : Int) (x0_9 : Int) (x0_10 : Int) (x0_11 : Int) (x0_12 : Int) (x0_13 : Int) (x0_14 : Int) : List (List Int) := wPut0_0 x0_0 (stPut0_s0 x0_1) x0_2 x0_3 x0_4 x0_5 x0_6 x0_7 x0_8 x0_9 x0_10 (IntKind.wrap IntKind.u8 x0_11) (IntKind.wrap IntKind.u8 x0_12) (IntKind.wrap IntKind.u8 x0_13) (IntKind.wrap IntKind.u8 x0_14)
def stPut0_o (x0_0 : Int) (x0_1 : Bool) (x0_2 : Int) (x0_3 : Int) (x0_4 : Int) (x0_5 : Int) (x0_6 : Int) (x0_7 : Int) (x0_8 : Int) (x0_9 : Int) (x0_10 : Int) (x0_11 : Int) (x0_12 : Int) (x0_13 : Int) (x0_14 : Int) : List Prop := [List.length (wPut0_s0 x0_0 (stPut0_s0 x0_1) x0_2 x0_3 x0_4 x0_5 x0_6 x0_7 x0_8 x0_9 x0_10 (IntKind.wrap IntKind.u8 x0_11) (IntKind.wrap IntKind.u8 x0_12) (IntKind.wrap IntKind.u8 x0_13) (IntKind.wrap IntKind.u8 x0_14)) * (1 : Nat) ≤ (70368744177664 : Nat)]
theorem stPut0_p (x0_0 : Int) (x0_1 : Bool) (x0_2 : Int) (x0_3 : Int) (x0_4 : Int) (x0_5 : Int) (x0_6 : Int) (x0_7 : Int) (x0_8 : Int) (x0_9 : Int) (x0_10 : Int) (x0_11 : Int) (x0_12 : Int) (x0_13 : Int) (x0_14 : Int) : evG Try.prog tabWb1 2000 55 [0, 1, 2, 4, 5, 7] [] [0] [.g [.int true .u8 x0_0, .bool true x0_1, .int true .u8 x0_2, .int true .u8 x0_3, .int true .u8 x0_4, .int true .u8 x0_5, .int true .u8 x0_6, .int true .u8 x0_7, .int true .u8 x0_8, .int true .u8 x0_9, .int true .u8 x0_10, .int true .i64 x0_11, .int true .i64 x0_12, .int true .i64 x0_13, .int true .i64 x0_14], .a (.ptr 0 0)] [⟨⟨0, 1, false, none⟩, [some .nils]⟩] = some (stPut0_o x0_0 x0_1 x0_2 x0_3 x0_4 x0_5 x0_6 x0_7 x0_8 x0_9 x0_10 x0_11 x0_12 x0_13 x0_14, LV.t [], [some (BC.mk (Hd.mk (nat_lit 0) (nat_lit 1) false none) [some (At.vec (nat_lit 1) (nat_lit 0) (nat_lit 1))]), some (BC.mk (Hd.mk (nat_lit 0) (nat_lit 0) false (some (Rw.mk (nat_lit 0) [Kd.int IntKind.u8] (stPut0_0 x0_0 x0_1 x0_2 x0_3 x0_4 x0_5 x0_6 x0_7 x0_8 x0_9 x0_10 x0_11 x0_12 x0_13 x0_14) none))) [])]) := by kernel_rfl
def stPut0_c : Con
  | [.g [.int true .u8 x0_0, .bool true x0_1, .int true .u8 x0_2, .int true .u8 x0_3, .int true .u8 x0_4, .int true .u8 x0_5, .int true .u8 x0_6, .int true .u8 x0_7, .int true .u8 x0_8, .int true .u8 x0_9, .int true .u8 x0_10, .int true .i64 x0_11, .int true .i64 x0_12, .int true .i64 x0_13, .int true .i64 x0_14], .a (.ptr 0 0)], [⟨⟨0, 1, false, none⟩, [some .nils]⟩] => some (stPut0_o x0_0 x0_1 x0_2 x0_3 x0_4 x0_5 x0_6 x0_7 x0_8 x0_9 x0_10 x0_11 x0_12 x0_13 x0_14, LV.t [], [some (BC.mk (Hd.mk (nat_lit 0) (nat_lit 1) false none) [some (At.vec (nat_lit 1) (nat_lit 0) (nat_lit 1))]), some (BC.mk (Hd.mk (nat_lit 0) (nat_lit 0) false (some (Rw.mk (nat_lit 0) [Kd.int IntKind.u8] (stPut0_0 x0_0 x0_1 x0_2 x0_3 x0_4 x0_5 x0_6 x0_7 x0_8 x0_9 x0_10 x0_11 x0_12 x0_13 x0_14) none))) [])])
  | _, _ => none
theorem stPut0_ok : ConOK Try.prog 55 (normC stPut0_c) := normC_ok (by
  intro args bs obs lv out h ho φ vs w may ha hM
  unfold stPut0_c at h
  split at h
  · simp only [Option.some.injEq, Prod.mk.injEq] at h
    obtain ⟨rfl, rfl, rfl⟩ := h
    rename_i x0_0 x0_1 x0_2 x0_3 x0_4 x0_5 x0_6 x0_7 x0_8 x0_9 x0_10 x0_11 x0_12 x0_13 x0_14
    exact evG_ok tabWb1_ok follows _ _ _ _ _ (stPut0_p x0_0 x0_1 x0_2 x0_3 x0_4 x0_5 x0_6 x0_7 x0_8 x0_9 x0_10 x0_11 x0_12 x0_13 x0_14) ho φ vs w may ha hM
  · cases h)
theorem stPut0_en : Enters Try.prog 55 := fun args => by kernel_rfl
-- 391 61 5 ms

/-! (*azulejo/wire.Reader).End -/
def wEnd_0 (xa : Int) (xe : Int) (l : List (List Int)) : Int := bif bif xe == (0 : Int) then decide (xa < Int.ofNat (List.length l)) else false then (15 : Int) else xe
theorem wEnd_p (r0 : Bool) (xa : Int) (xe : Int) (r1 : Bool) (l : List (List Int)) : evG Try.prog tabWb1 2000 66 [0, 2, 23] [] [] [.a (.ptr 0 0)] [⟨⟨0, 3, r0, none⟩, [some (.vec 1 0 1), some (.int true .i64 xa), some (.int true .i64 xe)]⟩, ⟨⟨0, 0, r1, some ⟨0, [.int .u8], l, none⟩⟩, []⟩] = some ([], LV.a (At.int true IntKind.i64 (wEnd_0 xa xe l)), [none, none]) := by kernel_rfl
def wEnd_c : Con
  | [.a (.ptr 0 0)], [⟨⟨0, 3, r0, none⟩, [some (.vec 1 0 1), some (.int true .i64 xa), some (.int true .i64 xe)]⟩, ⟨⟨0, 0, r1, some ⟨0, [.int .u8], l, none⟩⟩, []⟩] => some ([], LV.a (At.int true IntKind.i64 (wEnd_0 xa xe l)), [none, none])
  | _, _ => none
theorem wEnd_ok : ConOK Try.prog 66 (normC wEnd_c) := normC_ok (by
  intro args bs obs lv out h ho φ vs w may ha hM
  unfold wEnd_c at h
  split at h
  · simp only [Option.some.injEq, Prod.mk.injEq] at h
    obtain ⟨rfl, rfl, rfl⟩ := h
    rename_i r0 xa xe r1 l
    exact evG_ok tabWb1_ok follows _ _ _ _ _ (wEnd_p r0 xa xe r1 l) ho φ vs w may ha hM
  · cases h)
theorem wEnd_en : Enters Try.prog 66 := fun args => by kernel_rfl
-- 288 15 3 ms

def tabWb2 : Tab := (55, normC stPut0_c) :: (66, normC wEnd_c) :: tabWb1
theorem tabWb2_ok : TOK Try.prog tabWb2 := TOK.cons stPut0_en stPut0_ok (TOK.cons wEnd_en wEnd_ok (tabWb1_ok))

end Go.Proofs.Ytcdejlgophpdjaa
