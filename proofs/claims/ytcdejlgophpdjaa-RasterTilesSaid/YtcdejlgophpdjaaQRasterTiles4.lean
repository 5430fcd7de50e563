/-
  The seat's program: what the evaluator asks of it; the empty table.
-/
import Derived.Test.YtcdejlgophpdjaaRows
import Derived.Test.YtcdejlgophpdjaaQRasterTiles3
section
namespace Go.Proofs.Ytcdejlgophpdjaa
open Go Go.RowKit Go.Proofs.Ytcdejlgophpdjaa.V

theorem follows : Try.prog.follows .mixedOrders = true := by kernel_rfl

def tabVL : Tab := []
theorem tabVL_ok : TOK Try.prog tabVL := TOK.nil

end Go.Proofs.Ytcdejlgophpdjaa
end

section
namespace Go.Proofs.Ytcdejlgophpdjaa
open Go Go.RowKit Go.Proofs.Ytcdejlgophpdjaa.V
set_option linter.unusedVariables false

/-! azulejo/fix.Within -/
def fWithin_s0 (x0 x1 : Int) : Int := if x1 < x0 then x1 else x0
def fWithin_s1 (x1 : Int) : Int := IntKind.wrap IntKind.i64 ((0 : Int) - x1)
def fWithin_0 (x0 x1 : Int) : Int := if fWithin_s0 x0 x1 < fWithin_s1 x1 then fWithin_s1 x1 else fWithin_s0 x0 x1
theorem fWithin_p (x0 x1 : Int) : evG Try.prog tabVL 2000 109 [0, 1, 4] [] [] [.a (.int true .i64 x0), .a (.int true .i64 x1)] [] = some ([], LV.a (At.int true IntKind.i64 (fWithin_0 x0 x1)), []) := by kernel_rfl
def fWithin_c : Con
  | [.a (.int true .i64 x0), .a (.int true .i64 x1)], [] => some ([], LV.a (At.int true IntKind.i64 (fWithin_0 x0 x1)), [])
  | _, _ => none
theorem fWithin_ok : ConOK Try.prog 109 (normC fWithin_c) := normC_ok (by
  intro args bs obs lv out h ho φ vs w may ha hM
  unfold fWithin_c at h
  split at h
  · simp only [Option.some.injEq, Prod.mk.injEq] at h
    obtain ⟨rfl, rfl, rfl⟩ := h
    rename_i x0 x1
    exact evG_ok tabVL_ok follows _ _ _ _ _ (fWithin_p x0 x1) ho φ vs w may ha hM
  · cases h)
theorem fWithin_en : Enters Try.prog 109 := fun args => by kernel_rfl
-- 56 3 4 ms

/-! azulejo/fix.Floor -/
def fFloor_0 (x0 x1 : Int) : Int := bif x1 == (0 : Int) then (0 : Int) else bif bif Int.tmod x0 x1 != (0 : Int) then !decide (x0 < (0 : Int)) == decide (x1 < (0 : Int)) else false then IntKind.wrap IntKind.i64 (IntKind.wrap IntKind.i64 (Int.tdiv x0 x1) - (1 : Int)) else IntKind.wrap IntKind.i64 (Int.tdiv x0 x1)
def fFloor_o (x0 x1 : Int) : List Prop := [(!x1 == (0 : Int)) = true → x1 ≠ (0 : Int), (!x1 == (0 : Int)) = true → x1 ≠ (0 : Int)]
theorem fFloor_p (x0 x1 : Int) : evG Try.prog tabVL 2000 110 [0, 1, 4, 5, 7, 21] [] [] [.a (.int true .i64 x0), .a (.int true .i64 x1)] [] = some (fFloor_o x0 x1, LV.a (At.int true IntKind.i64 (fFloor_0 x0 x1)), []) := by kernel_rfl
def fFloor_c : Con
  | [.a (.int true .i64 x0), .a (.int true .i64 x1)], [] => some (fFloor_o x0 x1, LV.a (At.int true IntKind.i64 (fFloor_0 x0 x1)), [])
  | _, _ => none
theorem fFloor_ok : ConOK Try.prog 110 (normC fFloor_c) := normC_ok (by
  intro args bs obs lv out h ho φ vs w may ha hM
  unfold fFloor_c at h
  split at h
  · simp only [Option.some.injEq, Prod.mk.injEq] at h
    obtain ⟨rfl, rfl, rfl⟩ := h
    rename_i x0 x1
    exact evG_ok tabVL_ok follows _ _ _ _ _ (fFloor_p x0 x1) ho φ vs w may ha hM
  · cases h)
theorem fFloor_en : Enters Try.prog 110 := fun args => by kernel_rfl
-- 177 19 4 ms

/-! azulejo/vm.Colour -/
def vmColour_s0 (x0_0 : Int) : Int := if x0_0 < (0 : Int) then (0 : Int) else x0_0
def vmColour_0 (x0_0 : Int) : Int := if (65536 : Int) < vmColour_s0 x0_0 then (65536 : Int) else vmColour_s0 x0_0
def vmColour_s1 (x0_1 : Int) : Int := if x0_1 < (0 : Int) then (0 : Int) else x0_1
def vmColour_1 (x0_1 : Int) : Int := if (65536 : Int) < vmColour_s1 x0_1 then (65536 : Int) else vmColour_s1 x0_1
def vmColour_s2 (x0_2 : Int) : Int := if x0_2 < (0 : Int) then (0 : Int) else x0_2
def vmColour_2 (x0_2 : Int) : Int := if (65536 : Int) < vmColour_s2 x0_2 then (65536 : Int) else vmColour_s2 x0_2
def vmColour_s3 (x0_3 : Int) : Int := if x0_3 < (0 : Int) then (0 : Int) else x0_3
def vmColour_3 (x0_3 : Int) : Int := if (65536 : Int) < vmColour_s3 x0_3 then (65536 : Int) else vmColour_s3 x0_3
theorem vmColour_p (x0_0 x0_1 x0_2 x0_3 : Int) : evG Try.prog tabVL 2000 94 [0, 1, 2, 3, 4, 5, 6, 7] [] [] [.g [.int true .i64 x0_0, .int true .i64 x0_1, .int true .i64 x0_2, .int true .i64 x0_3]] [] = some ([], LV.g [At.int true IntKind.i64 (vmColour_0 x0_0), At.int true IntKind.i64 (vmColour_1 x0_1), At.int true IntKind.i64 (vmColour_2 x0_2), At.int true IntKind.i64 (vmColour_3 x0_3)], []) := by kernel_rfl
def vmColour_c : Con
  | [.g [.int true .i64 x0_0, .int true .i64 x0_1, .int true .i64 x0_2, .int true .i64 x0_3]], [] => some ([], LV.g [At.int true IntKind.i64 (vmColour_0 x0_0), At.int true IntKind.i64 (vmColour_1 x0_1), At.int true IntKind.i64 (vmColour_2 x0_2), At.int true IntKind.i64 (vmColour_3 x0_3)], [])
  | _, _ => none
theorem vmColour_ok : ConOK Try.prog 94 (normC vmColour_c) := normC_ok (by
  intro args bs obs lv out h ho φ vs w may ha hM
  unfold vmColour_c at h
  split at h
  · simp only [Option.some.injEq, Prod.mk.injEq] at h
    obtain ⟨rfl, rfl, rfl⟩ := h
    rename_i x0_0 x0_1 x0_2 x0_3
    exact evG_ok tabVL_ok follows _ _ _ _ _ (vmColour_p x0_0 x0_1 x0_2 x0_3) ho φ vs w may ha hM
  · cases h)
theorem vmColour_en : Enters Try.prog 94 := fun args => by kernel_rfl
-- 328 9 8 ms

/-! azulejo/azulejoref01.near -/
def rNear_0 (x0 : Int) : Int := bif decide ((16384 : Int) < x0) then (16384 : Int) else bif decide (x0 < (-16384 : Int)) then (-16384 : Int) else x0
theorem rNear_p (x0 : Int) : evG Try.prog tabVL 2000 132 [0, 2, 4, 6] [] [] [.a (.int true .i64 x0)] [] = some ([], LV.a (At.int true IntKind.i64 (rNear_0 x0)), []) := by kernel_rfl
def rNear_c : Con
  | [.a (.int true .i64 x0)], [] => some ([], LV.a (At.int true IntKind.i64 (rNear_0 x0)), [])
  | _, _ => none
theorem rNear_ok : ConOK Try.prog 132 (normC rNear_c) := normC_ok (by
  intro args bs obs lv out h ho φ vs w may ha hM
  unfold rNear_c at h
  split at h
  · simp only [Option.some.injEq, Prod.mk.injEq] at h
    obtain ⟨rfl, rfl, rfl⟩ := h
    rename_i x0
    exact evG_ok tabVL_ok follows _ _ _ _ _ (rNear_p x0) ho φ vs w may ha hM
  · cases h)
theorem rNear_en : Enters Try.prog 132 := fun args => by kernel_rfl
-- 135 15 4 ms

/-! (azulejo/azulejolaw03.Small).Tri -/
theorem sm3Tri_p (x0_0 x0_1 x0_2 x0_3 x0_4 x0_5 : Int) : evG Try.prog tabVL 2000 96 [0, 1, 2, 3, 4, 5, 6, 7, 8] [] [] [.g [.int true .i8 x0_0, .int true .i8 x0_1, .int true .i8 x0_2, .int true .i8 x0_3, .int true .i8 x0_4, .int true .i8 x0_5]] [] = some ([], LV.g [At.int true IntKind.i64 (IntKind.wrap IntKind.i64 x0_0), At.int true IntKind.i64 (IntKind.wrap IntKind.i64 x0_1), At.int true IntKind.i64 (IntKind.wrap IntKind.i64 x0_2), At.int true IntKind.i64 (IntKind.wrap IntKind.i64 x0_3), At.int true IntKind.i64 (IntKind.wrap IntKind.i64 x0_4), At.int true IntKind.i64 (IntKind.wrap IntKind.i64 x0_5)], []) := by kernel_rfl
def sm3Tri_c : Con
  | [.g [.int true .i8 x0_0, .int true .i8 x0_1, .int true .i8 x0_2, .int true .i8 x0_3, .int true .i8 x0_4, .int true .i8 x0_5]], [] => some ([], LV.g [At.int true IntKind.i64 (IntKind.wrap IntKind.i64 x0_0), At.int true IntKind.i64 (IntKind.wrap IntKind.i64 x0_1), At.int true IntKind.i64 (IntKind.wrap IntKind.i64 x0_2), At.int true IntKind.i64 (IntKind.wrap IntKind.i64 x0_3), At.int true IntKind.i64 (IntKind.wrap IntKind.i64 x0_4), At.int true IntKind.i64 (IntKind.wrap IntKind.i64 x0_5)], [])
  | _, _ => none
theorem sm3Tri_ok : ConOK Try.prog 96 (normC sm3Tri_c) := normC_ok (by
  intro args bs obs lv out h ho φ vs w may ha hM
  unfold sm3Tri_c at h
  split at h
  · simp only [Option.some.injEq, Prod.mk.injEq] at h
    obtain ⟨rfl, rfl, rfl⟩ := h
    rename_i x0_0 x0_1 x0_2 x0_3 x0_4 x0_5
    exact evG_ok tabVL_ok follows _ _ _ _ _ (sm3Tri_p x0_0 x0_1 x0_2 x0_3 x0_4 x0_5) ho φ vs w may ha hM
  · cases h)
theorem sm3Tri_en : Enters Try.prog 96 := fun args => by kernel_rfl
-- 489 6 0 ms

/-! (azulejo/edge.Tri).Turned -/
theorem tTurned_p (x0_0 x0_1 x0_2 x0_3 x0_4 x0_5 : Int) : evG Try.prog tabVL 2000 98 [0, 1, 2] [] [] [.g [.int true .i64 x0_0, .int true .i64 x0_1, .int true .i64 x0_2, .int true .i64 x0_3, .int true .i64 x0_4, .int true .i64 x0_5]] [] = some ([], LV.g [At.int true IntKind.i64 x0_0, At.int true IntKind.i64 x0_1, At.int true IntKind.i64 x0_4, At.int true IntKind.i64 x0_5, At.int true IntKind.i64 x0_2, At.int true IntKind.i64 x0_3], []) := by kernel_rfl
def tTurned_c : Con
  | [.g [.int true .i64 x0_0, .int true .i64 x0_1, .int true .i64 x0_2, .int true .i64 x0_3, .int true .i64 x0_4, .int true .i64 x0_5]], [] => some ([], LV.g [At.int true IntKind.i64 x0_0, At.int true IntKind.i64 x0_1, At.int true IntKind.i64 x0_4, At.int true IntKind.i64 x0_5, At.int true IntKind.i64 x0_2, At.int true IntKind.i64 x0_3], [])
  | _, _ => none
theorem tTurned_ok : ConOK Try.prog 98 (normC tTurned_c) := normC_ok (by
  intro args bs obs lv out h ho φ vs w may ha hM
  unfold tTurned_c at h
  split at h
  · simp only [Option.some.injEq, Prod.mk.injEq] at h
    obtain ⟨rfl, rfl, rfl⟩ := h
    rename_i x0_0 x0_1 x0_2 x0_3 x0_4 x0_5
    exact evG_ok tabVL_ok follows _ _ _ _ _ (tTurned_p x0_0 x0_1 x0_2 x0_3 x0_4 x0_5) ho φ vs w may ha hM
  · cases h)
theorem tTurned_en : Enters Try.prog 98 := fun args => by kernel_rfl
-- 68 1 0 ms

/-! azulejo/setup.Middle -/
def sMiddle_s0 (x0 : Int) : Int := if x0 < (-1 : Int) then (-1 : Int) else x0
def sMiddle_0 (x0 : Int) : Int := IntKind.wrap IntKind.i64 (IntKind.wrap IntKind.i64 ((16 : Int) * if (64 : Int) < sMiddle_s0 x0 then (64 : Int) else sMiddle_s0 x0) + (8 : Int))
def sMiddle_s1 (x1 : Int) : Int := if x1 < (-1 : Int) then (-1 : Int) else x1
def sMiddle_1 (x1 : Int) : Int := IntKind.wrap IntKind.i64 (IntKind.wrap IntKind.i64 ((16 : Int) * if (64 : Int) < sMiddle_s1 x1 then (64 : Int) else sMiddle_s1 x1) + (8 : Int))
theorem sMiddle_p (x0 x1 : Int) : evG Try.prog tabVL 2000 35 [0, 1, 4] [] [] [.a (.int true .i64 x0), .a (.int true .i64 x1)] [] = some ([], LV.g [At.int true IntKind.i64 (sMiddle_0 x0), At.int true IntKind.i64 (sMiddle_1 x1)], []) := by kernel_rfl
def sMiddle_c : Con
  | [.a (.int true .i64 x0), .a (.int true .i64 x1)], [] => some ([], LV.g [At.int true IntKind.i64 (sMiddle_0 x0), At.int true IntKind.i64 (sMiddle_1 x1)], [])
  | _, _ => none
theorem sMiddle_ok : ConOK Try.prog 35 (normC sMiddle_c) := normC_ok (by
  intro args bs obs lv out h ho φ vs w may ha hM
  unfold sMiddle_c at h
  split at h
  · simp only [Option.some.injEq, Prod.mk.injEq] at h
    obtain ⟨rfl, rfl, rfl⟩ := h
    rename_i x0 x1
    exact evG_ok tabVL_ok follows _ _ _ _ _ (sMiddle_p x0 x1) ho φ vs w may ha hM
  · cases h)
theorem sMiddle_en : Enters Try.prog 35 := fun args => by kernel_rfl
-- 107 7 7 ms

/-! azulejo/azulejolaw13.Ref -/
theorem l13Ref_p (x0_0 x0_1 x0_2 x0_3 x0_4 x0_5 x0_6 x0_7 x0_8 x0_9 x0_10 x0_11 x0_12 x0_13 x0_14 x0_15 x0_16 x0_17 x0_18 x0_19 x0_20 x0_21 x0_22 x0_23 : Int) : evG Try.prog tabVL 2000 47 [0, 1, 2, 3, 4, 5, 6] [] [] [.g [.int true .i64 x0_0, .int true .i64 x0_1, .int true .i64 x0_2, .int true .i64 x0_3, .int true .i64 x0_4, .int true .i64 x0_5, .int true .i64 x0_6, .int true .i64 x0_7, .int true .i64 x0_8, .int true .i64 x0_9, .int true .i64 x0_10, .int true .i64 x0_11, .int true .i64 x0_12, .int true .i64 x0_13, .int true .i64 x0_14, .int true .i64 x0_15, .int true .i64 x0_16, .int true .i64 x0_17, .int true .i64 x0_18, .int true .i64 x0_19, .int true .i64 x0_20, .int true .i64 x0_21, .int true .i64 x0_22, .int true .i64 x0_23]] [] = some ([], LV.g [At.int true IntKind.i64 x0_0, At.int true IntKind.i64 x0_1, At.int true IntKind.i64 x0_2, At.int true IntKind.i64 x0_3, At.int true IntKind.i64 x0_4, At.int true IntKind.i64 x0_5, At.int true IntKind.i64 x0_6, At.int true IntKind.i64 x0_7, At.int true IntKind.i64 x0_8, At.int true IntKind.i64 x0_9, At.int true IntKind.i64 x0_10, At.int true IntKind.i64 x0_11, At.int true IntKind.i64 x0_12, At.int true IntKind.i64 x0_13, At.int true IntKind.i64 x0_14, At.int true IntKind.i64 x0_15, At.int true IntKind.i64 x0_16, At.int true IntKind.i64 x0_17, At.int true IntKind.i64 x0_18, At.int true IntKind.i64 x0_19, At.int true IntKind.i64 x0_20, At.int true IntKind.i64 x0_21, At.int true IntKind.i64 x0_22, At.int true IntKind.i64 x0_23], []) := by kernel_rfl
def l13Ref_c : Con
  | [.g [.int true .i64 x0_0, .int true .i64 x0_1, .int true .i64 x0_2, .int true .i64 x0_3, .int true .i64 x0_4, .int true .i64 x0_5, .int true .i64 x0_6, .int true .i64 x0_7, .int true .i64 x0_8, .int true .i64 x0_9, .int true .i64 x0_10, .int true .i64 x0_11, .int true .i64 x0_12, .int true .i64 x0_13, .int true .i64 x0_14, .int true .i64 x0_15, .int true .i64 x0_16, .int true .i64 x0_17, .int true .i64 x0_18, .int true .i64 x0_19, .int true .i64 x0_20, .int true .i64 x0_21, .int true .i64 x0_22, .int true .i64 x0_23]], [] => some ([], LV.g [At.int true IntKind.i64 x0_0, At.int true IntKind.i64 x0_1, At.int true IntKind.i64 x0_2, At.int true IntKind.i64 x0_3, At.int true IntKind.i64 x0_4, At.int true IntKind.i64 x0_5, At.int true IntKind.i64 x0_6, At.int true IntKind.i64 x0_7, At.int true IntKind.i64 x0_8, At.int true IntKind.i64 x0_9, At.int true IntKind.i64 x0_10, At.int true IntKind.i64 x0_11, At.int true IntKind.i64 x0_12, At.int true IntKind.i64 x0_13, At.int true IntKind.i64 x0_14, At.int true IntKind.i64 x0_15, At.int true IntKind.i64 x0_16, At.int true IntKind.i64 x0_17, At.int true IntKind.i64 x0_18, At.int true IntKind.i64 x0_19, At.int true IntKind.i64 x0_20, At.int true IntKind.i64 x0_21, At.int true IntKind.i64 x0_22, At.int true IntKind.i64 x0_23], [])
  | _, _ => none
theorem l13Ref_ok : ConOK Try.prog 47 (normC l13Ref_c) := normC_ok (by
  intro args bs obs lv out h ho φ vs w may ha hM
  unfold l13Ref_c at h
  split at h
  · simp only [Option.some.injEq, Prod.mk.injEq] at h
    obtain ⟨rfl, rfl, rfl⟩ := h
    rename_i x0_0 x0_1 x0_2 x0_3 x0_4 x0_5 x0_6 x0_7 x0_8 x0_9 x0_10 x0_11 x0_12 x0_13 x0_14 x0_15 x0_16 x0_17 x0_18 x0_19 x0_20 x0_21 x0_22 x0_23
    exact evG_ok tabVL_ok follows _ _ _ _ _ (l13Ref_p x0_0 x0_1 x0_2 x0_3 x0_4 x0_5 x0_6 x0_7 x0_8 x0_9 x0_10 x0_11 x0_12 x0_13 x0_14 x0_15 x0_16 x0_17 x0_18 x0_19 x0_20 x0_21 x0_22 x0_23) ho φ vs w may ha hM
  · cases h)
theorem l13Ref_en : Enters Try.prog 47 := fun args => by kernel_rfl
-- 1263 1 1 ms

/-! azulejo/bin.tiles -/
def bTiles_s0 (x0 : Int) : Int := if x0 < (0 : Int) then (0 : Int) else x0
def bTiles_0 (x0 : Int) : Int := IntKind.wrap IntKind.i64 (Int.tdiv (IntKind.wrap IntKind.i64 (IntKind.wrap IntKind.i64 ((if (64 : Int) < bTiles_s0 x0 then (64 : Int) else bTiles_s0 x0) + (8 : Int)) - (1 : Int))) (8 : Int))
theorem bTiles_p (x0 : Int) : evG Try.prog tabVL 2000 103 [0, 2] [] [] [.a (.int true .i64 x0)] [] = some ([], LV.a (At.int true IntKind.i64 (bTiles_0 x0)), []) := by kernel_rfl
def bTiles_c : Con
  | [.a (.int true .i64 x0)], [] => some ([], LV.a (At.int true IntKind.i64 (bTiles_0 x0)), [])
  | _, _ => none
theorem bTiles_ok : ConOK Try.prog 103 (normC bTiles_c) := normC_ok (by
  intro args bs obs lv out h ho φ vs w may ha hM
  unfold bTiles_c at h
  split at h
  · simp only [Option.some.injEq, Prod.mk.injEq] at h
    obtain ⟨rfl, rfl, rfl⟩ := h
    rename_i x0
    exact evG_ok tabVL_ok follows _ _ _ _ _ (bTiles_p x0) ho φ vs w may ha hM
  · cases h)
theorem bTiles_en : Enters Try.prog 103 := fun args => by kernel_rfl
-- 62 5 5 ms

/-! azulejo/azulejolaw16.in -/
def l16in_0 (x0_0 x0_1 x0_2 x0_3 x1 x2 : Int) : Bool := bif decide (x0_0 ≤ x1) then bif decide (x1 < x0_2) then bif decide (x0_1 ≤ x2) then decide (x2 < x0_3) else false else false else false
theorem l16in_p (x0_0 x0_1 x0_2 x0_3 x1 x2 : Int) : evG Try.prog tabVL 2000 33 [0, 1, 2, 3, 6] [] [] [.g [.int true .i64 x0_0, .int true .i64 x0_1, .int true .i64 x0_2, .int true .i64 x0_3], .a (.int true .i64 x1), .a (.int true .i64 x2)] [] = some ([], LV.a (At.bool true (l16in_0 x0_0 x0_1 x0_2 x0_3 x1 x2)), []) := by kernel_rfl
def l16in_c : Con
  | [.g [.int true .i64 x0_0, .int true .i64 x0_1, .int true .i64 x0_2, .int true .i64 x0_3], .a (.int true .i64 x1), .a (.int true .i64 x2)], [] => some ([], LV.a (At.bool true (l16in_0 x0_0 x0_1 x0_2 x0_3 x1 x2)), [])
  | _, _ => none
theorem l16in_ok : ConOK Try.prog 33 (normC l16in_c) := normC_ok (by
  intro args bs obs lv out h ho φ vs w may ha hM
  unfold l16in_c at h
  split at h
  · simp only [Option.some.injEq, Prod.mk.injEq] at h
    obtain ⟨rfl, rfl, rfl⟩ := h
    rename_i x0_0 x0_1 x0_2 x0_3 x1 x2
    exact evG_ok tabVL_ok follows _ _ _ _ _ (l16in_p x0_0 x0_1 x0_2 x0_3 x1 x2) ho φ vs w may ha hM
  · cases h)
theorem l16in_en : Enters Try.prog 33 := fun args => by kernel_rfl
-- 131 20 3 ms

/-! azulejo/bin.Meet -/
def bMeet_s0 (x0_2 x1_2 : Int) : Int := if x1_2 < x0_2 then x1_2 else x0_2
def bMeet_s1 (x0_0 x1_0 : Int) : Int := if x0_0 < x1_0 then x1_0 else x0_0
def bMeet_s2 (x0_3 x1_3 : Int) : Int := if x1_3 < x0_3 then x1_3 else x0_3
def bMeet_s3 (x0_1 x1_1 : Int) : Int := if x0_1 < x1_1 then x1_1 else x0_1
def bMeet_s4 (x0_0 x0_1 x0_2 x0_3 x1_0 x1_1 x1_2 x1_3 : Int) : Bool := bif decide (bMeet_s0 x0_2 x1_2 ≤ bMeet_s1 x0_0 x1_0) then true else decide (bMeet_s2 x0_3 x1_3 ≤ bMeet_s3 x0_1 x1_1)
def bMeet_0 (x0_0 x0_1 x0_2 x0_3 x1_0 x1_1 x1_2 x1_3 : Int) : Int := bif bMeet_s4 x0_0 x0_1 x0_2 x0_3 x1_0 x1_1 x1_2 x1_3 then (0 : Int) else bMeet_s1 x0_0 x1_0
def bMeet_1 (x0_0 x0_1 x0_2 x0_3 x1_0 x1_1 x1_2 x1_3 : Int) : Int := bif bMeet_s4 x0_0 x0_1 x0_2 x0_3 x1_0 x1_1 x1_2 x1_3 then (0 : Int) else bMeet_s3 x0_1 x1_1
def bMeet_2 (x0_0 x0_1 x0_2 x0_3 x1_0 x1_1 x1_2 x1_3 : Int) : Int := bif bMeet_s4 x0_0 x0_1 x0_2 x0_3 x1_0 x1_1 x1_2 x1_3 then (0 : Int) else bMeet_s0 x0_2 x1_2
def bMeet_3 (x0_0 x0_1 x0_2 x0_3 x1_0 x1_1 x1_2 x1_3 : Int) : Int := bif bMeet_s4 x0_0 x0_1 x0_2 x0_3 x1_0 x1_1 x1_2 x1_3 then (0 : Int) else bMeet_s2 x0_3 x1_3
theorem bMeet_p (x0_0 x0_1 x0_2 x0_3 x1_0 x1_1 x1_2 x1_3 : Int) : evG Try.prog tabVL 2000 30 [0, 1, 2, 3, 4, 5, 38] [] [] [.g [.int true .i64 x0_0, .int true .i64 x0_1, .int true .i64 x0_2, .int true .i64 x0_3], .g [.int true .i64 x1_0, .int true .i64 x1_1, .int true .i64 x1_2, .int true .i64 x1_3]] [] = some ([], LV.g [At.int true IntKind.i64 (bMeet_0 x0_0 x0_1 x0_2 x0_3 x1_0 x1_1 x1_2 x1_3), At.int true IntKind.i64 (bMeet_1 x0_0 x0_1 x0_2 x0_3 x1_0 x1_1 x1_2 x1_3), At.int true IntKind.i64 (bMeet_2 x0_0 x0_1 x0_2 x0_3 x1_0 x1_1 x1_2 x1_3), At.int true IntKind.i64 (bMeet_3 x0_0 x0_1 x0_2 x0_3 x1_0 x1_1 x1_2 x1_3)], []) := by kernel_rfl
def bMeet_c : Con
  | [.g [.int true .i64 x0_0, .int true .i64 x0_1, .int true .i64 x0_2, .int true .i64 x0_3], .g [.int true .i64 x1_0, .int true .i64 x1_1, .int true .i64 x1_2, .int true .i64 x1_3]], [] => some ([], LV.g [At.int true IntKind.i64 (bMeet_0 x0_0 x0_1 x0_2 x0_3 x1_0 x1_1 x1_2 x1_3), At.int true IntKind.i64 (bMeet_1 x0_0 x0_1 x0_2 x0_3 x1_0 x1_1 x1_2 x1_3), At.int true IntKind.i64 (bMeet_2 x0_0 x0_1 x0_2 x0_3 x1_0 x1_1 x1_2 x1_3), At.int true IntKind.i64 (bMeet_3 x0_0 x0_1 x0_2 x0_3 x1_0 x1_1 x1_2 x1_3)], [])
  | _, _ => none
theorem bMeet_ok : ConOK Try.prog 30 (normC bMeet_c) := normC_ok (by
  intro args bs obs lv out h ho φ vs w may ha hM
  unfold bMeet_c at h
  split at h
  · simp only [Option.some.injEq, Prod.mk.injEq] at h
    obtain ⟨rfl, rfl, rfl⟩ := h
    rename_i x0_0 x0_1 x0_2 x0_3 x1_0 x1_1 x1_2 x1_3
    exact evG_ok tabVL_ok follows _ _ _ _ _ (bMeet_p x0_0 x0_1 x0_2 x0_3 x1_0 x1_1 x1_2 x1_3) ho φ vs w may ha hM
  · cases h)
theorem bMeet_en : Enters Try.prog 30 := fun args => by kernel_rfl
-- 191 108 9 ms

/-! azulejo/azulejolaw18.box -/
def l18box_0 (x0_0 : Int) : Int := IntKind.wrap IntKind.i64 (IntKind.wrap IntKind.i64 (Int.tmod x0_0 (30 : Int)) - (2 : Int))
def l18box_1 (x0_1 : Int) : Int := IntKind.wrap IntKind.i64 (IntKind.wrap IntKind.i64 (Int.tmod x0_1 (30 : Int)) - (2 : Int))
def l18box_2 (x0_2 : Int) : Int := IntKind.wrap IntKind.i64 (Int.tmod x0_2 (70 : Int))
def l18box_3 (x0_3 : Int) : Int := IntKind.wrap IntKind.i64 (Int.tmod x0_3 (70 : Int))
theorem l18box_p (x0_0 x0_1 x0_2 x0_3 : Int) : evG Try.prog tabVL 2000 44 [0, 1, 2] [] [] [.g [.int true .u8 x0_0, .int true .u8 x0_1, .int true .u8 x0_2, .int true .u8 x0_3]] [] = some ([], LV.g [At.int true IntKind.i64 (l18box_0 x0_0), At.int true IntKind.i64 (l18box_1 x0_1), At.int true IntKind.i64 (l18box_2 x0_2), At.int true IntKind.i64 (l18box_3 x0_3)], []) := by kernel_rfl
def l18box_c : Con
  | [.g [.int true .u8 x0_0, .int true .u8 x0_1, .int true .u8 x0_2, .int true .u8 x0_3]], [] => some ([], LV.g [At.int true IntKind.i64 (l18box_0 x0_0), At.int true IntKind.i64 (l18box_1 x0_1), At.int true IntKind.i64 (l18box_2 x0_2), At.int true IntKind.i64 (l18box_3 x0_3)], [])
  | _, _ => none
theorem l18box_ok : ConOK Try.prog 44 (normC l18box_c) := normC_ok (by
  intro args bs obs lv out h ho φ vs w may ha hM
  unfold l18box_c at h
  split at h
  · simp only [Option.some.injEq, Prod.mk.injEq] at h
    obtain ⟨rfl, rfl, rfl⟩ := h
    rename_i x0_0 x0_1 x0_2 x0_3
    exact evG_ok tabVL_ok follows _ _ _ _ _ (l18box_p x0_0 x0_1 x0_2 x0_3) ho φ vs w may ha hM
  · cases h)
theorem l18box_en : Enters Try.prog 44 := fun args => by kernel_rfl
-- 104 5 4 ms

/-! azulejo/raster.Cells -/
theorem rCells_p (x0_0 x0_1 x0_2 x0_3 x0_4 x0_5 x0_6 x0_7 x0_8 x0_9 x0_10 x0_11 x0_12 x0_13 x0_14 x0_15 x0_16 x0_17 x0_18 x0_19 x0_20 x0_21 x0_22 x0_23 x1_0 x1_1 x1_2 x1_3 : Int) : evG Try.prog tabVL 2000 48 [0, 1, 2, 3, 4] [] [] [.g [.int true .i64 x0_0, .int true .i64 x0_1, .int true .i64 x0_2, .int true .i64 x0_3, .int true .i64 x0_4, .int true .i64 x0_5, .int true .i64 x0_6, .int true .i64 x0_7, .int true .i64 x0_8, .int true .i64 x0_9, .int true .i64 x0_10, .int true .i64 x0_11, .int true .i64 x0_12, .int true .i64 x0_13, .int true .i64 x0_14, .int true .i64 x0_15, .int true .i64 x0_16, .int true .i64 x0_17, .int true .i64 x0_18, .int true .i64 x0_19, .int true .i64 x0_20, .int true .i64 x0_21, .int true .i64 x0_22, .int true .i64 x0_23], .g [.int true .i64 x1_0, .int true .i64 x1_1, .int true .i64 x1_2, .int true .i64 x1_3]] [] = some ([], LV.a (At.fn (nat_lit 108) [(nat_lit 0, nat_lit 0), (nat_lit 1, nat_lit 0)]), [some (BC.mk (Hd.mk (nat_lit 0) (nat_lit 24) false none) [some (At.int true IntKind.i64 x0_0), some (At.int true IntKind.i64 x0_1), some (At.int true IntKind.i64 x0_2), some (At.int true IntKind.i64 x0_3), some (At.int true IntKind.i64 x0_4), some (At.int true IntKind.i64 x0_5), some (At.int true IntKind.i64 x0_6), some (At.int true IntKind.i64 x0_7), some (At.int true IntKind.i64 x0_8), some (At.int true IntKind.i64 x0_9), some (At.int true IntKind.i64 x0_10), some (At.int true IntKind.i64 x0_11), some (At.int true IntKind.i64 x0_12), some (At.int true IntKind.i64 x0_13), some (At.int true IntKind.i64 x0_14), some (At.int true IntKind.i64 x0_15), some (At.int true IntKind.i64 x0_16), some (At.int true IntKind.i64 x0_17), some (At.int true IntKind.i64 x0_18), some (At.int true IntKind.i64 x0_19), some (At.int true IntKind.i64 x0_20), some (At.int true IntKind.i64 x0_21), some (At.int true IntKind.i64 x0_22), some (At.int true IntKind.i64 x0_23)]), some (BC.mk (Hd.mk (nat_lit 0) (nat_lit 4) false none) [some (At.int true IntKind.i64 x1_0), some (At.int true IntKind.i64 x1_1), some (At.int true IntKind.i64 x1_2), some (At.int true IntKind.i64 x1_3)])]) := by kernel_rfl
def rCells_c : Con
  | [.g [.int true .i64 x0_0, .int true .i64 x0_1, .int true .i64 x0_2, .int true .i64 x0_3, .int true .i64 x0_4, .int true .i64 x0_5, .int true .i64 x0_6, .int true .i64 x0_7, .int true .i64 x0_8, .int true .i64 x0_9, .int true .i64 x0_10, .int true .i64 x0_11, .int true .i64 x0_12, .int true .i64 x0_13, .int true .i64 x0_14, .int true .i64 x0_15, .int true .i64 x0_16, .int true .i64 x0_17, .int true .i64 x0_18, .int true .i64 x0_19, .int true .i64 x0_20, .int true .i64 x0_21, .int true .i64 x0_22, .int true .i64 x0_23], .g [.int true .i64 x1_0, .int true .i64 x1_1, .int true .i64 x1_2, .int true .i64 x1_3]], [] => some ([], LV.a (At.fn (nat_lit 108) [(nat_lit 0, nat_lit 0), (nat_lit 1, nat_lit 0)]), [some (BC.mk (Hd.mk (nat_lit 0) (nat_lit 24) false none) [some (At.int true IntKind.i64 x0_0), some (At.int true IntKind.i64 x0_1), some (At.int true IntKind.i64 x0_2), some (At.int true IntKind.i64 x0_3), some (At.int true IntKind.i64 x0_4), some (At.int true IntKind.i64 x0_5), some (At.int true IntKind.i64 x0_6), some (At.int true IntKind.i64 x0_7), some (At.int true IntKind.i64 x0_8), some (At.int true IntKind.i64 x0_9), some (At.int true IntKind.i64 x0_10), some (At.int true IntKind.i64 x0_11), some (At.int true IntKind.i64 x0_12), some (At.int true IntKind.i64 x0_13), some (At.int true IntKind.i64 x0_14), some (At.int true IntKind.i64 x0_15), some (At.int true IntKind.i64 x0_16), some (At.int true IntKind.i64 x0_17), some (At.int true IntKind.i64 x0_18), some (At.int true IntKind.i64 x0_19), some (At.int true IntKind.i64 x0_20), some (At.int true IntKind.i64 x0_21), some (At.int true IntKind.i64 x0_22), some (At.int true IntKind.i64 x0_23)]), some (BC.mk (Hd.mk (nat_lit 0) (nat_lit 4) false none) [some (At.int true IntKind.i64 x1_0), some (At.int true IntKind.i64 x1_1), some (At.int true IntKind.i64 x1_2), some (At.int true IntKind.i64 x1_3)])])
  | _, _ => none
theorem rCells_ok : ConOK Try.prog 48 (normC rCells_c) := normC_ok (by
  intro args bs obs lv out h ho φ vs w may ha hM
  unfold rCells_c at h
  split at h
  · simp only [Option.some.injEq, Prod.mk.injEq] at h
    obtain ⟨rfl, rfl, rfl⟩ := h
    rename_i x0_0 x0_1 x0_2 x0_3 x0_4 x0_5 x0_6 x0_7 x0_8 x0_9 x0_10 x0_11 x0_12 x0_13 x0_14 x0_15 x0_16 x0_17 x0_18 x0_19 x0_20 x0_21 x0_22 x0_23 x1_0 x1_1 x1_2 x1_3
    exact evG_ok tabVL_ok follows _ _ _ _ _ (rCells_p x0_0 x0_1 x0_2 x0_3 x0_4 x0_5 x0_6 x0_7 x0_8 x0_9 x0_10 x0_11 x0_12 x0_13 x0_14 x0_15 x0_16 x0_17 x0_18 x0_19 x0_20 x0_21 x0_22 x0_23 x1_0 x1_1 x1_2 x1_3) ho φ vs w may ha hM
  · cases h)
theorem rCells_en : Enters Try.prog 48 := fun args => by kernel_rfl
-- 40 67 1 ms

def tabRa1 : Tab := (109, normC fWithin_c) :: (110, normC fFloor_c) :: (94, normC vmColour_c) :: (132, normC rNear_c) :: (96, normC sm3Tri_c) :: (98, normC tTurned_c) :: (35, normC sMiddle_c) :: (47, normC l13Ref_c) :: (103, normC bTiles_c) :: (33, normC l16in_c) :: (30, normC bMeet_c) :: (44, normC l18box_c) :: (48, normC rCells_c) :: tabVL
theorem tabRa1_ok : TOK Try.prog tabRa1 := TOK.cons fWithin_en fWithin_ok (TOK.cons fFloor_en fFloor_ok (TOK.cons vmColour_en vmColour_ok (TOK.cons rNear_en rNear_ok (TOK.cons sm3Tri_en sm3Tri_ok (TOK.cons tTurned_en tTurned_ok (TOK.cons sMiddle_en sMiddle_ok (TOK.cons l13Ref_en l13Ref_ok (TOK.cons bTiles_en bTiles_ok (TOK.cons l16in_en l16in_ok (TOK.cons bMeet_en bMeet_ok (TOK.cons l18box_en l18box_ok (TOK.cons rCells_en rCells_ok (tabVL_ok)))))))))))))

end Go.Proofs.Ytcdejlgophpdjaa
end

section
namespace Go.Proofs.Ytcdejlgophpdjaa
open Go Go.RowKit Go.Proofs.Ytcdejlgophpdjaa.V
set_option linter.unusedVariables false

/-! (azulejo/edge.Point).near -/
def eNear_0 (x0_0 : Int) : Int := fWithin_0 x0_0 (16384 : Int)
def eNear_1 (x0_1 : Int) : Int := fWithin_0 x0_1 (16384 : Int)
theorem eNear_p (x0_0 x0_1 : Int) : evG Try.prog tabRa1 2000 130 [0, 1, 2] [] [] [.g [.int true .i64 x0_0, .int true .i64 x0_1]] [] = some ([], LV.g [At.int true IntKind.i64 (eNear_0 x0_0), At.int true IntKind.i64 (eNear_1 x0_1)], []) := by kernel_rfl
def eNear_c : Con
  | [.g [.int true .i64 x0_0, .int true .i64 x0_1]], [] => some ([], LV.g [At.int true IntKind.i64 (eNear_0 x0_0), At.int true IntKind.i64 (eNear_1 x0_1)], [])
  | _, _ => none
theorem eNear_ok : ConOK Try.prog 130 (normC eNear_c) := normC_ok (by
  intro args bs obs lv out h ho φ vs w may ha hM
  unfold eNear_c at h
  split at h
  · simp only [Option.some.injEq, Prod.mk.injEq] at h
    obtain ⟨rfl, rfl, rfl⟩ := h
    rename_i x0_0 x0_1
    exact evG_ok tabRa1_ok follows _ _ _ _ _ (eNear_p x0_0 x0_1) ho φ vs w may ha hM
  · cases h)
theorem eNear_en : Enters Try.prog 130 := fun args => by kernel_rfl
-- 128 2 3 ms

/-! azulejo/azulejoref01.Side -/
def rSide_0 (x0_0 x0_1 x1_0 x1_1 x2_0 x2_1 : Int) : Int := IntKind.wrap IntKind.i64 (IntKind.wrap IntKind.i64 (IntKind.wrap IntKind.i64 (rNear_0 x1_0 - rNear_0 x0_0) * IntKind.wrap IntKind.i64 (rNear_0 x2_1 - rNear_0 x0_1)) - IntKind.wrap IntKind.i64 (IntKind.wrap IntKind.i64 (rNear_0 x1_1 - rNear_0 x0_1) * IntKind.wrap IntKind.i64 (rNear_0 x2_0 - rNear_0 x0_0)))
theorem rSide_p (x0_0 x0_1 x1_0 x1_1 x2_0 x2_1 : Int) : evG Try.prog tabRa1 2000 107 [0, 1, 2, 3, 4, 5, 6, 7, 8] [] [] [.g [.int true .i64 x0_0, .int true .i64 x0_1], .g [.int true .i64 x1_0, .int true .i64 x1_1], .g [.int true .i64 x2_0, .int true .i64 x2_1]] [] = some ([], LV.a (At.int true IntKind.i64 (rSide_0 x0_0 x0_1 x1_0 x1_1 x2_0 x2_1)), []) := by kernel_rfl
def rSide_c : Con
  | [.g [.int true .i64 x0_0, .int true .i64 x0_1], .g [.int true .i64 x1_0, .int true .i64 x1_1], .g [.int true .i64 x2_0, .int true .i64 x2_1]], [] => some ([], LV.a (At.int true IntKind.i64 (rSide_0 x0_0 x0_1 x1_0 x1_1 x2_0 x2_1)), [])
  | _, _ => none
theorem rSide_ok : ConOK Try.prog 107 (normC rSide_c) := normC_ok (by
  intro args bs obs lv out h ho φ vs w may ha hM
  unfold rSide_c at h
  split at h
  · simp only [Option.some.injEq, Prod.mk.injEq] at h
    obtain ⟨rfl, rfl, rfl⟩ := h
    rename_i x0_0 x0_1 x1_0 x1_1 x2_0 x2_1
    exact evG_ok tabRa1_ok follows _ _ _ _ _ (rSide_p x0_0 x0_1 x1_0 x1_1 x2_0 x2_1) ho φ vs w may ha hM
  · cases h)
theorem rSide_en : Enters Try.prog 107 := fun args => by kernel_rfl
-- 297 9 5 ms

/-! (azulejo/bin.Grid).Cols -/
theorem bCols_p (x0_0 x0_1 : Int) : evG Try.prog tabRa1 2000 36 [0, 1, 2] [] [] [.g [.int true .i64 x0_0, .int true .i64 x0_1]] [] = some ([], LV.a (At.int true IntKind.i64 (bTiles_0 x0_0)), []) := by kernel_rfl
def bCols_c : Con
  | [.g [.int true .i64 x0_0, .int true .i64 x0_1]], [] => some ([], LV.a (At.int true IntKind.i64 (bTiles_0 x0_0)), [])
  | _, _ => none
theorem bCols_ok : ConOK Try.prog 36 (normC bCols_c) := normC_ok (by
  intro args bs obs lv out h ho φ vs w may ha hM
  unfold bCols_c at h
  split at h
  · simp only [Option.some.injEq, Prod.mk.injEq] at h
    obtain ⟨rfl, rfl, rfl⟩ := h
    rename_i x0_0 x0_1
    exact evG_ok tabRa1_ok follows _ _ _ _ _ (bCols_p x0_0 x0_1) ho φ vs w may ha hM
  · cases h)
theorem bCols_en : Enters Try.prog 36 := fun args => by kernel_rfl
-- 78 2 0 ms

/-! (azulejo/bin.Grid).Rows -/
theorem bRows_p (x0_0 x0_1 : Int) : evG Try.prog tabRa1 2000 100 [0, 1, 2] [] [] [.g [.int true .i64 x0_0, .int true .i64 x0_1]] [] = some ([], LV.a (At.int true IntKind.i64 (bTiles_0 x0_1)), []) := by kernel_rfl
def bRows_c : Con
  | [.g [.int true .i64 x0_0, .int true .i64 x0_1]], [] => some ([], LV.a (At.int true IntKind.i64 (bTiles_0 x0_1)), [])
  | _, _ => none
theorem bRows_ok : ConOK Try.prog 100 (normC bRows_c) := normC_ok (by
  intro args bs obs lv out h ho φ vs w may ha hM
  unfold bRows_c at h
  split at h
  · simp only [Option.some.injEq, Prod.mk.injEq] at h
    obtain ⟨rfl, rfl, rfl⟩ := h
    rename_i x0_0 x0_1
    exact evG_ok tabRa1_ok follows _ _ _ _ _ (bRows_p x0_0 x0_1) ho φ vs w may ha hM
  · cases h)
theorem bRows_en : Enters Try.prog 100 := fun args => by kernel_rfl
-- 55 1 1 ms

def tabRa2 : Tab := (130, normC eNear_c) :: (107, normC rSide_c) :: (36, normC bCols_c) :: (100, normC bRows_c) :: tabRa1
theorem tabRa2_ok : TOK Try.prog tabRa2 := TOK.cons eNear_en eNear_ok (TOK.cons rSide_en rSide_ok (TOK.cons bCols_en bCols_ok (TOK.cons bRows_en bRows_ok (tabRa1_ok))))

end Go.Proofs.Ytcdejlgophpdjaa
end

section
namespace Go.Proofs.Ytcdejlgophpdjaa
open Go Go.RowKit Go.Proofs.Ytcdejlgophpdjaa.V
set_option linter.unusedVariables false

/-! azulejo/edge.Side -/
def eSide_0 (x0_0 x0_1 x1_0 x1_1 x2_0 x2_1 : Int) : Int := IntKind.wrap IntKind.i64 (IntKind.wrap IntKind.i64 (IntKind.wrap IntKind.i64 (eNear_0 x1_0 - eNear_0 x0_0) * IntKind.wrap IntKind.i64 (eNear_1 x2_1 - eNear_1 x0_1)) - IntKind.wrap IntKind.i64 (IntKind.wrap IntKind.i64 (eNear_1 x1_1 - eNear_1 x0_1) * IntKind.wrap IntKind.i64 (eNear_0 x2_0 - eNear_0 x0_0)))
theorem eSide_p (x0_0 x0_1 x1_0 x1_1 x2_0 x2_1 : Int) : evG Try.prog tabRa2 2000 111 [0, 1, 2, 3, 4, 5, 6] [] [] [.g [.int true .i64 x0_0, .int true .i64 x0_1], .g [.int true .i64 x1_0, .int true .i64 x1_1], .g [.int true .i64 x2_0, .int true .i64 x2_1]] [] = some ([], LV.a (At.int true IntKind.i64 (eSide_0 x0_0 x0_1 x1_0 x1_1 x2_0 x2_1)), []) := by kernel_rfl
def eSide_c : Con
  | [.g [.int true .i64 x0_0, .int true .i64 x0_1], .g [.int true .i64 x1_0, .int true .i64 x1_1], .g [.int true .i64 x2_0, .int true .i64 x2_1]], [] => some ([], LV.a (At.int true IntKind.i64 (eSide_0 x0_0 x0_1 x1_0 x1_1 x2_0 x2_1)), [])
  | _, _ => none
theorem eSide_ok : ConOK Try.prog 111 (normC eSide_c) := normC_ok (by
  intro args bs obs lv out h ho φ vs w may ha hM
  unfold eSide_c at h
  split at h
  · simp only [Option.some.injEq, Prod.mk.injEq] at h
    obtain ⟨rfl, rfl, rfl⟩ := h
    rename_i x0_0 x0_1 x1_0 x1_1 x2_0 x2_1
    exact evG_ok tabRa2_ok follows _ _ _ _ _ (eSide_p x0_0 x0_1 x1_0 x1_1 x2_0 x2_1) ho φ vs w may ha hM
  · cases h)
theorem eSide_en : Enters Try.prog 111 := fun args => by kernel_rfl
-- 152 5 3 ms

/-! azulejo/edge.Owns -/
def eOwns_0 (x0_0 x0_1 x1_0 x1_1 : Int) : Bool := bif decide (eNear_1 x1_1 < eNear_1 x0_1) then true else bif eNear_1 x0_1 == eNear_1 x1_1 then decide (eNear_0 x0_0 < eNear_0 x1_0) else false
theorem eOwns_p (x0_0 x0_1 x1_0 x1_1 : Int) : evG Try.prog tabRa2 2000 102 [0, 1, 2, 3, 4] [] [] [.g [.int true .i64 x0_0, .int true .i64 x0_1], .g [.int true .i64 x1_0, .int true .i64 x1_1]] [] = some ([], LV.a (At.bool true (eOwns_0 x0_0 x0_1 x1_0 x1_1)), []) := by kernel_rfl
def eOwns_c : Con
  | [.g [.int true .i64 x0_0, .int true .i64 x0_1], .g [.int true .i64 x1_0, .int true .i64 x1_1]], [] => some ([], LV.a (At.bool true (eOwns_0 x0_0 x0_1 x1_0 x1_1)), [])
  | _, _ => none
theorem eOwns_ok : ConOK Try.prog 102 (normC eOwns_c) := normC_ok (by
  intro args bs obs lv out h ho φ vs w may ha hM
  unfold eOwns_c at h
  split at h
  · simp only [Option.some.injEq, Prod.mk.injEq] at h
    obtain ⟨rfl, rfl, rfl⟩ := h
    rename_i x0_0 x0_1 x1_0 x1_1
    exact evG_ok tabRa2_ok follows _ _ _ _ _ (eOwns_p x0_0 x0_1 x1_0 x1_1) ho φ vs w may ha hM
  · cases h)
theorem eOwns_en : Enters Try.prog 102 := fun args => by kernel_rfl
-- 214 16 2 ms

/-! (azulejo/edge.Tri).Box -/
def eBox_s0 (x0_0 x0_2 : Int) : Int := if eNear_0 x0_2 < eNear_0 x0_0 then eNear_0 x0_2 else eNear_0 x0_0
def eBox_0 (x0_0 x0_2 x0_4 : Int) : Int := if eNear_0 x0_4 < eBox_s0 x0_0 x0_2 then eNear_0 x0_4 else eBox_s0 x0_0 x0_2
def eBox_s1 (x0_1 x0_3 : Int) : Int := if eNear_1 x0_3 < eNear_1 x0_1 then eNear_1 x0_3 else eNear_1 x0_1
def eBox_1 (x0_1 x0_3 x0_5 : Int) : Int := if eNear_1 x0_5 < eBox_s1 x0_1 x0_3 then eNear_1 x0_5 else eBox_s1 x0_1 x0_3
def eBox_s2 (x0_0 x0_2 : Int) : Int := if eNear_0 x0_0 < eNear_0 x0_2 then eNear_0 x0_2 else eNear_0 x0_0
def eBox_2 (x0_0 x0_2 x0_4 : Int) : Int := if eBox_s2 x0_0 x0_2 < eNear_0 x0_4 then eNear_0 x0_4 else eBox_s2 x0_0 x0_2
def eBox_s3 (x0_1 x0_3 : Int) : Int := if eNear_1 x0_1 < eNear_1 x0_3 then eNear_1 x0_3 else eNear_1 x0_1
def eBox_3 (x0_1 x0_3 x0_5 : Int) : Int := if eBox_s3 x0_1 x0_3 < eNear_1 x0_5 then eNear_1 x0_5 else eBox_s3 x0_1 x0_3
theorem eBox_p (x0_0 x0_1 x0_2 x0_3 x0_4 x0_5 : Int) : evG Try.prog tabRa2 2000 101 [0, 1, 2, 3, 4, 5, 7, 14, 15, 16, 17] [] [] [.g [.int true .i64 x0_0, .int true .i64 x0_1, .int true .i64 x0_2, .int true .i64 x0_3, .int true .i64 x0_4, .int true .i64 x0_5]] [] = some ([], LV.t [LV.g [At.int true IntKind.i64 (eBox_0 x0_0 x0_2 x0_4), At.int true IntKind.i64 (eBox_1 x0_1 x0_3 x0_5)], LV.g [At.int true IntKind.i64 (eBox_2 x0_0 x0_2 x0_4), At.int true IntKind.i64 (eBox_3 x0_1 x0_3 x0_5)]], []) := by kernel_rfl
def eBox_c : Con
  | [.g [.int true .i64 x0_0, .int true .i64 x0_1, .int true .i64 x0_2, .int true .i64 x0_3, .int true .i64 x0_4, .int true .i64 x0_5]], [] => some ([], LV.t [LV.g [At.int true IntKind.i64 (eBox_0 x0_0 x0_2 x0_4), At.int true IntKind.i64 (eBox_1 x0_1 x0_3 x0_5)], LV.g [At.int true IntKind.i64 (eBox_2 x0_0 x0_2 x0_4), At.int true IntKind.i64 (eBox_3 x0_1 x0_3 x0_5)]], [])
  | _, _ => none
theorem eBox_ok : ConOK Try.prog 101 (normC eBox_c) := normC_ok (by
  intro args bs obs lv out h ho φ vs w may ha hM
  unfold eBox_c at h
  split at h
  · simp only [Option.some.injEq, Prod.mk.injEq] at h
    obtain ⟨rfl, rfl, rfl⟩ := h
    rename_i x0_0 x0_1 x0_2 x0_3 x0_4 x0_5
    exact evG_ok tabRa2_ok follows _ _ _ _ _ (eBox_p x0_0 x0_1 x0_2 x0_3 x0_4 x0_5) ho φ vs w may ha hM
  · cases h)
theorem eBox_en : Enters Try.prog 101 := fun args => by kernel_rfl
-- 380 9 9 ms

/-! azulejo/azulejoref01.Covers -/
def rCovers_s0 (x0_0 x0_1 x0_2 x0_3 x1_0 x1_1 : Int) : Bool := decide (rSide_0 x0_0 x0_1 x0_2 x0_3 x1_0 x1_1 < (0 : Int))
def rCovers_s1 (x0_0 x0_1 x0_2 x0_3 x1_0 x1_1 : Int) : Bool := bif rSide_0 x0_0 x0_1 x0_2 x0_3 x1_0 x1_1 == (0 : Int) then bif !decide (rNear_0 x0_3 < rNear_0 x0_1) then !bif rNear_0 x0_3 == rNear_0 x0_1 then decide (rNear_0 x0_0 < rNear_0 x0_2) else false else false else false
def rCovers_s2 (x0_2 x0_3 x0_4 x0_5 x1_0 x1_1 : Int) : Bool := decide (rSide_0 x0_2 x0_3 x0_4 x0_5 x1_0 x1_1 < (0 : Int))
def rCovers_s3 (x0_2 x0_3 x0_4 x0_5 x1_0 x1_1 : Int) : Bool := bif rSide_0 x0_2 x0_3 x0_4 x0_5 x1_0 x1_1 == (0 : Int) then bif !decide (rNear_0 x0_5 < rNear_0 x0_3) then !bif rNear_0 x0_5 == rNear_0 x0_3 then decide (rNear_0 x0_2 < rNear_0 x0_4) else false else false else false
def rCovers_s4 (x0_0 x0_1 x0_4 x0_5 x1_0 x1_1 : Int) : Bool := decide (rSide_0 x0_4 x0_5 x0_0 x0_1 x1_0 x1_1 < (0 : Int))
def rCovers_0 (x0_0 x0_1 x0_2 x0_3 x0_4 x0_5 x1_0 x1_1 : Int) : Bool := bif decide (rSide_0 x0_0 x0_1 x0_2 x0_3 x0_4 x0_5 ≤ (0 : Int)) then false else bif rCovers_s0 x0_0 x0_1 x0_2 x0_3 x1_0 x1_1 || !rCovers_s0 x0_0 x0_1 x0_2 x0_3 x1_0 x1_1 && rCovers_s1 x0_0 x0_1 x0_2 x0_3 x1_0 x1_1 || !rCovers_s0 x0_0 x0_1 x0_2 x0_3 x1_0 x1_1 && !rCovers_s1 x0_0 x0_1 x0_2 x0_3 x1_0 x1_1 && (rCovers_s2 x0_2 x0_3 x0_4 x0_5 x1_0 x1_1 || !rCovers_s2 x0_2 x0_3 x0_4 x0_5 x1_0 x1_1 && rCovers_s3 x0_2 x0_3 x0_4 x0_5 x1_0 x1_1 || !rCovers_s2 x0_2 x0_3 x0_4 x0_5 x1_0 x1_1 && !rCovers_s3 x0_2 x0_3 x0_4 x0_5 x1_0 x1_1 && (rCovers_s4 x0_0 x0_1 x0_4 x0_5 x1_0 x1_1 || !rCovers_s4 x0_0 x0_1 x0_4 x0_5 x1_0 x1_1 && bif rSide_0 x0_4 x0_5 x0_0 x0_1 x1_0 x1_1 == (0 : Int) then bif !decide (rNear_0 x0_1 < rNear_0 x0_5) then !bif rNear_0 x0_1 == rNear_0 x0_5 then decide (rNear_0 x0_4 < rNear_0 x0_0) else false else false else false)) then false else true
theorem rCovers_p (x0_0 x0_1 x0_2 x0_3 x0_4 x0_5 x1_0 x1_1 : Int) : evG Try.prog tabRa2 2000 106 [0, 1, 2, 3, 4, 5, 6, 7, 8, 9, 10, 18, 20, 36, 69] [] [] [.g [.int true .i64 x0_0, .int true .i64 x0_1, .int true .i64 x0_2, .int true .i64 x0_3, .int true .i64 x0_4, .int true .i64 x0_5], .g [.int true .i64 x1_0, .int true .i64 x1_1]] [] = some ([], LV.a (At.bool true (rCovers_0 x0_0 x0_1 x0_2 x0_3 x0_4 x0_5 x1_0 x1_1)), []) := by kernel_rfl
def rCovers_c : Con
  | [.g [.int true .i64 x0_0, .int true .i64 x0_1, .int true .i64 x0_2, .int true .i64 x0_3, .int true .i64 x0_4, .int true .i64 x0_5], .g [.int true .i64 x1_0, .int true .i64 x1_1]], [] => some ([], LV.a (At.bool true (rCovers_0 x0_0 x0_1 x0_2 x0_3 x0_4 x0_5 x1_0 x1_1)), [])
  | _, _ => none
theorem rCovers_ok : ConOK Try.prog 106 (normC rCovers_c) := normC_ok (by
  intro args bs obs lv out h ho φ vs w may ha hM
  unfold rCovers_c at h
  split at h
  · simp only [Option.some.injEq, Prod.mk.injEq] at h
    obtain ⟨rfl, rfl, rfl⟩ := h
    rename_i x0_0 x0_1 x0_2 x0_3 x0_4 x0_5 x1_0 x1_1
    exact evG_ok tabRa2_ok follows _ _ _ _ _ (rCovers_p x0_0 x0_1 x0_2 x0_3 x0_4 x0_5 x1_0 x1_1) ho φ vs w may ha hM
  · cases h)
theorem rCovers_en : Enters Try.prog 106 := fun args => by kernel_rfl
-- 1447 416 14 ms

/-! (azulejo/bin.Grid).Tiles -/
def bGTiles_0 (x0_0 x0_1 : Int) : Int := IntKind.wrap IntKind.i64 (bTiles_0 x0_0 * bTiles_0 x0_1)
theorem bGTiles_p (x0_0 x0_1 : Int) : evG Try.prog tabRa2 2000 29 [0, 1, 2] [] [] [.g [.int true .i64 x0_0, .int true .i64 x0_1]] [] = some ([], LV.a (At.int true IntKind.i64 (bGTiles_0 x0_0 x0_1)), []) := by kernel_rfl
def bGTiles_c : Con
  | [.g [.int true .i64 x0_0, .int true .i64 x0_1]], [] => some ([], LV.a (At.int true IntKind.i64 (bGTiles_0 x0_0 x0_1)), [])
  | _, _ => none
theorem bGTiles_ok : ConOK Try.prog 29 (normC bGTiles_c) := normC_ok (by
  intro args bs obs lv out h ho φ vs w may ha hM
  unfold bGTiles_c at h
  split at h
  · simp only [Option.some.injEq, Prod.mk.injEq] at h
    obtain ⟨rfl, rfl, rfl⟩ := h
    rename_i x0_0 x0_1
    exact evG_ok tabRa2_ok follows _ _ _ _ _ (bGTiles_p x0_0 x0_1) ho φ vs w may ha hM
  · cases h)
theorem bGTiles_en : Enters Try.prog 29 := fun args => by kernel_rfl
-- 99 2 2 ms

def tabRa3 : Tab := (111, normC eSide_c) :: (102, normC eOwns_c) :: (101, normC eBox_c) :: (106, normC rCovers_c) :: (29, normC bGTiles_c) :: tabRa2
theorem tabRa3_ok : TOK Try.prog tabRa3 := TOK.cons eSide_en eSide_ok (TOK.cons eOwns_en eOwns_ok (TOK.cons eBox_en eBox_ok (TOK.cons rCovers_en rCovers_ok (TOK.cons bGTiles_en bGTiles_ok (tabRa2_ok)))))

end Go.Proofs.Ytcdejlgophpdjaa
end

section
namespace Go.Proofs.Ytcdejlgophpdjaa
open Go Go.RowKit Go.Proofs.Ytcdejlgophpdjaa.V
set_option linter.unusedVariables false

/-! (azulejo/edge.Tri).Area -/
def tArea_0 (x0_0 x0_1 x0_2 x0_3 x0_4 x0_5 : Int) : Int := eSide_0 x0_0 x0_1 x0_2 x0_3 x0_4 x0_5
theorem tArea_p (x0_0 x0_1 x0_2 x0_3 x0_4 x0_5 : Int) : evG Try.prog tabRa3 2000 97 [0, 1, 2] [] [] [.g [.int true .i64 x0_0, .int true .i64 x0_1, .int true .i64 x0_2, .int true .i64 x0_3, .int true .i64 x0_4, .int true .i64 x0_5]] [] = some ([], LV.a (At.int true IntKind.i64 (tArea_0 x0_0 x0_1 x0_2 x0_3 x0_4 x0_5)), []) := by kernel_rfl
def tArea_c : Con
  | [.g [.int true .i64 x0_0, .int true .i64 x0_1, .int true .i64 x0_2, .int true .i64 x0_3, .int true .i64 x0_4, .int true .i64 x0_5]], [] => some ([], LV.a (At.int true IntKind.i64 (tArea_0 x0_0 x0_1 x0_2 x0_3 x0_4 x0_5)), [])
  | _, _ => none
theorem tArea_ok : ConOK Try.prog 97 (normC tArea_c) := normC_ok (by
  intro args bs obs lv out h ho φ vs w may ha hM
  unfold tArea_c at h
  split at h
  · simp only [Option.some.injEq, Prod.mk.injEq] at h
    obtain ⟨rfl, rfl, rfl⟩ := h
    rename_i x0_0 x0_1 x0_2 x0_3 x0_4 x0_5
    exact evG_ok tabRa3_ok follows _ _ _ _ _ (tArea_p x0_0 x0_1 x0_2 x0_3 x0_4 x0_5) ho φ vs w may ha hM
  · cases h)
theorem tArea_en : Enters Try.prog 97 := fun args => by kernel_rfl
-- 101 1 2 ms

/-! (azulejo/edge.Tri).Weights -/
def tWeights_0 (x0_2 x0_3 x0_4 x0_5 x1_0 x1_1 : Int) : Int := eSide_0 x0_2 x0_3 x0_4 x0_5 x1_0 x1_1
def tWeights_1 (x0_0 x0_1 x0_4 x0_5 x1_0 x1_1 : Int) : Int := eSide_0 x0_4 x0_5 x0_0 x0_1 x1_0 x1_1
def tWeights_2 (x0_0 x0_1 x0_2 x0_3 x1_0 x1_1 : Int) : Int := eSide_0 x0_0 x0_1 x0_2 x0_3 x1_0 x1_1
theorem tWeights_p (x0_0 x0_1 x0_2 x0_3 x0_4 x0_5 x1_0 x1_1 : Int) : evG Try.prog tabRa3 2000 52 [0, 1, 2, 3, 4] [] [] [.g [.int true .i64 x0_0, .int true .i64 x0_1, .int true .i64 x0_2, .int true .i64 x0_3, .int true .i64 x0_4, .int true .i64 x0_5], .g [.int true .i64 x1_0, .int true .i64 x1_1]] [] = some ([], LV.g [At.int true IntKind.i64 (tWeights_0 x0_2 x0_3 x0_4 x0_5 x1_0 x1_1), At.int true IntKind.i64 (tWeights_1 x0_0 x0_1 x0_4 x0_5 x1_0 x1_1), At.int true IntKind.i64 (tWeights_2 x0_0 x0_1 x0_2 x0_3 x1_0 x1_1)], []) := by kernel_rfl
def tWeights_c : Con
  | [.g [.int true .i64 x0_0, .int true .i64 x0_1, .int true .i64 x0_2, .int true .i64 x0_3, .int true .i64 x0_4, .int true .i64 x0_5], .g [.int true .i64 x1_0, .int true .i64 x1_1]], [] => some ([], LV.g [At.int true IntKind.i64 (tWeights_0 x0_2 x0_3 x0_4 x0_5 x1_0 x1_1), At.int true IntKind.i64 (tWeights_1 x0_0 x0_1 x0_4 x0_5 x1_0 x1_1), At.int true IntKind.i64 (tWeights_2 x0_0 x0_1 x0_2 x0_3 x1_0 x1_1)], [])
  | _, _ => none
theorem tWeights_ok : ConOK Try.prog 52 (normC tWeights_c) := normC_ok (by
  intro args bs obs lv out h ho φ vs w may ha hM
  unfold tWeights_c at h
  split at h
  · simp only [Option.some.injEq, Prod.mk.injEq] at h
    obtain ⟨rfl, rfl, rfl⟩ := h
    rename_i x0_0 x0_1 x0_2 x0_3 x0_4 x0_5 x1_0 x1_1
    exact evG_ok tabRa3_ok follows _ _ _ _ _ (tWeights_p x0_0 x0_1 x0_2 x0_3 x0_4 x0_5 x1_0 x1_1) ho φ vs w may ha hM
  · cases h)
theorem tWeights_en : Enters Try.prog 52 := fun args => by kernel_rfl
-- 295 2 4 ms

/-! azulejo/azulejoref12.At -/
def r12At_s0 (x1 : Int) : Int := IntKind.wrap IntKind.i64 (IntKind.wrap IntKind.i64 ((16 : Int) * x1) + (8 : Int))
def r12At_s1 (x2 : Int) : Int := IntKind.wrap IntKind.i64 (IntKind.wrap IntKind.i64 ((16 : Int) * x2) + (8 : Int))
def r12At_s2 (x0_0 x0_1 x0_2 x0_3 x0_4 x0_5 x1 x2 : Int) : Bool := !rCovers_0 x0_0 x0_1 x0_2 x0_3 x0_4 x0_5 (r12At_s0 x1) (r12At_s1 x2)
def r12At_0 (x0_0 x0_1 x0_2 x0_3 x0_4 x0_5 x0_6 x0_7 x0_8 x1 x2 : Int) : Int := bif r12At_s2 x0_0 x0_1 x0_2 x0_3 x0_4 x0_5 x1 x2 then (0 : Int) else IntKind.wrap IntKind.i64 (Int.tdiv (IntKind.wrap IntKind.i64 (IntKind.wrap IntKind.i64 (IntKind.wrap IntKind.i64 ((0 : Int) + IntKind.wrap IntKind.i64 (rSide_0 x0_2 x0_3 x0_4 x0_5 (r12At_s0 x1) (r12At_s1 x2) * x0_6)) + IntKind.wrap IntKind.i64 (rSide_0 x0_4 x0_5 x0_0 x0_1 (r12At_s0 x1) (r12At_s1 x2) * x0_7)) + IntKind.wrap IntKind.i64 (rSide_0 x0_0 x0_1 x0_2 x0_3 (r12At_s0 x1) (r12At_s1 x2) * x0_8))) (rSide_0 x0_0 x0_1 x0_2 x0_3 x0_4 x0_5))
def r12At_s3 (x0_2 x0_3 x0_4 x0_5 x0_9 x1 x2 : Int) : Int := IntKind.wrap IntKind.i64 (rSide_0 x0_2 x0_3 x0_4 x0_5 (r12At_s0 x1) (r12At_s1 x2) * x0_9)
def r12At_s4 (x0_0 x0_1 x0_4 x0_5 x0_10 x1 x2 : Int) : Int := IntKind.wrap IntKind.i64 (rSide_0 x0_4 x0_5 x0_0 x0_1 (r12At_s0 x1) (r12At_s1 x2) * x0_10)
def r12At_s5 (x0_0 x0_1 x0_2 x0_3 x0_11 x1 x2 : Int) : Int := IntKind.wrap IntKind.i64 (rSide_0 x0_0 x0_1 x0_2 x0_3 (r12At_s0 x1) (r12At_s1 x2) * x0_11)
def r12At_s6 (x0_0 x0_1 x0_2 x0_3 x0_4 x0_5 x0_9 x0_10 x0_11 x1 x2 : Int) : Int := IntKind.wrap IntKind.i64 (IntKind.wrap IntKind.i64 (IntKind.wrap IntKind.i64 ((0 : Int) + r12At_s3 x0_2 x0_3 x0_4 x0_5 x0_9 x1 x2) + r12At_s4 x0_0 x0_1 x0_4 x0_5 x0_10 x1 x2) + r12At_s5 x0_0 x0_1 x0_2 x0_3 x0_11 x1 x2)
def r12At_1 (x0_0 x0_1 x0_2 x0_3 x0_4 x0_5 x0_9 x0_10 x0_11 x0_12 x0_16 x0_20 x1 x2 : Int) : Int := bif r12At_s2 x0_0 x0_1 x0_2 x0_3 x0_4 x0_5 x1 x2 then (0 : Int) else IntKind.wrap IntKind.i64 (Int.tdiv (IntKind.wrap IntKind.i64 (IntKind.wrap IntKind.i64 (IntKind.wrap IntKind.i64 ((0 : Int) + IntKind.wrap IntKind.i64 (r12At_s3 x0_2 x0_3 x0_4 x0_5 x0_9 x1 x2 * x0_12)) + IntKind.wrap IntKind.i64 (r12At_s4 x0_0 x0_1 x0_4 x0_5 x0_10 x1 x2 * x0_16)) + IntKind.wrap IntKind.i64 (r12At_s5 x0_0 x0_1 x0_2 x0_3 x0_11 x1 x2 * x0_20))) (r12At_s6 x0_0 x0_1 x0_2 x0_3 x0_4 x0_5 x0_9 x0_10 x0_11 x1 x2))
def r12At_2 (x0_0 x0_1 x0_2 x0_3 x0_4 x0_5 x0_9 x0_10 x0_11 x0_13 x0_17 x0_21 x1 x2 : Int) : Int := bif r12At_s2 x0_0 x0_1 x0_2 x0_3 x0_4 x0_5 x1 x2 then (0 : Int) else IntKind.wrap IntKind.i64 (Int.tdiv (IntKind.wrap IntKind.i64 (IntKind.wrap IntKind.i64 (IntKind.wrap IntKind.i64 ((0 : Int) + IntKind.wrap IntKind.i64 (r12At_s3 x0_2 x0_3 x0_4 x0_5 x0_9 x1 x2 * x0_13)) + IntKind.wrap IntKind.i64 (r12At_s4 x0_0 x0_1 x0_4 x0_5 x0_10 x1 x2 * x0_17)) + IntKind.wrap IntKind.i64 (r12At_s5 x0_0 x0_1 x0_2 x0_3 x0_11 x1 x2 * x0_21))) (r12At_s6 x0_0 x0_1 x0_2 x0_3 x0_4 x0_5 x0_9 x0_10 x0_11 x1 x2))
def r12At_3 (x0_0 x0_1 x0_2 x0_3 x0_4 x0_5 x0_9 x0_10 x0_11 x0_14 x0_18 x0_22 x1 x2 : Int) : Int := bif r12At_s2 x0_0 x0_1 x0_2 x0_3 x0_4 x0_5 x1 x2 then (0 : Int) else IntKind.wrap IntKind.i64 (Int.tdiv (IntKind.wrap IntKind.i64 (IntKind.wrap IntKind.i64 (IntKind.wrap IntKind.i64 ((0 : Int) + IntKind.wrap IntKind.i64 (r12At_s3 x0_2 x0_3 x0_4 x0_5 x0_9 x1 x2 * x0_14)) + IntKind.wrap IntKind.i64 (r12At_s4 x0_0 x0_1 x0_4 x0_5 x0_10 x1 x2 * x0_18)) + IntKind.wrap IntKind.i64 (r12At_s5 x0_0 x0_1 x0_2 x0_3 x0_11 x1 x2 * x0_22))) (r12At_s6 x0_0 x0_1 x0_2 x0_3 x0_4 x0_5 x0_9 x0_10 x0_11 x1 x2))
def r12At_4 (x0_0 x0_1 x0_2 x0_3 x0_4 x0_5 x0_9 x0_10 x0_11 x0_15 x0_19 x0_23 x1 x2 : Int) : Int := bif r12At_s2 x0_0 x0_1 x0_2 x0_3 x0_4 x0_5 x1 x2 then (0 : Int) else IntKind.wrap IntKind.i64 (Int.tdiv (IntKind.wrap IntKind.i64 (IntKind.wrap IntKind.i64 (IntKind.wrap IntKind.i64 ((0 : Int) + IntKind.wrap IntKind.i64 (r12At_s3 x0_2 x0_3 x0_4 x0_5 x0_9 x1 x2 * x0_15)) + IntKind.wrap IntKind.i64 (r12At_s4 x0_0 x0_1 x0_4 x0_5 x0_10 x1 x2 * x0_19)) + IntKind.wrap IntKind.i64 (r12At_s5 x0_0 x0_1 x0_2 x0_3 x0_11 x1 x2 * x0_23))) (r12At_s6 x0_0 x0_1 x0_2 x0_3 x0_4 x0_5 x0_9 x0_10 x0_11 x1 x2))
def r12At_5 (x0_0 x0_1 x0_2 x0_3 x0_4 x0_5 x1 x2 : Int) : Bool := bif r12At_s2 x0_0 x0_1 x0_2 x0_3 x0_4 x0_5 x1 x2 then false else true
def r12At_o (x0_0 x0_1 x0_2 x0_3 x0_4 x0_5 x0_6 x0_7 x0_8 x0_9 x0_10 x0_11 x0_12 x0_13 x0_14 x0_15 x0_16 x0_17 x0_18 x0_19 x0_20 x0_21 x0_22 x0_23 x1 x2 : Int) : List Prop := [(!r12At_s2 x0_0 x0_1 x0_2 x0_3 x0_4 x0_5 x1 x2) = true → r12At_s6 x0_0 x0_1 x0_2 x0_3 x0_4 x0_5 x0_9 x0_10 x0_11 x1 x2 ≠ (0 : Int), (!r12At_s2 x0_0 x0_1 x0_2 x0_3 x0_4 x0_5 x1 x2) = true → r12At_s6 x0_0 x0_1 x0_2 x0_3 x0_4 x0_5 x0_9 x0_10 x0_11 x1 x2 ≠ (0 : Int), (!r12At_s2 x0_0 x0_1 x0_2 x0_3 x0_4 x0_5 x1 x2) = true → r12At_s6 x0_0 x0_1 x0_2 x0_3 x0_4 x0_5 x0_9 x0_10 x0_11 x1 x2 ≠ (0 : Int), (!r12At_s2 x0_0 x0_1 x0_2 x0_3 x0_4 x0_5 x1 x2) = true → r12At_s6 x0_0 x0_1 x0_2 x0_3 x0_4 x0_5 x0_9 x0_10 x0_11 x1 x2 ≠ (0 : Int), (!r12At_s2 x0_0 x0_1 x0_2 x0_3 x0_4 x0_5 x1 x2) = true → rSide_0 x0_0 x0_1 x0_2 x0_3 x0_4 x0_5 ≠ (0 : Int)]
theorem r12At_p (x0_0 x0_1 x0_2 x0_3 x0_4 x0_5 x0_6 x0_7 x0_8 x0_9 x0_10 x0_11 x0_12 x0_13 x0_14 x0_15 x0_16 x0_17 x0_18 x0_19 x0_20 x0_21 x0_22 x0_23 x1 x2 : Int) : evG Try.prog tabRa3 2000 46 [0, 1, 2, 3, 6, 7, 8, 9, 10, 11, 12, 13, 14, 15, 16, 28, 31, 65, 88] [] [] [.g [.int true .i64 x0_0, .int true .i64 x0_1, .int true .i64 x0_2, .int true .i64 x0_3, .int true .i64 x0_4, .int true .i64 x0_5, .int true .i64 x0_6, .int true .i64 x0_7, .int true .i64 x0_8, .int true .i64 x0_9, .int true .i64 x0_10, .int true .i64 x0_11, .int true .i64 x0_12, .int true .i64 x0_13, .int true .i64 x0_14, .int true .i64 x0_15, .int true .i64 x0_16, .int true .i64 x0_17, .int true .i64 x0_18, .int true .i64 x0_19, .int true .i64 x0_20, .int true .i64 x0_21, .int true .i64 x0_22, .int true .i64 x0_23], .a (.int true .i64 x1), .a (.int true .i64 x2)] [] = some (r12At_o x0_0 x0_1 x0_2 x0_3 x0_4 x0_5 x0_6 x0_7 x0_8 x0_9 x0_10 x0_11 x0_12 x0_13 x0_14 x0_15 x0_16 x0_17 x0_18 x0_19 x0_20 x0_21 x0_22 x0_23 x1 x2, LV.t [LV.a (At.int true IntKind.i64 (r12At_0 x0_0 x0_1 x0_2 x0_3 x0_4 x0_5 x0_6 x0_7 x0_8 x1 x2)), LV.g [At.int true IntKind.i64 (r12At_1 x0_0 x0_1 x0_2 x0_3 x0_4 x0_5 x0_9 x0_10 x0_11 x0_12 x0_16 x0_20 x1 x2), At.int true IntKind.i64 (r12At_2 x0_0 x0_1 x0_2 x0_3 x0_4 x0_5 x0_9 x0_10 x0_11 x0_13 x0_17 x0_21 x1 x2), At.int true IntKind.i64 (r12At_3 x0_0 x0_1 x0_2 x0_3 x0_4 x0_5 x0_9 x0_10 x0_11 x0_14 x0_18 x0_22 x1 x2), At.int true IntKind.i64 (r12At_4 x0_0 x0_1 x0_2 x0_3 x0_4 x0_5 x0_9 x0_10 x0_11 x0_15 x0_19 x0_23 x1 x2)], LV.a (At.bool true (r12At_5 x0_0 x0_1 x0_2 x0_3 x0_4 x0_5 x1 x2))], []) := by kernel_rfl
def r12At_c : Con
  | [.g [.int true .i64 x0_0, .int true .i64 x0_1, .int true .i64 x0_2, .int true .i64 x0_3, .int true .i64 x0_4, .int true .i64 x0_5, .int true .i64 x0_6, .int true .i64 x0_7, .int true .i64 x0_8, .int true .i64 x0_9, .int true .i64 x0_10, .int true .i64 x0_11, .int true .i64 x0_12, .int true .i64 x0_13, .int true .i64 x0_14, .int true .i64 x0_15, .int true .i64 x0_16, .int true .i64 x0_17, .int true .i64 x0_18, .int true .i64 x0_19, .int true .i64 x0_20, .int true .i64 x0_21, .int true .i64 x0_22, .int true .i64 x0_23], .a (.int true .i64 x1), .a (.int true .i64 x2)], [] => some (r12At_o x0_0 x0_1 x0_2 x0_3 x0_4 x0_5 x0_6 x0_7 x0_8 x0_9 x0_10 x0_11 x0_12 x0_13 x0_14 x0_15 x0_16 x0_17 x0_18 x0_19 x0_20 x0_21 x0_22 x0_23 x1 x2, LV.t [LV.a (At.int true IntKind.i64 (r12At_0 x0_0 x0_1 x0_2 x0_3 x0_4 x0_5 x0_6 x0_7 x0_8 x1 x2)), LV.g [At.int true IntKind.i64 (r12At_1 x0_0 x0_1 x0_2 x0_3 x0_4 x0_5 x0_9 x0_10 x0_11 x0_12 x0_16 x0_20 x1 x2), At.int true IntKind.i64 (r12At_2 x0_0 x0_1 x0_2 x0_3 x0_4 x0_5 x0_9 x0_10 x0_11 x0_13 x0_17 x0_21 x1 x2), At.int true IntKind.i64 (r12At_3 x0_0 x0_1 x0_2 x0_3 x0_4 x0_5 x0_9 x0_10 x0_11 x0_14 x0_18 x0_22 x1 x2), At.int true IntKind.i64 (r12At_4 x0_0 x0_1 x0_2 x0_3 x0_4 x0_5 x0_9 x0_10 x0_11 x0_15 x0_19 x0_23 x1 x2)], LV.a (At.bool true (r12At_5 x0_0 x0_1 x0_2 x0_3 x0_4 x0_5 x1 x2))], [])
  | _, _ => none
theorem r12At_ok : ConOK Try.prog 46 (normC r12At_c) := normC_ok (by
  intro args bs obs lv out h ho φ vs w may ha hM
  unfold r12At_c at h
  split at h
  · simp only [Option.some.injEq, Prod.mk.injEq] at h
    obtain ⟨rfl, rfl, rfl⟩ := h
    rename_i x0_0 x0_1 x0_2 x0_3 x0_4 x0_5 x0_6 x0_7 x0_8 x0_9 x0_10 x0_11 x0_12 x0_13 x0_14 x0_15 x0_16 x0_17 x0_18 x0_19 x0_20 x0_21 x0_22 x0_23 x1 x2
    exact evG_ok tabRa3_ok follows _ _ _ _ _ (r12At_p x0_0 x0_1 x0_2 x0_3 x0_4 x0_5 x0_6 x0_7 x0_8 x0_9 x0_10 x0_11 x0_12 x0_13 x0_14 x0_15 x0_16 x0_17 x0_18 x0_19 x0_20 x0_21 x0_22 x0_23 x1 x2) ho φ vs w may ha hM
  · cases h)
theorem r12At_en : Enters Try.prog 46 := fun args => by kernel_rfl
-- 2529 1308 32 ms

/-! (azulejo/bin.Grid).Box -/
def bBox_s0 (x0_0 x0_1 x1 : Int) : Bool := bif decide (x1 < (0 : Int)) then true else decide (bGTiles_0 x0_0 x0_1 ≤ x1)
def bBox_s1 (x0_0 x1 : Int) : Int := IntKind.wrap IntKind.i64 (Int.tmod x1 (bTiles_0 x0_0) * (8 : Int))
def bBox_0 (x0_0 x0_1 x1 : Int) : Int := bif bBox_s0 x0_0 x0_1 x1 then (0 : Int) else bBox_s1 x0_0 x1
def bBox_s2 (x0_0 x1 : Int) : Int := IntKind.wrap IntKind.i64 (IntKind.wrap IntKind.i64 (Int.tdiv x1 (bTiles_0 x0_0)) * (8 : Int))
def bBox_1 (x0_0 x0_1 x1 : Int) : Int := bif bBox_s0 x0_0 x0_1 x1 then (0 : Int) else bBox_s2 x0_0 x1
def bBox_s3 (x0_0 x1 : Int) : Int := IntKind.wrap IntKind.i64 (bBox_s1 x0_0 x1 + (8 : Int))
def bBox_2 (x0_0 x0_1 x1 : Int) : Int := bif bBox_s0 x0_0 x0_1 x1 then (0 : Int) else if x0_0 < bBox_s3 x0_0 x1 then x0_0 else bBox_s3 x0_0 x1
def bBox_s4 (x0_0 x1 : Int) : Int := IntKind.wrap IntKind.i64 (bBox_s2 x0_0 x1 + (8 : Int))
def bBox_3 (x0_0 x0_1 x1 : Int) : Int := bif bBox_s0 x0_0 x0_1 x1 then (0 : Int) else if x0_1 < bBox_s4 x0_0 x1 then x0_1 else bBox_s4 x0_0 x1
def bBox_o (x0_0 x0_1 x1 : Int) : List Prop := [(!bBox_s0 x0_0 x0_1 x1) = true → bTiles_0 x0_0 ≠ (0 : Int), (!bBox_s0 x0_0 x0_1 x1) = true → bTiles_0 x0_0 ≠ (0 : Int)]
theorem bBox_p (x0_0 x0_1 x1 : Int) : evG Try.prog tabRa3 2000 31 [0, 1, 2, 4, 5, 6, 14] [] [] [.g [.int true .i64 x0_0, .int true .i64 x0_1], .a (.int true .i64 x1)] [] = some (bBox_o x0_0 x0_1 x1, LV.g [At.int true IntKind.i64 (bBox_0 x0_0 x0_1 x1), At.int true IntKind.i64 (bBox_1 x0_0 x0_1 x1), At.int true IntKind.i64 (bBox_2 x0_0 x0_1 x1), At.int true IntKind.i64 (bBox_3 x0_0 x0_1 x1)], []) := by kernel_rfl
def bBox_c : Con
  | [.g [.int true .i64 x0_0, .int true .i64 x0_1], .a (.int true .i64 x1)], [] => some (bBox_o x0_0 x0_1 x1, LV.g [At.int true IntKind.i64 (bBox_0 x0_0 x0_1 x1), At.int true IntKind.i64 (bBox_1 x0_0 x0_1 x1), At.int true IntKind.i64 (bBox_2 x0_0 x0_1 x1), At.int true IntKind.i64 (bBox_3 x0_0 x0_1 x1)], [])
  | _, _ => none
theorem bBox_ok : ConOK Try.prog 31 (normC bBox_c) := normC_ok (by
  intro args bs obs lv out h ho φ vs w may ha hM
  unfold bBox_c at h
  split at h
  · simp only [Option.some.injEq, Prod.mk.injEq] at h
    obtain ⟨rfl, rfl, rfl⟩ := h
    rename_i x0_0 x0_1 x1
    exact evG_ok tabRa3_ok follows _ _ _ _ _ (bBox_p x0_0 x0_1 x1) ho φ vs w may ha hM
  · cases h)
theorem bBox_en : Enters Try.prog 31 := fun args => by kernel_rfl
-- 303 93 13 ms

/-! azulejo/azulejolaw16.Awake -/
def aw16_0 : Bool := bGTiles_0 (9 : Int) (8 : Int) == (2 : Int)
theorem aw16_p  : evG Try.prog tabRa3 2000 26 [0] [] [] [] [] = some ([], LV.a (At.bool true aw16_0), []) := by kernel_rfl
def aw16_c : Con
  | [], [] => some ([], LV.a (At.bool true aw16_0), [])
  | _, _ => none
theorem aw16_ok : ConOK Try.prog 26 (normC aw16_c) := normC_ok (by
  intro args bs obs lv out h ho φ vs w may ha hM
  unfold aw16_c at h
  split at h
  · simp only [Option.some.injEq, Prod.mk.injEq] at h
    obtain ⟨rfl, rfl, rfl⟩ := h
    exact evG_ok tabRa3_ok follows _ _ _ _ _ (aw16_p ) ho φ vs w may ha hM
  · cases h)
theorem aw16_en : Enters Try.prog 26 := fun args => by kernel_rfl
-- 58 2 2 ms

/-! azulejo/bin.Pixels -/
def bPix_s0 : Int := (2 : Int) ^ min (Int.toNat (4 : Int)) (IntKind.bits IntKind.i64)
def bPix_0 (x0_0 x0_2 x0_4 : Int) : Int := Int.fdiv (IntKind.wrap IntKind.i64 (eBox_0 x0_0 x0_2 x0_4 + (7 : Int))) bPix_s0
def bPix_1 (x0_1 x0_3 x0_5 : Int) : Int := Int.fdiv (IntKind.wrap IntKind.i64 (eBox_1 x0_1 x0_3 x0_5 + (7 : Int))) bPix_s0
def bPix_2 (x0_0 x0_2 x0_4 : Int) : Int := IntKind.wrap IntKind.i64 (Int.fdiv (IntKind.wrap IntKind.i64 (eBox_2 x0_0 x0_2 x0_4 - (8 : Int))) bPix_s0 + (1 : Int))
def bPix_3 (x0_1 x0_3 x0_5 : Int) : Int := IntKind.wrap IntKind.i64 (Int.fdiv (IntKind.wrap IntKind.i64 (eBox_3 x0_1 x0_3 x0_5 - (8 : Int))) bPix_s0 + (1 : Int))
theorem bPix_p (x0_0 x0_1 x0_2 x0_3 x0_4 x0_5 : Int) : evG Try.prog tabRa3 2000 32 [0, 1, 2, 3, 4] [] [] [.g [.int true .i64 x0_0, .int true .i64 x0_1, .int true .i64 x0_2, .int true .i64 x0_3, .int true .i64 x0_4, .int true .i64 x0_5]] [] = some ([], LV.g [At.int true IntKind.i64 (bPix_0 x0_0 x0_2 x0_4), At.int true IntKind.i64 (bPix_1 x0_1 x0_3 x0_5), At.int true IntKind.i64 (bPix_2 x0_0 x0_2 x0_4), At.int true IntKind.i64 (bPix_3 x0_1 x0_3 x0_5)], []) := by kernel_rfl
def bPix_c : Con
  | [.g [.int true .i64 x0_0, .int true .i64 x0_1, .int true .i64 x0_2, .int true .i64 x0_3, .int true .i64 x0_4, .int true .i64 x0_5]], [] => some ([], LV.g [At.int true IntKind.i64 (bPix_0 x0_0 x0_2 x0_4), At.int true IntKind.i64 (bPix_1 x0_1 x0_3 x0_5), At.int true IntKind.i64 (bPix_2 x0_0 x0_2 x0_4), At.int true IntKind.i64 (bPix_3 x0_1 x0_3 x0_5)], [])
  | _, _ => none
theorem bPix_ok : ConOK Try.prog 32 (normC bPix_c) := normC_ok (by
  intro args bs obs lv out h ho φ vs w may ha hM
  unfold bPix_c at h
  split at h
  · simp only [Option.some.injEq, Prod.mk.injEq] at h
    obtain ⟨rfl, rfl, rfl⟩ := h
    rename_i x0_0 x0_1 x0_2 x0_3 x0_4 x0_5
    exact evG_ok tabRa3_ok follows _ _ _ _ _ (bPix_p x0_0 x0_1 x0_2 x0_3 x0_4 x0_5) ho φ vs w may ha hM
  · cases h)
theorem bPix_en : Enters Try.prog 32 := fun args => by kernel_rfl
-- 225 6 13 ms

/-! azulejo/bin.outside -/
def bOut_s0 (x1_2 : Int) : Int := sMiddle_0 (IntKind.wrap IntKind.i64 (x1_2 - (1 : Int)))
def bOut_s1 (x1_3 : Int) : Int := sMiddle_1 (IntKind.wrap IntKind.i64 (x1_3 - (1 : Int)))
def bOut_s2 (x0_0 x0_1 x0_2 x0_3 x1_0 x1_1 x1_2 x1_3 : Int) : Bool := bif bif bif decide (eSide_0 x0_0 x0_1 x0_2 x0_3 (sMiddle_0 x1_0) (sMiddle_1 x1_1) < (0 : Int)) then decide (eSide_0 x0_0 x0_1 x0_2 x0_3 (bOut_s0 x1_2) (sMiddle_1 x1_1) < (0 : Int)) else false then decide (eSide_0 x0_0 x0_1 x0_2 x0_3 (sMiddle_0 x1_0) (bOut_s1 x1_3) < (0 : Int)) else false then decide (eSide_0 x0_0 x0_1 x0_2 x0_3 (bOut_s0 x1_2) (bOut_s1 x1_3) < (0 : Int)) else false
def bOut_s3 (x0_2 x0_3 x0_4 x0_5 x1_0 x1_1 x1_2 x1_3 : Int) : Bool := bif bif bif decide (eSide_0 x0_2 x0_3 x0_4 x0_5 (sMiddle_0 x1_0) (sMiddle_1 x1_1) < (0 : Int)) then decide (eSide_0 x0_2 x0_3 x0_4 x0_5 (bOut_s0 x1_2) (sMiddle_1 x1_1) < (0 : Int)) else false then decide (eSide_0 x0_2 x0_3 x0_4 x0_5 (sMiddle_0 x1_0) (bOut_s1 x1_3) < (0 : Int)) else false then decide (eSide_0 x0_2 x0_3 x0_4 x0_5 (bOut_s0 x1_2) (bOut_s1 x1_3) < (0 : Int)) else false
def bOut_0 (x0_0 x0_1 x0_2 x0_3 x0_4 x0_5 x1_0 x1_1 x1_2 x1_3 : Int) : Bool := bif bOut_s2 x0_0 x0_1 x0_2 x0_3 x1_0 x1_1 x1_2 x1_3 || !bOut_s2 x0_0 x0_1 x0_2 x0_3 x1_0 x1_1 x1_2 x1_3 && (bOut_s3 x0_2 x0_3 x0_4 x0_5 x1_0 x1_1 x1_2 x1_3 || !bOut_s3 x0_2 x0_3 x0_4 x0_5 x1_0 x1_1 x1_2 x1_3 && bif bif bif decide (eSide_0 x0_4 x0_5 x0_0 x0_1 (sMiddle_0 x1_0) (sMiddle_1 x1_1) < (0 : Int)) then decide (eSide_0 x0_4 x0_5 x0_0 x0_1 (bOut_s0 x1_2) (sMiddle_1 x1_1) < (0 : Int)) else false then decide (eSide_0 x0_4 x0_5 x0_0 x0_1 (sMiddle_0 x1_0) (bOut_s1 x1_3) < (0 : Int)) else false then decide (eSide_0 x0_4 x0_5 x0_0 x0_1 (bOut_s0 x1_2) (bOut_s1 x1_3) < (0 : Int)) else false) then true else false
theorem bOut_p (x0_0 x0_1 x0_2 x0_3 x0_4 x0_5 x1_0 x1_1 x1_2 x1_3 : Int) : evG Try.prog tabRa3 2000 99 [0, 1, 2, 3, 4, 5, 6, 8, 9, 10, 36, 37, 38, 39, 57] [] [] [.g [.int true .i64 x0_0, .int true .i64 x0_1, .int true .i64 x0_2, .int true .i64 x0_3, .int true .i64 x0_4, .int true .i64 x0_5], .g [.int true .i64 x1_0, .int true .i64 x1_1, .int true .i64 x1_2, .int true .i64 x1_3]] [] = some ([], LV.a (At.bool true (bOut_0 x0_0 x0_1 x0_2 x0_3 x0_4 x0_5 x1_0 x1_1 x1_2 x1_3)), []) := by kernel_rfl
def bOut_c : Con
  | [.g [.int true .i64 x0_0, .int true .i64 x0_1, .int true .i64 x0_2, .int true .i64 x0_3, .int true .i64 x0_4, .int true .i64 x0_5], .g [.int true .i64 x1_0, .int true .i64 x1_1, .int true .i64 x1_2, .int true .i64 x1_3]], [] => some ([], LV.a (At.bool true (bOut_0 x0_0 x0_1 x0_2 x0_3 x0_4 x0_5 x1_0 x1_1 x1_2 x1_3)), [])
  | _, _ => none
theorem bOut_ok : ConOK Try.prog 99 (normC bOut_c) := normC_ok (by
  intro args bs obs lv out h ho φ vs w may ha hM
  unfold bOut_c at h
  split at h
  · simp only [Option.some.injEq, Prod.mk.injEq] at h
    obtain ⟨rfl, rfl, rfl⟩ := h
    rename_i x0_0 x0_1 x0_2 x0_3 x0_4 x0_5 x1_0 x1_1 x1_2 x1_3
    exact evG_ok tabRa3_ok follows _ _ _ _ _ (bOut_p x0_0 x0_1 x0_2 x0_3 x0_4 x0_5 x1_0 x1_1 x1_2 x1_3) ho φ vs w may ha hM
  · cases h)
theorem bOut_en : Enters Try.prog 99 := fun args => by kernel_rfl
-- 2907 414 13 ms

def tabRa4 : Tab := (97, normC tArea_c) :: (52, normC tWeights_c) :: (46, normC r12At_c) :: (31, normC bBox_c) :: (26, normC aw16_c) :: (32, normC bPix_c) :: (99, normC bOut_c) :: tabRa3
theorem tabRa4_ok : TOK Try.prog tabRa4 := TOK.cons tArea_en tArea_ok (TOK.cons tWeights_en tWeights_ok (TOK.cons r12At_en r12At_ok (TOK.cons bBox_en bBox_ok (TOK.cons aw16_en aw16_ok (TOK.cons bPix_en bPix_ok (TOK.cons bOut_en bOut_ok (tabRa3_ok)))))))

end Go.Proofs.Ytcdejlgophpdjaa
end

section
namespace Go.Proofs.Ytcdejlgophpdjaa
open Go Go.RowKit Go.Proofs.Ytcdejlgophpdjaa.V
set_option linter.unusedVariables false

/-! (azulejo/edge.Tri).Covers -/
def tCovers_s0 (x0_2 x0_3 x0_4 x0_5 x1_0 x1_1 : Int) : Bool := bif decide (tWeights_0 x0_2 x0_3 x0_4 x0_5 x1_0 x1_1 < (0 : Int)) then true else bif tWeights_0 x0_2 x0_3 x0_4 x0_5 x1_0 x1_1 == (0 : Int) then !eOwns_0 x0_2 x0_3 x0_4 x0_5 else false
def tCovers_s1 (x0_0 x0_1 x0_4 x0_5 x1_0 x1_1 : Int) : Bool := bif decide (tWeights_1 x0_0 x0_1 x0_4 x0_5 x1_0 x1_1 < (0 : Int)) then true else bif tWeights_1 x0_0 x0_1 x0_4 x0_5 x1_0 x1_1 == (0 : Int) then !eOwns_0 x0_4 x0_5 x0_0 x0_1 else false
def tCovers_0 (x0_0 x0_1 x0_2 x0_3 x0_4 x0_5 x1_0 x1_1 : Int) : Bool := bif decide (tArea_0 x0_0 x0_1 x0_2 x0_3 x0_4 x0_5 ≤ (0 : Int)) then false else bif tCovers_s0 x0_2 x0_3 x0_4 x0_5 x1_0 x1_1 || !tCovers_s0 x0_2 x0_3 x0_4 x0_5 x1_0 x1_1 && (tCovers_s1 x0_0 x0_1 x0_4 x0_5 x1_0 x1_1 || !tCovers_s1 x0_0 x0_1 x0_4 x0_5 x1_0 x1_1 && bif decide (tWeights_2 x0_0 x0_1 x0_2 x0_3 x1_0 x1_1 < (0 : Int)) then true else bif tWeights_2 x0_0 x0_1 x0_2 x0_3 x1_0 x1_1 == (0 : Int) then !eOwns_0 x0_0 x0_1 x0_2 x0_3 else false) then false else true
theorem tCovers_p (x0_0 x0_1 x0_2 x0_3 x0_4 x0_5 x1_0 x1_1 : Int) : evG Try.prog tabRa4 2000 34 [0, 1, 2, 3, 4, 5, 6, 9, 12, 13, 14, 36] [] [] [.g [.int true .i64 x0_0, .int true .i64 x0_1, .int true .i64 x0_2, .int true .i64 x0_3, .int true .i64 x0_4, .int true .i64 x0_5], .g [.int true .i64 x1_0, .int true .i64 x1_1]] [] = some ([], LV.a (At.bool true (tCovers_0 x0_0 x0_1 x0_2 x0_3 x0_4 x0_5 x1_0 x1_1)), []) := by kernel_rfl
def tCovers_c : Con
  | [.g [.int true .i64 x0_0, .int true .i64 x0_1, .int true .i64 x0_2, .int true .i64 x0_3, .int true .i64 x0_4, .int true .i64 x0_5], .g [.int true .i64 x1_0, .int true .i64 x1_1]], [] => some ([], LV.a (At.bool true (tCovers_0 x0_0 x0_1 x0_2 x0_3 x0_4 x0_5 x1_0 x1_1)), [])
  | _, _ => none
theorem tCovers_ok : ConOK Try.prog 34 (normC tCovers_c) := normC_ok (by
  intro args bs obs lv out h ho φ vs w may ha hM
  unfold tCovers_c at h
  split at h
  · simp only [Option.some.injEq, Prod.mk.injEq] at h
    obtain ⟨rfl, rfl, rfl⟩ := h
    rename_i x0_0 x0_1 x0_2 x0_3 x0_4 x0_5 x1_0 x1_1
    exact evG_ok tabRa4_ok follows _ _ _ _ _ (tCovers_p x0_0 x0_1 x0_2 x0_3 x0_4 x0_5 x1_0 x1_1) ho φ vs w may ha hM
  · cases h)
theorem tCovers_en : Enters Try.prog 34 := fun args => by kernel_rfl
-- 1107 170 10 ms

/-! (azulejo/setup.Tri).Check -/
def sCheck_s0 (x0_0 x0_1 x0_6 x0_9 x0_12 x0_13 x0_14 x0_15 : Int) : Bool := bif x0_0 != fWithin_0 x0_0 (16384 : Int) then true else bif x0_1 != fWithin_0 x0_1 (16384 : Int) then true else bif decide (x0_6 < (0 : Int)) then true else bif decide ((65535 : Int) < x0_6) then true else bif decide (x0_9 < (1 : Int)) then true else bif decide ((1024 : Int) < x0_9) then true else !(x0_12 == vmColour_0 x0_12 && (x0_13 == vmColour_1 x0_13 && (x0_14 == vmColour_2 x0_14 && x0_15 == vmColour_3 x0_15)))
def sCheck_s1 (x0_2 x0_3 x0_7 x0_10 x0_16 x0_17 x0_18 x0_19 : Int) : Bool := bif x0_2 != fWithin_0 x0_2 (16384 : Int) then true else bif x0_3 != fWithin_0 x0_3 (16384 : Int) then true else bif decide (x0_7 < (0 : Int)) then true else bif decide ((65535 : Int) < x0_7) then true else bif decide (x0_10 < (1 : Int)) then true else bif decide ((1024 : Int) < x0_10) then true else !(x0_16 == vmColour_0 x0_16 && (x0_17 == vmColour_1 x0_17 && (x0_18 == vmColour_2 x0_18 && x0_19 == vmColour_3 x0_19)))
def sCheck_0 (x0_0 x0_1 x0_2 x0_3 x0_4 x0_5 x0_6 x0_7 x0_8 x0_9 x0_10 x0_11 x0_12 x0_13 x0_14 x0_15 x0_16 x0_17 x0_18 x0_19 x0_20 x0_21 x0_22 x0_23 : Int) : Int := bif sCheck_s0 x0_0 x0_1 x0_6 x0_9 x0_12 x0_13 x0_14 x0_15 || !sCheck_s0 x0_0 x0_1 x0_6 x0_9 x0_12 x0_13 x0_14 x0_15 && (sCheck_s1 x0_2 x0_3 x0_7 x0_10 x0_16 x0_17 x0_18 x0_19 || !sCheck_s1 x0_2 x0_3 x0_7 x0_10 x0_16 x0_17 x0_18 x0_19 && bif x0_4 != fWithin_0 x0_4 (16384 : Int) then true else bif x0_5 != fWithin_0 x0_5 (16384 : Int) then true else bif decide (x0_8 < (0 : Int)) then true else bif decide ((65535 : Int) < x0_8) then true else bif decide (x0_11 < (1 : Int)) then true else bif decide ((1024 : Int) < x0_11) then true else !(x0_20 == vmColour_0 x0_20 && (x0_21 == vmColour_1 x0_21 && (x0_22 == vmColour_2 x0_22 && x0_23 == vmColour_3 x0_23)))) then (2 : Int) else bif decide (tArea_0 x0_0 x0_1 x0_2 x0_3 x0_4 x0_5 ≤ (0 : Int)) then (4 : Int) else (0 : Int)
theorem sCheck_p (x0_0 x0_1 x0_2 x0_3 x0_4 x0_5 x0_6 x0_7 x0_8 x0_9 x0_10 x0_11 x0_12 x0_13 x0_14 x0_15 x0_16 x0_17 x0_18 x0_19 x0_20 x0_21 x0_22 x0_23 : Int) : evG Try.prog tabRa4 2000 50 [0, 1, 2, 3, 4, 5, 6, 65, 70] [] [] [.g [.int true .i64 x0_0, .int true .i64 x0_1, .int true .i64 x0_2, .int true .i64 x0_3, .int true .i64 x0_4, .int true .i64 x0_5, .int true .i64 x0_6, .int true .i64 x0_7, .int true .i64 x0_8, .int true .i64 x0_9, .int true .i64 x0_10, .int true .i64 x0_11, .int true .i64 x0_12, .int true .i64 x0_13, .int true .i64 x0_14, .int true .i64 x0_15, .int true .i64 x0_16, .int true .i64 x0_17, .int true .i64 x0_18, .int true .i64 x0_19, .int true .i64 x0_20, .int true .i64 x0_21, .int true .i64 x0_22, .int true .i64 x0_23]] [] = some ([], LV.a (At.int true IntKind.i64 (sCheck_0 x0_0 x0_1 x0_2 x0_3 x0_4 x0_5 x0_6 x0_7 x0_8 x0_9 x0_10 x0_11 x0_12 x0_13 x0_14 x0_15 x0_16 x0_17 x0_18 x0_19 x0_20 x0_21 x0_22 x0_23)), []) := by kernel_rfl
def sCheck_c : Con
  | [.g [.int true .i64 x0_0, .int true .i64 x0_1, .int true .i64 x0_2, .int true .i64 x0_3, .int true .i64 x0_4, .int true .i64 x0_5, .int true .i64 x0_6, .int true .i64 x0_7, .int true .i64 x0_8, .int true .i64 x0_9, .int true .i64 x0_10, .int true .i64 x0_11, .int true .i64 x0_12, .int true .i64 x0_13, .int true .i64 x0_14, .int true .i64 x0_15, .int true .i64 x0_16, .int true .i64 x0_17, .int true .i64 x0_18, .int true .i64 x0_19, .int true .i64 x0_20, .int true .i64 x0_21, .int true .i64 x0_22, .int true .i64 x0_23]], [] => some ([], LV.a (At.int true IntKind.i64 (sCheck_0 x0_0 x0_1 x0_2 x0_3 x0_4 x0_5 x0_6 x0_7 x0_8 x0_9 x0_10 x0_11 x0_12 x0_13 x0_14 x0_15 x0_16 x0_17 x0_18 x0_19 x0_20 x0_21 x0_22 x0_23)), [])
  | _, _ => none
theorem sCheck_ok : ConOK Try.prog 50 (normC sCheck_c) := normC_ok (by
  intro args bs obs lv out h ho φ vs w may ha hM
  unfold sCheck_c at h
  split at h
  · simp only [Option.some.injEq, Prod.mk.injEq] at h
    obtain ⟨rfl, rfl, rfl⟩ := h
    rename_i x0_0 x0_1 x0_2 x0_3 x0_4 x0_5 x0_6 x0_7 x0_8 x0_9 x0_10 x0_11 x0_12 x0_13 x0_14 x0_15 x0_16 x0_17 x0_18 x0_19 x0_20 x0_21 x0_22 x0_23
    exact evG_ok tabRa4_ok follows _ _ _ _ _ (sCheck_p x0_0 x0_1 x0_2 x0_3 x0_4 x0_5 x0_6 x0_7 x0_8 x0_9 x0_10 x0_11 x0_12 x0_13 x0_14 x0_15 x0_16 x0_17 x0_18 x0_19 x0_20 x0_21 x0_22 x0_23) ho φ vs w may ha hM
  · cases h)
theorem sCheck_en : Enters Try.prog 50 := fun args => by kernel_rfl
-- 4495 281 15 ms

/-! (azulejo/azulejolaw13.Small).Tri -/
def sm13Tri_s0 (x0_24 : Int) : Int := IntKind.wrap IntKind.i64 ((1 : Int) + IntKind.wrap IntKind.i64 (Int.tmod x0_24 (4 : Int)))
def sm13Tri_s1 (x0_0 x0_24 : Int) : Int := IntKind.wrap IntKind.i64 (IntKind.wrap IntKind.i64 (IntKind.wrap IntKind.i64 x0_0 * sm13Tri_s0 x0_24) + (100 : Int))
def sm13Tri_s2 (x0_1 x0_24 : Int) : Int := IntKind.wrap IntKind.i64 (IntKind.wrap IntKind.i64 (IntKind.wrap IntKind.i64 x0_1 * sm13Tri_s0 x0_24) + (100 : Int))
def sm13Tri_s3 (x0_2 x0_24 : Int) : Int := IntKind.wrap IntKind.i64 (IntKind.wrap IntKind.i64 (IntKind.wrap IntKind.i64 x0_2 * sm13Tri_s0 x0_24) + (100 : Int))
def sm13Tri_s4 (x0_3 x0_24 : Int) : Int := IntKind.wrap IntKind.i64 (IntKind.wrap IntKind.i64 (IntKind.wrap IntKind.i64 x0_3 * sm13Tri_s0 x0_24) + (100 : Int))
def sm13Tri_s5 (x0_4 x0_24 : Int) : Int := IntKind.wrap IntKind.i64 (IntKind.wrap IntKind.i64 (IntKind.wrap IntKind.i64 x0_4 * sm13Tri_s0 x0_24) + (100 : Int))
def sm13Tri_s6 (x0_5 x0_24 : Int) : Int := IntKind.wrap IntKind.i64 (IntKind.wrap IntKind.i64 (IntKind.wrap IntKind.i64 x0_5 * sm13Tri_s0 x0_24) + (100 : Int))
def sm13Tri_s7 (x0_0 x0_1 x0_2 x0_3 x0_4 x0_5 x0_24 : Int) : Int := tArea_0 (sm13Tri_s1 x0_0 x0_24) (sm13Tri_s2 x0_1 x0_24) (sm13Tri_s3 x0_2 x0_24) (sm13Tri_s4 x0_3 x0_24) (sm13Tri_s5 x0_4 x0_24) (sm13Tri_s6 x0_5 x0_24)
def sm13Tri_s8 (x0_0 x0_1 x0_2 x0_3 x0_4 x0_5 x0_24 : Int) : Bool := decide (sm13Tri_s7 x0_0 x0_1 x0_2 x0_3 x0_4 x0_5 x0_24 < (0 : Int))
def sm13Tri_s9 (x0_0 x0_1 x0_2 x0_3 x0_4 x0_5 x0_24 : Int) : Int := bif sm13Tri_s8 x0_0 x0_1 x0_2 x0_3 x0_4 x0_5 x0_24 then sm13Tri_s1 x0_0 x0_24 else sm13Tri_s1 x0_0 x0_24
def sm13Tri_0 (x0_0 x0_1 x0_2 x0_3 x0_4 x0_5 x0_24 : Int) : Int := sm13Tri_s9 x0_0 x0_1 x0_2 x0_3 x0_4 x0_5 x0_24
def sm13Tri_s10 (x0_0 x0_1 x0_2 x0_3 x0_4 x0_5 x0_24 : Int) : Int := bif sm13Tri_s8 x0_0 x0_1 x0_2 x0_3 x0_4 x0_5 x0_24 then sm13Tri_s2 x0_1 x0_24 else sm13Tri_s2 x0_1 x0_24
def sm13Tri_1 (x0_0 x0_1 x0_2 x0_3 x0_4 x0_5 x0_24 : Int) : Int := sm13Tri_s10 x0_0 x0_1 x0_2 x0_3 x0_4 x0_5 x0_24
def sm13Tri_s11 (x0_0 x0_1 x0_2 x0_3 x0_4 x0_5 x0_24 : Int) : Int := bif sm13Tri_s8 x0_0 x0_1 x0_2 x0_3 x0_4 x0_5 x0_24 then sm13Tri_s5 x0_4 x0_24 else sm13Tri_s3 x0_2 x0_24
def sm13Tri_2 (x0_0 x0_1 x0_2 x0_3 x0_4 x0_5 x0_24 : Int) : Int := sm13Tri_s11 x0_0 x0_1 x0_2 x0_3 x0_4 x0_5 x0_24
def sm13Tri_s12 (x0_0 x0_1 x0_2 x0_3 x0_4 x0_5 x0_24 : Int) : Int := bif sm13Tri_s8 x0_0 x0_1 x0_2 x0_3 x0_4 x0_5 x0_24 then sm13Tri_s6 x0_5 x0_24 else sm13Tri_s4 x0_3 x0_24
def sm13Tri_3 (x0_0 x0_1 x0_2 x0_3 x0_4 x0_5 x0_24 : Int) : Int := sm13Tri_s12 x0_0 x0_1 x0_2 x0_3 x0_4 x0_5 x0_24
def sm13Tri_s13 (x0_0 x0_1 x0_2 x0_3 x0_4 x0_5 x0_24 : Int) : Int := bif sm13Tri_s8 x0_0 x0_1 x0_2 x0_3 x0_4 x0_5 x0_24 then sm13Tri_s3 x0_2 x0_24 else sm13Tri_s5 x0_4 x0_24
def sm13Tri_4 (x0_0 x0_1 x0_2 x0_3 x0_4 x0_5 x0_24 : Int) : Int := sm13Tri_s13 x0_0 x0_1 x0_2 x0_3 x0_4 x0_5 x0_24
def sm13Tri_s14 (x0_0 x0_1 x0_2 x0_3 x0_4 x0_5 x0_24 : Int) : Int := bif sm13Tri_s8 x0_0 x0_1 x0_2 x0_3 x0_4 x0_5 x0_24 then sm13Tri_s4 x0_3 x0_24 else sm13Tri_s6 x0_5 x0_24
def sm13Tri_5 (x0_0 x0_1 x0_2 x0_3 x0_4 x0_5 x0_24 : Int) : Int := sm13Tri_s14 x0_0 x0_1 x0_2 x0_3 x0_4 x0_5 x0_24
def sm13Tri_6 (x0_9 : Int) : Int := IntKind.wrap IntKind.i64 ((1 : Int) + IntKind.wrap IntKind.i64 (Int.tmod x0_9 (1024 : Int)))
def sm13Tri_7 (x0_10 : Int) : Int := IntKind.wrap IntKind.i64 ((1 : Int) + IntKind.wrap IntKind.i64 (Int.tmod x0_10 (1024 : Int)))
def sm13Tri_8 (x0_11 : Int) : Int := IntKind.wrap IntKind.i64 ((1 : Int) + IntKind.wrap IntKind.i64 (Int.tmod x0_11 (1024 : Int)))
def sm13Tri_s15 (x0_0 x0_1 x0_2 x0_3 x0_4 x0_5 x0_24 : Int) : Int := tArea_0 (sm13Tri_s9 x0_0 x0_1 x0_2 x0_3 x0_4 x0_5 x0_24) (sm13Tri_s10 x0_0 x0_1 x0_2 x0_3 x0_4 x0_5 x0_24) (sm13Tri_s11 x0_0 x0_1 x0_2 x0_3 x0_4 x0_5 x0_24) (sm13Tri_s12 x0_0 x0_1 x0_2 x0_3 x0_4 x0_5 x0_24) (sm13Tri_s13 x0_0 x0_1 x0_2 x0_3 x0_4 x0_5 x0_24) (sm13Tri_s14 x0_0 x0_1 x0_2 x0_3 x0_4 x0_5 x0_24)
def sm13Tri_9 (x0_0 x0_1 x0_2 x0_3 x0_4 x0_5 x0_24 : Int) : Bool := decide ((0 : Int) < sm13Tri_s15 x0_0 x0_1 x0_2 x0_3 x0_4 x0_5 x0_24)
theorem sm13Tri_p (x0_0 x0_1 x0_2 x0_3 x0_4 x0_5 x0_6 x0_7 x0_8 x0_9 x0_10 x0_11 x0_12 x0_13 x0_14 x0_15 x0_16 x0_17 x0_18 x0_19 x0_20 x0_21 x0_22 x0_23 x0_24 : Int) : evG Try.prog tabRa4 2000 27 [0, 1, 2, 3, 4, 5, 6, 7, 17, 18, 62, 63, 82] [] [] [.g [.int true .i8 x0_0, .int true .i8 x0_1, .int true .i8 x0_2, .int true .i8 x0_3, .int true .i8 x0_4, .int true .i8 x0_5, .int true .u16 x0_6, .int true .u16 x0_7, .int true .u16 x0_8, .int true .u16 x0_9, .int true .u16 x0_10, .int true .u16 x0_11, .int true .u16 x0_12, .int true .u16 x0_13, .int true .u16 x0_14, .int true .u16 x0_15, .int true .u16 x0_16, .int true .u16 x0_17, .int true .u16 x0_18, .int true .u16 x0_19, .int true .u16 x0_20, .int true .u16 x0_21, .int true .u16 x0_22, .int true .u16 x0_23, .int true .u8 x0_24]] [] = some ([], LV.t [LV.g [At.int true IntKind.i64 (sm13Tri_0 x0_0 x0_1 x0_2 x0_3 x0_4 x0_5 x0_24), At.int true IntKind.i64 (sm13Tri_1 x0_0 x0_1 x0_2 x0_3 x0_4 x0_5 x0_24), At.int true IntKind.i64 (sm13Tri_2 x0_0 x0_1 x0_2 x0_3 x0_4 x0_5 x0_24), At.int true IntKind.i64 (sm13Tri_3 x0_0 x0_1 x0_2 x0_3 x0_4 x0_5 x0_24), At.int true IntKind.i64 (sm13Tri_4 x0_0 x0_1 x0_2 x0_3 x0_4 x0_5 x0_24), At.int true IntKind.i64 (sm13Tri_5 x0_0 x0_1 x0_2 x0_3 x0_4 x0_5 x0_24), At.int true IntKind.i64 (IntKind.wrap IntKind.i64 x0_6), At.int true IntKind.i64 (IntKind.wrap IntKind.i64 x0_7), At.int true IntKind.i64 (IntKind.wrap IntKind.i64 x0_8), At.int true IntKind.i64 (sm13Tri_6 x0_9), At.int true IntKind.i64 (sm13Tri_7 x0_10), At.int true IntKind.i64 (sm13Tri_8 x0_11), At.int true IntKind.i64 (IntKind.wrap IntKind.i64 x0_12), At.int true IntKind.i64 (IntKind.wrap IntKind.i64 x0_13), At.int true IntKind.i64 (IntKind.wrap IntKind.i64 x0_14), At.int true IntKind.i64 (IntKind.wrap IntKind.i64 x0_15), At.int true IntKind.i64 (IntKind.wrap IntKind.i64 x0_16), At.int true IntKind.i64 (IntKind.wrap IntKind.i64 x0_17), At.int true IntKind.i64 (IntKind.wrap IntKind.i64 x0_18), At.int true IntKind.i64 (IntKind.wrap IntKind.i64 x0_19), At.int true IntKind.i64 (IntKind.wrap IntKind.i64 x0_20), At.int true IntKind.i64 (IntKind.wrap IntKind.i64 x0_21), At.int true IntKind.i64 (IntKind.wrap IntKind.i64 x0_22), At.int true IntKind.i64 (IntKind.wrap IntKind.i64 x0_23)], LV.a (At.bool true (sm13Tri_9 x0_0 x0_1 x0_2 x0_3 x0_4 x0_5 x0_24))], []) := by kernel_rfl
def sm13Tri_c : Con
  | [.g [.int true .i8 x0_0, .int true .i8 x0_1, .int true .i8 x0_2, .int true .i8 x0_3, .int true .i8 x0_4, .int true .i8 x0_5, .int true .u16 x0_6, .int true .u16 x0_7, .int true .u16 x0_8, .int true .u16 x0_9, .int true .u16 x0_10, .int true .u16 x0_11, .int true .u16 x0_12, .int true .u16 x0_13, .int true .u16 x0_14, .int true .u16 x0_15, .int true .u16 x0_16, .int true .u16 x0_17, .int true .u16 x0_18, .int true .u16 x0_19, .int true .u16 x0_20, .int true .u16 x0_21, .int true .u16 x0_22, .int true .u16 x0_23, .int true .u8 x0_24]], [] => some ([], LV.t [LV.g [At.int true IntKind.i64 (sm13Tri_0 x0_0 x0_1 x0_2 x0_3 x0_4 x0_5 x0_24), At.int true IntKind.i64 (sm13Tri_1 x0_0 x0_1 x0_2 x0_3 x0_4 x0_5 x0_24), At.int true IntKind.i64 (sm13Tri_2 x0_0 x0_1 x0_2 x0_3 x0_4 x0_5 x0_24), At.int true IntKind.i64 (sm13Tri_3 x0_0 x0_1 x0_2 x0_3 x0_4 x0_5 x0_24), At.int true IntKind.i64 (sm13Tri_4 x0_0 x0_1 x0_2 x0_3 x0_4 x0_5 x0_24), At.int true IntKind.i64 (sm13Tri_5 x0_0 x0_1 x0_2 x0_3 x0_4 x0_5 x0_24), At.int true IntKind.i64 (IntKind.wrap IntKind.i64 x0_6), At.int true IntKind.i64 (IntKind.wrap IntKind.i64 x0_7), At.int true IntKind.i64 (IntKind.wrap IntKind.i64 x0_8), At.int true IntKind.i64 (sm13Tri_6 x0_9), At.int true IntKind.i64 (sm13Tri_7 x0_10), At.int true IntKind.i64 (sm13Tri_8 x0_11), At.int true IntKind.i64 (IntKind.wrap IntKind.i64 x0_12), At.int true IntKind.i64 (IntKind.wrap IntKind.i64 x0_13), At.int true IntKind.i64 (IntKind.wrap IntKind.i64 x0_14), At.int true IntKind.i64 (IntKind.wrap IntKind.i64 x0_15), At.int true IntKind.i64 (IntKind.wrap IntKind.i64 x0_16), At.int true IntKind.i64 (IntKind.wrap IntKind.i64 x0_17), At.int true IntKind.i64 (IntKind.wrap IntKind.i64 x0_18), At.int true IntKind.i64 (IntKind.wrap IntKind.i64 x0_19), At.int true IntKind.i64 (IntKind.wrap IntKind.i64 x0_20), At.int true IntKind.i64 (IntKind.wrap IntKind.i64 x0_21), At.int true IntKind.i64 (IntKind.wrap IntKind.i64 x0_22), At.int true IntKind.i64 (IntKind.wrap IntKind.i64 x0_23)], LV.a (At.bool true (sm13Tri_9 x0_0 x0_1 x0_2 x0_3 x0_4 x0_5 x0_24))], [])
  | _, _ => none
theorem sm13Tri_ok : ConOK Try.prog 27 (normC sm13Tri_c) := normC_ok (by
  intro args bs obs lv out h ho φ vs w may ha hM
  unfold sm13Tri_c at h
  split at h
  · simp only [Option.some.injEq, Prod.mk.injEq] at h
    obtain ⟨rfl, rfl, rfl⟩ := h
    rename_i x0_0 x0_1 x0_2 x0_3 x0_4 x0_5 x0_6 x0_7 x0_8 x0_9 x0_10 x0_11 x0_12 x0_13 x0_14 x0_15 x0_16 x0_17 x0_18 x0_19 x0_20 x0_21 x0_22 x0_23 x0_24
    exact evG_ok tabRa4_ok follows _ _ _ _ _ (sm13Tri_p x0_0 x0_1 x0_2 x0_3 x0_4 x0_5 x0_6 x0_7 x0_8 x0_9 x0_10 x0_11 x0_12 x0_13 x0_14 x0_15 x0_16 x0_17 x0_18 x0_19 x0_20 x0_21 x0_22 x0_23 x0_24) ho φ vs w may ha hM
  · cases h)
theorem sm13Tri_en : Enters Try.prog 27 := fun args => by kernel_rfl
-- 2825 1183 30 ms

def tabRa5 : Tab := (34, normC tCovers_c) :: (50, normC sCheck_c) :: (27, normC sm13Tri_c) :: tabRa4
theorem tabRa5_ok : TOK Try.prog tabRa5 := TOK.cons tCovers_en tCovers_ok (TOK.cons sCheck_en sCheck_ok (TOK.cons sm13Tri_en sm13Tri_ok (tabRa4_ok)))

end Go.Proofs.Ytcdejlgophpdjaa
end

section
namespace Go.Proofs.Ytcdejlgophpdjaa
open Go Go.RowKit Go.Proofs.Ytcdejlgophpdjaa.V
set_option linter.unusedVariables false

/-! (azulejo/setup.Tri).At -/
def sAt_s0 (x0_0 x0_1 x0_2 x0_3 x0_4 x0_5 x0_6 x0_7 x0_8 x0_9 x0_10 x0_11 x0_12 x0_13 x0_14 x0_15 x0_16 x0_17 x0_18 x0_19 x0_20 x0_21 x0_22 x0_23 x1 x2 : Int) : Bool := bif sCheck_0 x0_0 x0_1 x0_2 x0_3 x0_4 x0_5 x0_6 x0_7 x0_8 x0_9 x0_10 x0_11 x0_12 x0_13 x0_14 x0_15 x0_16 x0_17 x0_18 x0_19 x0_20 x0_21 x0_22 x0_23 != (0 : Int) then true else !tCovers_0 x0_0 x0_1 x0_2 x0_3 x0_4 x0_5 (sMiddle_0 x1) (sMiddle_1 x2)
def sAt_0 (x0_0 x0_1 x0_2 x0_3 x0_4 x0_5 x0_6 x0_7 x0_8 x0_9 x0_10 x0_11 x0_12 x0_13 x0_14 x0_15 x0_16 x0_17 x0_18 x0_19 x0_20 x0_21 x0_22 x0_23 x1 x2 : Int) : Int := bif sAt_s0 x0_0 x0_1 x0_2 x0_3 x0_4 x0_5 x0_6 x0_7 x0_8 x0_9 x0_10 x0_11 x0_12 x0_13 x0_14 x0_15 x0_16 x0_17 x0_18 x0_19 x0_20 x0_21 x0_22 x0_23 x1 x2 then (0 : Int) else fFloor_0 (IntKind.wrap IntKind.i64 (IntKind.wrap IntKind.i64 (IntKind.wrap IntKind.i64 ((0 : Int) + IntKind.wrap IntKind.i64 (tWeights_0 x0_2 x0_3 x0_4 x0_5 (sMiddle_0 x1) (sMiddle_1 x2) * x0_6)) + IntKind.wrap IntKind.i64 (tWeights_1 x0_0 x0_1 x0_4 x0_5 (sMiddle_0 x1) (sMiddle_1 x2) * x0_7)) + IntKind.wrap IntKind.i64 (tWeights_2 x0_0 x0_1 x0_2 x0_3 (sMiddle_0 x1) (sMiddle_1 x2) * x0_8))) (tArea_0 x0_0 x0_1 x0_2 x0_3 x0_4 x0_5)
def sAt_s1 (x0_2 x0_3 x0_4 x0_5 x0_9 x1 x2 : Int) : Int := IntKind.wrap IntKind.i64 (tWeights_0 x0_2 x0_3 x0_4 x0_5 (sMiddle_0 x1) (sMiddle_1 x2) * x0_9)
def sAt_s2 (x0_0 x0_1 x0_4 x0_5 x0_10 x1 x2 : Int) : Int := IntKind.wrap IntKind.i64 (tWeights_1 x0_0 x0_1 x0_4 x0_5 (sMiddle_0 x1) (sMiddle_1 x2) * x0_10)
def sAt_s3 (x0_0 x0_1 x0_2 x0_3 x0_11 x1 x2 : Int) : Int := IntKind.wrap IntKind.i64 (tWeights_2 x0_0 x0_1 x0_2 x0_3 (sMiddle_0 x1) (sMiddle_1 x2) * x0_11)
def sAt_s4 (x0_0 x0_1 x0_2 x0_3 x0_4 x0_5 x0_9 x0_10 x0_11 x1 x2 : Int) : Int := IntKind.wrap IntKind.i64 (IntKind.wrap IntKind.i64 (IntKind.wrap IntKind.i64 ((0 : Int) + sAt_s1 x0_2 x0_3 x0_4 x0_5 x0_9 x1 x2) + sAt_s2 x0_0 x0_1 x0_4 x0_5 x0_10 x1 x2) + sAt_s3 x0_0 x0_1 x0_2 x0_3 x0_11 x1 x2)
def sAt_1 (x0_0 x0_1 x0_2 x0_3 x0_4 x0_5 x0_6 x0_7 x0_8 x0_9 x0_10 x0_11 x0_12 x0_13 x0_14 x0_15 x0_16 x0_17 x0_18 x0_19 x0_20 x0_21 x0_22 x0_23 x1 x2 : Int) : Int := bif sAt_s0 x0_0 x0_1 x0_2 x0_3 x0_4 x0_5 x0_6 x0_7 x0_8 x0_9 x0_10 x0_11 x0_12 x0_13 x0_14 x0_15 x0_16 x0_17 x0_18 x0_19 x0_20 x0_21 x0_22 x0_23 x1 x2 then (0 : Int) else fFloor_0 (IntKind.wrap IntKind.i64 (IntKind.wrap IntKind.i64 (IntKind.wrap IntKind.i64 ((0 : Int) + IntKind.wrap IntKind.i64 (sAt_s1 x0_2 x0_3 x0_4 x0_5 x0_9 x1 x2 * x0_12)) + IntKind.wrap IntKind.i64 (sAt_s2 x0_0 x0_1 x0_4 x0_5 x0_10 x1 x2 * x0_16)) + IntKind.wrap IntKind.i64 (sAt_s3 x0_0 x0_1 x0_2 x0_3 x0_11 x1 x2 * x0_20))) (sAt_s4 x0_0 x0_1 x0_2 x0_3 x0_4 x0_5 x0_9 x0_10 x0_11 x1 x2)
def sAt_2 (x0_0 x0_1 x0_2 x0_3 x0_4 x0_5 x0_6 x0_7 x0_8 x0_9 x0_10 x0_11 x0_12 x0_13 x0_14 x0_15 x0_16 x0_17 x0_18 x0_19 x0_20 x0_21 x0_22 x0_23 x1 x2 : Int) : Int := bif sAt_s0 x0_0 x0_1 x0_2 x0_3 x0_4 x0_5 x0_6 x0_7 x0_8 x0_9 x0_10 x0_11 x0_12 x0_13 x0_14 x0_15 x0_16 x0_17 x0_18 x0_19 x0_20 x0_21 x0_22 x0_23 x1 x2 then (0 : Int) else fFloor_0 (IntKind.wrap IntKind.i64 (IntKind.wrap IntKind.i64 (IntKind.wrap IntKind.i64 ((0 : Int) + IntKind.wrap IntKind.i64 (sAt_s1 x0_2 x0_3 x0_4 x0_5 x0_9 x1 x2 * x0_13)) + IntKind.wrap IntKind.i64 (sAt_s2 x0_0 x0_1 x0_4 x0_5 x0_10 x1 x2 * x0_17)) + IntKind.wrap IntKind.i64 (sAt_s3 x0_0 x0_1 x0_2 x0_3 x0_11 x1 x2 * x0_21))) (sAt_s4 x0_0 x0_1 x0_2 x0_3 x0_4 x0_5 x0_9 x0_10 x0_11 x1 x2)
def sAt_3 (x0_0 x0_1 x0_2 x0_3 x0_4 x0_5 x0_6 x0_7 x0_8 x0_9 x0_10 x0_11 x0_12 x0_13 x0_14 x0_15 x0_16 x0_17 x0_18 x0_19 x0_20 x0_21 x0_22 x0_23 x1 x2 : Int) : Int := bif sAt_s0 x0_0 x0_1 x0_2 x0_3 x0_4 x0_5 x0_6 x0_7 x0_8 x0_9 x0_10 x0_11 x0_12 x0_13 x0_14 x0_15 x0_16 x0_17 x0_18 x0_19 x0_20 x0_21 x0_22 x0_23 x1 x2 then (0 : Int) else fFloor_0 (IntKind.wrap IntKind.i64 (IntKind.wrap IntKind.i64 (IntKind.wrap IntKind.i64 ((0 : Int) + IntKind.wrap IntKind.i64 (sAt_s1 x0_2 x0_3 x0_4 x0_5 x0_9 x1 x2 * x0_14)) + IntKind.wrap IntKind.i64 (sAt_s2 x0_0 x0_1 x0_4 x0_5 x0_10 x1 x2 * x0_18)) + IntKind.wrap IntKind.i64 (sAt_s3 x0_0 x0_1 x0_2 x0_3 x0_11 x1 x2 * x0_22))) (sAt_s4 x0_0 x0_1 x0_2 x0_3 x0_4 x0_5 x0_9 x0_10 x0_11 x1 x2)
def sAt_4 (x0_0 x0_1 x0_2 x0_3 x0_4 x0_5 x0_6 x0_7 x0_8 x0_9 x0_10 x0_11 x0_12 x0_13 x0_14 x0_15 x0_16 x0_17 x0_18 x0_19 x0_20 x0_21 x0_22 x0_23 x1 x2 : Int) : Int := bif sAt_s0 x0_0 x0_1 x0_2 x0_3 x0_4 x0_5 x0_6 x0_7 x0_8 x0_9 x0_10 x0_11 x0_12 x0_13 x0_14 x0_15 x0_16 x0_17 x0_18 x0_19 x0_20 x0_21 x0_22 x0_23 x1 x2 then (0 : Int) else fFloor_0 (IntKind.wrap IntKind.i64 (IntKind.wrap IntKind.i64 (IntKind.wrap IntKind.i64 ((0 : Int) + IntKind.wrap IntKind.i64 (sAt_s1 x0_2 x0_3 x0_4 x0_5 x0_9 x1 x2 * x0_15)) + IntKind.wrap IntKind.i64 (sAt_s2 x0_0 x0_1 x0_4 x0_5 x0_10 x1 x2 * x0_19)) + IntKind.wrap IntKind.i64 (sAt_s3 x0_0 x0_1 x0_2 x0_3 x0_11 x1 x2 * x0_23))) (sAt_s4 x0_0 x0_1 x0_2 x0_3 x0_4 x0_5 x0_9 x0_10 x0_11 x1 x2)
def sAt_5 (x0_0 x0_1 x0_2 x0_3 x0_4 x0_5 x0_6 x0_7 x0_8 x0_9 x0_10 x0_11 x0_12 x0_13 x0_14 x0_15 x0_16 x0_17 x0_18 x0_19 x0_20 x0_21 x0_22 x0_23 x1 x2 : Int) : Bool := bif sAt_s0 x0_0 x0_1 x0_2 x0_3 x0_4 x0_5 x0_6 x0_7 x0_8 x0_9 x0_10 x0_11 x0_12 x0_13 x0_14 x0_15 x0_16 x0_17 x0_18 x0_19 x0_20 x0_21 x0_22 x0_23 x1 x2 then false else true
def sAt_o (x0_0 x0_1 x0_2 x0_3 x0_4 x0_5 x0_6 x0_7 x0_8 x0_9 x0_10 x0_11 x0_12 x0_13 x0_14 x0_15 x0_16 x0_17 x0_18 x0_19 x0_20 x0_21 x0_22 x0_23 x1 x2 : Int) : List Prop := [(!sAt_s0 x0_0 x0_1 x0_2 x0_3 x0_4 x0_5 x0_6 x0_7 x0_8 x0_9 x0_10 x0_11 x0_12 x0_13 x0_14 x0_15 x0_16 x0_17 x0_18 x0_19 x0_20 x0_21 x0_22 x0_23 x1 x2) = true → (!sAt_s4 x0_0 x0_1 x0_2 x0_3 x0_4 x0_5 x0_9 x0_10 x0_11 x1 x2 == (0 : Int)) = true → sAt_s4 x0_0 x0_1 x0_2 x0_3 x0_4 x0_5 x0_9 x0_10 x0_11 x1 x2 ≠ (0 : Int), (!sAt_s0 x0_0 x0_1 x0_2 x0_3 x0_4 x0_5 x0_6 x0_7 x0_8 x0_9 x0_10 x0_11 x0_12 x0_13 x0_14 x0_15 x0_16 x0_17 x0_18 x0_19 x0_20 x0_21 x0_22 x0_23 x1 x2) = true → (!sAt_s4 x0_0 x0_1 x0_2 x0_3 x0_4 x0_5 x0_9 x0_10 x0_11 x1 x2 == (0 : Int)) = true → sAt_s4 x0_0 x0_1 x0_2 x0_3 x0_4 x0_5 x0_9 x0_10 x0_11 x1 x2 ≠ (0 : Int), (!sAt_s0 x0_0 x0_1 x0_2 x0_3 x0_4 x0_5 x0_6 x0_7 x0_8 x0_9 x0_10 x0_11 x0_12 x0_13 x0_14 x0_15 x0_16 x0_17 x0_18 x0_19 x0_20 x0_21 x0_22 x0_23 x1 x2) = true → (!sAt_s4 x0_0 x0_1 x0_2 x0_3 x0_4 x0_5 x0_9 x0_10 x0_11 x1 x2 == (0 : Int)) = true → sAt_s4 x0_0 x0_1 x0_2 x0_3 x0_4 x0_5 x0_9 x0_10 x0_11 x1 x2 ≠ (0 : Int), (!sAt_s0 x0_0 x0_1 x0_2 x0_3 x0_4 x0_5 x0_6 x0_7 x0_8 x0_9 x0_10 x0_11 x0_12 x0_13 x0_14 x0_15 x0_16 x0_17 x0_18 x0_19 x0_20 x0_21 x0_22 x0_23 x1 x2) = true → (!sAt_s4 x0_0 x0_1 x0_2 x0_3 x0_4 x0_5 x0_9 x0_10 x0_11 x1 x2 == (0 : Int)) = true → sAt_s4 x0_0 x0_1 x0_2 x0_3 x0_4 x0_5 x0_9 x0_10 x0_11 x1 x2 ≠ (0 : Int), (!sAt_s0 x0_0 x0_1 x0_2 x0_3 x0_4 x0_5 x0_6 x0_7 x0_8 x0_9 x0_10 x0_11 x0_12 x0_13 x0_14 x0_15 x0_16 x0_17 x0_18 x0_19 x0_20 x0_21 x0_22 x0_23 x1 x2) = true → (!sAt_s4 x0_0 x0_1 x0_2 x0_3 x0_4 x0_5 x0_9 x0_10 x0_11 x1 x2 == (0 : Int)) = true → sAt_s4 x0_0 x0_1 x0_2 x0_3 x0_4 x0_5 x0_9 x0_10 x0_11 x1 x2 ≠ (0 : Int), (!sAt_s0 x0_0 x0_1 x0_2 x0_3 x0_4 x0_5 x0_6 x0_7 x0_8 x0_9 x0_10 x0_11 x0_12 x0_13 x0_14 x0_15 x0_16 x0_17 x0_18 x0_19 x0_20 x0_21 x0_22 x0_23 x1 x2) = true → (!sAt_s4 x0_0 x0_1 x0_2 x0_3 x0_4 x0_5 x0_9 x0_10 x0_11 x1 x2 == (0 : Int)) = true → sAt_s4 x0_0 x0_1 x0_2 x0_3 x0_4 x0_5 x0_9 x0_10 x0_11 x1 x2 ≠ (0 : Int), (!sAt_s0 x0_0 x0_1 x0_2 x0_3 x0_4 x0_5 x0_6 x0_7 x0_8 x0_9 x0_10 x0_11 x0_12 x0_13 x0_14 x0_15 x0_16 x0_17 x0_18 x0_19 x0_20 x0_21 x0_22 x0_23 x1 x2) = true → (!sAt_s4 x0_0 x0_1 x0_2 x0_3 x0_4 x0_5 x0_9 x0_10 x0_11 x1 x2 == (0 : Int)) = true → sAt_s4 x0_0 x0_1 x0_2 x0_3 x0_4 x0_5 x0_9 x0_10 x0_11 x1 x2 ≠ (0 : Int), (!sAt_s0 x0_0 x0_1 x0_2 x0_3 x0_4 x0_5 x0_6 x0_7 x0_8 x0_9 x0_10 x0_11 x0_12 x0_13 x0_14 x0_15 x0_16 x0_17 x0_18 x0_19 x0_20 x0_21 x0_22 x0_23 x1 x2) = true → (!sAt_s4 x0_0 x0_1 x0_2 x0_3 x0_4 x0_5 x0_9 x0_10 x0_11 x1 x2 == (0 : Int)) = true → sAt_s4 x0_0 x0_1 x0_2 x0_3 x0_4 x0_5 x0_9 x0_10 x0_11 x1 x2 ≠ (0 : Int), (!sAt_s0 x0_0 x0_1 x0_2 x0_3 x0_4 x0_5 x0_6 x0_7 x0_8 x0_9 x0_10 x0_11 x0_12 x0_13 x0_14 x0_15 x0_16 x0_17 x0_18 x0_19 x0_20 x0_21 x0_22 x0_23 x1 x2) = true → (!tArea_0 x0_0 x0_1 x0_2 x0_3 x0_4 x0_5 == (0 : Int)) = true → tArea_0 x0_0 x0_1 x0_2 x0_3 x0_4 x0_5 ≠ (0 : Int), (!sAt_s0 x0_0 x0_1 x0_2 x0_3 x0_4 x0_5 x0_6 x0_7 x0_8 x0_9 x0_10 x0_11 x0_12 x0_13 x0_14 x0_15 x0_16 x0_17 x0_18 x0_19 x0_20 x0_21 x0_22 x0_23 x1 x2) = true → (!tArea_0 x0_0 x0_1 x0_2 x0_3 x0_4 x0_5 == (0 : Int)) = true → tArea_0 x0_0 x0_1 x0_2 x0_3 x0_4 x0_5 ≠ (0 : Int)]
theorem sAt_p (x0_0 x0_1 x0_2 x0_3 x0_4 x0_5 x0_6 x0_7 x0_8 x0_9 x0_10 x0_11 x0_12 x0_13 x0_14 x0_15 x0_16 x0_17 x0_18 x0_19 x0_20 x0_21 x0_22 x0_23 x1 x2 : Int) : evG Try.prog tabRa5 2000 51 [0, 1, 2, 3, 6, 7, 8, 9, 10, 11, 12, 13, 14, 15, 16, 17, 30, 36, 37, 38, 57, 58, 80, 81] [] [] [.g [.int true .i64 x0_0, .int true .i64 x0_1, .int true .i64 x0_2, .int true .i64 x0_3, .int true .i64 x0_4, .int true .i64 x0_5, .int true .i64 x0_6, .int true .i64 x0_7, .int true .i64 x0_8, .int true .i64 x0_9, .int true .i64 x0_10, .int true .i64 x0_11, .int true .i64 x0_12, .int true .i64 x0_13, .int true .i64 x0_14, .int true .i64 x0_15, .int true .i64 x0_16, .int true .i64 x0_17, .int true .i64 x0_18, .int true .i64 x0_19, .int true .i64 x0_20, .int true .i64 x0_21, .int true .i64 x0_22, .int true .i64 x0_23], .a (.int true .i64 x1), .a (.int true .i64 x2)] [] = some (sAt_o x0_0 x0_1 x0_2 x0_3 x0_4 x0_5 x0_6 x0_7 x0_8 x0_9 x0_10 x0_11 x0_12 x0_13 x0_14 x0_15 x0_16 x0_17 x0_18 x0_19 x0_20 x0_21 x0_22 x0_23 x1 x2, LV.t [LV.a (At.int true IntKind.i64 (sAt_0 x0_0 x0_1 x0_2 x0_3 x0_4 x0_5 x0_6 x0_7 x0_8 x0_9 x0_10 x0_11 x0_12 x0_13 x0_14 x0_15 x0_16 x0_17 x0_18 x0_19 x0_20 x0_21 x0_22 x0_23 x1 x2)), LV.g [At.int true IntKind.i64 (sAt_1 x0_0 x0_1 x0_2 x0_3 x0_4 x0_5 x0_6 x0_7 x0_8 x0_9 x0_10 x0_11 x0_12 x0_13 x0_14 x0_15 x0_16 x0_17 x0_18 x0_19 x0_20 x0_21 x0_22 x0_23 x1 x2), At.int true IntKind.i64 (sAt_2 x0_0 x0_1 x0_2 x0_3 x0_4 x0_5 x0_6 x0_7 x0_8 x0_9 x0_10 x0_11 x0_12 x0_13 x0_14 x0_15 x0_16 x0_17 x0_18 x0_19 x0_20 x0_21 x0_22 x0_23 x1 x2), At.int true IntKind.i64 (sAt_3 x0_0 x0_1 x0_2 x0_3 x0_4 x0_5 x0_6 x0_7 x0_8 x0_9 x0_10 x0_11 x0_12 x0_13 x0_14 x0_15 x0_16 x0_17 x0_18 x0_19 x0_20 x0_21 x0_22 x0_23 x1 x2), At.int true IntKind.i64 (sAt_4 x0_0 x0_1 x0_2 x0_3 x0_4 x0_5 x0_6 x0_7 x0_8 x0_9 x0_10 x0_11 x0_12 x0_13 x0_14 x0_15 x0_16 x0_17 x0_18 x0_19 x0_20 x0_21 x0_22 x0_23 x1 x2)], LV.a (At.bool true (sAt_5 x0_0 x0_1 x0_2 x0_3 x0_4 x0_5 x0_6 x0_7 x0_8 x0_9 x0_10 x0_11 x0_12 x0_13 x0_14 x0_15 x0_16 x0_17 x0_18 x0_19 x0_20 x0_21 x0_22 x0_23 x1 x2))], []) := by kernel_rfl
def sAt_c : Con
  | [.g [.int true .i64 x0_0, .int true .i64 x0_1, .int true .i64 x0_2, .int true .i64 x0_3, .int true .i64 x0_4, .int true .i64 x0_5, .int true .i64 x0_6, .int true .i64 x0_7, .int true .i64 x0_8, .int true .i64 x0_9, .int true .i64 x0_10, .int true .i64 x0_11, .int true .i64 x0_12, .int true .i64 x0_13, .int true .i64 x0_14, .int true .i64 x0_15, .int true .i64 x0_16, .int true .i64 x0_17, .int true .i64 x0_18, .int true .i64 x0_19, .int true .i64 x0_20, .int true .i64 x0_21, .int true .i64 x0_22, .int true .i64 x0_23], .a (.int true .i64 x1), .a (.int true .i64 x2)], [] => some (sAt_o x0_0 x0_1 x0_2 x0_3 x0_4 x0_5 x0_6 x0_7 x0_8 x0_9 x0_10 x0_11 x0_12 x0_13 x0_14 x0_15 x0_16 x0_17 x0_18 x0_19 x0_20 x0_21 x0_22 x0_23 x1 x2, LV.t [LV.a (At.int true IntKind.i64 (sAt_0 x0_0 x0_1 x0_2 x0_3 x0_4 x0_5 x0_6 x0_7 x0_8 x0_9 x0_10 x0_11 x0_12 x0_13 x0_14 x0_15 x0_16 x0_17 x0_18 x0_19 x0_20 x0_21 x0_22 x0_23 x1 x2)), LV.g [At.int true IntKind.i64 (sAt_1 x0_0 x0_1 x0_2 x0_3 x0_4 x0_5 x0_6 x0_7 x0_8 x0_9 x0_10 x0_11 x0_12 x0_13 x0_14 x0_15 x0_16 x0_17 x0_18 x0_19 x0_20 x0_21 x0_22 x0_23 x1 x2), At.int true IntKind.i64 (sAt_2 x0_0 x0_1 x0_2 x0_3 x0_4 x0_5 x0_6 x0_7 x0_8 x0_9 x0_10 x0_11 x0_12 x0_13 x0_14 x0_15 x0_16 x0_17 x0_18 x0_19 x0_20 x0_21 x0_22 x0_23 x1 x2), At.int true IntKind.i64 (sAt_3 x0_0 x0_1 x0_2 x0_3 x0_4 x0_5 x0_6 x0_7 x0_8 x0_9 x0_10 x0_11 x0_12 x0_13 x0_14 x0_15 x0_16 x0_17 x0_18 x0_19 x0_20 x0_21 x0_22 x0_23 x1 x2), At.int true IntKind.i64 (sAt_4 x0_0 x0_1 x0_2 x0_3 x0_4 x0_5 x0_6 x0_7 x0_8 x0_9 x0_10 x0_11 x0_12 x0_13 x0_14 x0_15 x0_16 x0_17 x0_18 x0_19 x0_20 x0_21 x0_22 x0_23 x1 x2)], LV.a (At.bool true (sAt_5 x0_0 x0_1 x0_2 x0_3 x0_4 x0_5 x0_6 x0_7 x0_8 x0_9 x0_10 x0_11 x0_12 x0_13 x0_14 x0_15 x0_16 x0_17 x0_18 x0_19 x0_20 x0_21 x0_22 x0_23 x1 x2))], [])
  | _, _ => none
theorem sAt_ok : ConOK Try.prog 51 (normC sAt_c) := normC_ok (by
  intro args bs obs lv out h ho φ vs w may ha hM
  unfold sAt_c at h
  split at h
  · simp only [Option.some.injEq, Prod.mk.injEq] at h
    obtain ⟨rfl, rfl, rfl⟩ := h
    rename_i x0_0 x0_1 x0_2 x0_3 x0_4 x0_5 x0_6 x0_7 x0_8 x0_9 x0_10 x0_11 x0_12 x0_13 x0_14 x0_15 x0_16 x0_17 x0_18 x0_19 x0_20 x0_21 x0_22 x0_23 x1 x2
    exact evG_ok tabRa5_ok follows _ _ _ _ _ (sAt_p x0_0 x0_1 x0_2 x0_3 x0_4 x0_5 x0_6 x0_7 x0_8 x0_9 x0_10 x0_11 x0_12 x0_13 x0_14 x0_15 x0_16 x0_17 x0_18 x0_19 x0_20 x0_21 x0_22 x0_23 x1 x2) ho φ vs w may ha hM
  · cases h)
theorem sAt_en : Enters Try.prog 51 := fun args => by kernel_rfl
-- 2345 1736 36 ms

def tabRa6 : Tab := (51, normC sAt_c) :: tabRa5
theorem tabRa6_ok : TOK Try.prog tabRa6 := TOK.cons sAt_en sAt_ok (tabRa5_ok)

end Go.Proofs.Ytcdejlgophpdjaa
end

section
namespace Go.Proofs.Ytcdejlgophpdjaa
open Go Go.RowKit Go.Proofs.Ytcdejlgophpdjaa.V
set_option linter.unusedVariables false
set_option linter.unusedSectionVars false

/-- As near as may be. -/
def nc (x : Int) : Int := if 16384 < x then 16384 else if x < -16384 then -16384 else x

theorem nc_ge (x : Int) : -16384 ≤ nc x := by unfold nc; split <;> (try split) <;> omega
theorem nc_le (x : Int) : nc x ≤ 16384 := by unfold nc; split <;> (try split) <;> omega
theorem nc_id {x : Int} (h1 : -16384 ≤ x) (h2 : x ≤ 16384) : nc x = x := by unfold nc; split <;> (try split) <;> omega

theorem fw (x : Int) : fWithin_0 x 16384 = nc x := by
  have e : fWithin_s1 16384 = -16384 := by unfold fWithin_s1; rw [w64_in (by omega) (by omega)]; omega
  unfold fWithin_0 fWithin_s0 nc
  rw [e]
  split <;> split <;> (try split) <;> (try split) <;> omega
theorem n0 (x : Int) : eNear_0 x = nc x := fw x
theorem n1 (x : Int) : eNear_1 x = nc x := fw x
theorem rn (x : Int) : rNear_0 x = nc x := by
  unfold rNear_0 nc
  by_cases h : 16384 < x
  · simp [h]
  · by_cases h2 : x < -16384 <;> simp [h, h2]
/-- On which side. -/
def sd (a b c d e f : Int) : Int := (c - a) * (f - b) - (d - b) * (e - a)

def Nr (x : Int) : Prop := -16384 ≤ x ∧ x ≤ 16384

theorem nr_nc (x : Int) : Nr (nc x) := ⟨nc_ge x, nc_le x⟩

theorem mul_bd {x y : Int} (hx : -32768 ≤ x ∧ x ≤ 32768) (hy : -32768 ≤ y ∧ y ≤ 32768) : -1073741824 ≤ x * y ∧ x * y ≤ 1073741824 := by
  have h : x.natAbs * y.natAbs ≤ 32768 * 32768 := Nat.mul_le_mul (by omega) (by omega)
  rw [← Int.natAbs_mul] at h
  omega

theorem sd_bd {a b c d e f : Int} (ha : Nr a) (hb : Nr b) (hc : Nr c) (hd : Nr d) (he : Nr e) (hf : Nr f) : -2147483648 ≤ sd a b c d e f ∧ sd a b c d e f ≤ 2147483648 := by
  unfold Nr at *
  have h1 := mul_bd (x := c - a) (y := f - b) (by omega) (by omega)
  have h2 := mul_bd (x := d - b) (y := e - a) (by omega) (by omega)
  unfold sd
  omega

theorem wrapped {a b c d e f : Int} (ha : Nr a) (hb : Nr b) (hc : Nr c) (hd : Nr d) (he : Nr e) (hf : Nr f) :
    IntKind.wrap .i64 (IntKind.wrap .i64 (IntKind.wrap .i64 (c - a) * IntKind.wrap .i64 (f - b)) - IntKind.wrap .i64 (IntKind.wrap .i64 (d - b) * IntKind.wrap .i64 (e - a))) = sd a b c d e f := by
  unfold Nr at *
  have h1 := mul_bd (x := c - a) (y := f - b) (by omega) (by omega)
  have h2 := mul_bd (x := d - b) (y := e - a) (by omega) (by omega)
  rw [w64_in (n := c - a) (by omega) (by omega), w64_in (n := f - b) (by omega) (by omega), w64_in (n := d - b) (by omega) (by omega), w64_in (n := e - a) (by omega) (by omega), w64_in (n := (c - a) * (f - b)) (by omega) (by omega),
    w64_in (n := (d - b) * (e - a)) (by omega) (by omega), w64_in (by omega) (by omega)]
  rfl

theorem side_eq (a b c d e f : Int) : eSide_0 a b c d e f = sd (nc a) (nc b) (nc c) (nc d) (nc e) (nc f) := by
  unfold eSide_0
  simp only [n0, n1]
  exact wrapped (nr_nc _) (nr_nc _) (nr_nc _) (nr_nc _) (nr_nc _) (nr_nc _)

theorem rside_eq (a b c d e f : Int) : rSide_0 a b c d e f = sd (nc a) (nc b) (nc c) (nc d) (nc e) (nc f) := by
  unfold rSide_0
  simp only [rn]
  exact wrapped (nr_nc _) (nr_nc _) (nr_nc _) (nr_nc _) (nr_nc _) (nr_nc _)

/-- Does the way own its points? -/
def ow (a b c d : Int) : Bool := decide (d < b) || (decide (b = d) && decide (a < c))

theorem owns_eq (a b c d : Int) : eOwns_0 a b c d = ow (nc a) (nc b) (nc c) (nc d) := by
  unfold eOwns_0 ow
  simp only [n0, n1]
  generalize nc a = a
  generalize nc b = b
  generalize nc c = c
  generalize nc d = d
  by_cases h1 : d < b
  · simp [h1]
  · by_cases h2 : b = d <;> simp [h1, h2]

/-- Within, or on a way that is owned. -/
def wok (w : Int) (o : Bool) : Prop := 0 < w ∨ (w = 0 ∧ o = true)

instance (w : Int) (o : Bool) : Decidable (wok w o) := by unfold wok; exact inferInstance

/-- Is the point covered? -/
def cv (a b c d e f p q : Int) : Prop := 0 < sd a b c d e f ∧ wok (sd c d e f p q) (ow c d e f) ∧ wok (sd e f a b p q) (ow e f a b) ∧ wok (sd a b c d p q) (ow a b c d)

instance (a b c d e f p q : Int) : Decidable (cv a b c d e f p q) := by unfold cv; exact inferInstance

theorem bad_iff (w : Int) (o : Bool) : (bif decide (w < 0) then true else bif w == 0 then !o else false) = !decide (wok w o) := by
  unfold wok
  by_cases h1 : w < 0
  · have e1 : ¬ 0 < w := by omega
    have e2 : w ≠ 0 := by omega
    simp [h1, e1, e2]
  · by_cases h2 : w = 0
    · subst h2; cases o <;> simp
    · have : 0 < w := by omega
      simp [h1, h2, this]

theorem covers_eq (a b c d e f p q : Int) : tCovers_0 a b c d e f p q = decide (cv (nc a) (nc b) (nc c) (nc d) (nc e) (nc f) (nc p) (nc q)) := by
  unfold tCovers_0 tCovers_s0 tCovers_s1 tArea_0 tWeights_0 tWeights_1 tWeights_2
  simp only [bad_iff, side_eq, owns_eq]
  unfold cv
  generalize nc a = a
  generalize nc b = b
  generalize nc c = c
  generalize nc d = d
  generalize nc e = e
  generalize nc f = f
  generalize nc p = p
  generalize nc q = q
  by_cases h0 : sd a b c d e f ≤ 0
  · have h0' : ¬ 0 < sd a b c d e f := by omega
    simp [h0, h0']
  · have h0' : 0 < sd a b c d e f := by omega
    by_cases h1 : wok (sd c d e f p q) (ow c d e f) <;> by_cases h2 : wok (sd e f a b p q) (ow e f a b) <;> by_cases h3 : wok (sd a b c d p q) (ow a b c d) <;> simp [h0, h0', h1, h2, h3]

theorem sd_rot (a b c d e f : Int) : sd c d e f a b = sd a b c d e f := by unfold sd; grind
theorem sd_rot2 (a b c d e f : Int) : sd e f a b c d = sd a b c d e f := by unfold sd; grind
theorem sd_turn (a b c d e f : Int) : sd a b e f c d = - sd a b c d e f := by unfold sd; grind
theorem sd_swap (a b c d e f : Int) : sd c d a b e f = - sd a b c d e f := by unfold sd; grind
theorem sd_at1 (a b c d : Int) : sd a b c d a b = 0 := by unfold sd; grind
theorem sd_at2 (a b c d : Int) : sd a b c d c d = 0 := by unfold sd; grind
theorem sd_sum (a b c d e f p q : Int) : sd c d e f p q + sd e f a b p q + sd a b c d p q = sd a b c d e f := by unfold sd; grind
theorem sd_x (a b c d e f p q : Int) : sd c d e f p q * a + sd e f a b p q * c + sd a b c d p q * e = sd a b c d e f * p := by unfold sd; grind
theorem sd_y (a b c d e f p q : Int) : sd c d e f p q * b + sd e f a b p q * d + sd a b c d p q * f = sd a b c d e f * q := by unfold sd; grind
theorem sd_move (a b c d e f x y : Int) : sd (a + x) (b + y) (c + x) (d + y) (e + x) (f + y) = sd a b c d e f := by unfold sd; grind
theorem sd_twice (a b c d e f : Int) : sd (2 * a) (2 * b) (2 * c) (2 * d) (2 * e) (2 * f) = 4 * sd a b c d e f := by unfold sd; grind

theorem ow_same (a b : Int) : ow a b a b = false := by unfold ow; simp
theorem ow_anti {a b c d : Int} (h : ¬ (a = c ∧ b = d)) : ow c d a b = !ow a b c d := by
  unfold ow
  by_cases h1 : d < b
  · have e1 : ¬ b < d := by omega
    have e2 : ¬ d = b := by omega
    simp [h1, e1, e2]
  · by_cases h2 : b < d
    · have e2 : ¬ b = d := by omega
      simp [h1, h2, e2]
    · have e : b = d := by omega
      subst e
      by_cases h3 : a < c
      · have : ¬ c < a := by omega
        simp [h3, this]
      · have : c < a := by omega
        simp [h3, this]
theorem ow_move (a b c d x y : Int) : ow (a + x) (b + y) (c + x) (d + y) = ow a b c d := by
  have e1 : (d + y < b + y) = (d < b) := propext ⟨fun h => by omega, fun h => by omega⟩
  have e2 : (b + y = d + y) = (b = d) := propext ⟨fun h => by omega, fun h => by omega⟩
  have e3 : (a + x < c + x) = (a < c) := propext ⟨fun h => by omega, fun h => by omega⟩
  unfold ow
  simp only [e1, e2, e3]
theorem ow_twice (a b c d : Int) : ow (2 * a) (2 * b) (2 * c) (2 * d) = ow a b c d := by
  have e1 : (2 * d < 2 * b) = (d < b) := propext ⟨fun h => by omega, fun h => by omega⟩
  have e2 : (2 * b = 2 * d) = (b = d) := propext ⟨fun h => by omega, fun h => by omega⟩
  have e3 : (2 * a < 2 * c) = (a < c) := propext ⟨fun h => by omega, fun h => by omega⟩
  unfold ow
  simp only [e1, e2, e3]
theorem wok_4 (w : Int) (o : Bool) : wok (4 * w) o ↔ wok w o := by
  have e1 : (0 < 4 * w) = (0 < w) := propext ⟨fun h => by omega, fun h => by omega⟩
  have e2 : (4 * w = 0) = (w = 0) := propext ⟨fun h => by omega, fun h => by omega⟩
  unfold wok
  simp only [e1, e2]

theorem cv_rot (a b c d e f p q : Int) : cv c d e f a b p q ↔ cv a b c d e f p q := by
  unfold cv
  rw [sd_rot a b c d e f]
  exact ⟨fun ⟨h0, h1, h2, h3⟩ => ⟨h0, h3, h1, h2⟩, fun ⟨h0, h1, h2, h3⟩ => ⟨h0, h2, h3, h1⟩⟩
theorem cv_move (a b c d e f p q x y : Int) : cv (a + x) (b + y) (c + x) (d + y) (e + x) (f + y) (p + x) (q + y) ↔ cv a b c d e f p q := by
  unfold cv
  simp only [sd_move, ow_move]
theorem cv_twice (a b c d e f p q : Int) : cv (2 * a) (2 * b) (2 * c) (2 * d) (2 * e) (2 * f) (2 * p) (2 * q) ↔ cv a b c d e f p q := by
  unfold cv
  simp only [sd_twice, ow_twice, wok_4]
  constructor <;> (intro ⟨h0, h⟩; exact ⟨by omega, h⟩)

theorem between {w0 w1 w2 A x0 x1 x2 p m : Int} (h0 : 0 ≤ w0) (h1 : 0 ≤ w1) (h2 : 0 ≤ w2) (hs : w0 + w1 + w2 = A) (hA : 0 < A) (hp : w0 * x0 + w1 * x1 + w2 * x2 = A * p) (m0 : m ≤ x0) (m1 : m ≤ x1) (m2 : m ≤ x2) : m ≤ p := by
  by_cases h : m ≤ p
  · exact h
  · exfalso
    have e : A * (m - p) = w0 * (m - x0) + w1 * (m - x1) + w2 * (m - x2) := by subst hs; grind
    have e0 : w0 * (m - x0) ≤ 0 := Int.mul_nonpos_of_nonneg_of_nonpos h0 (by omega)
    have e1 : w1 * (m - x1) ≤ 0 := Int.mul_nonpos_of_nonneg_of_nonpos h1 (by omega)
    have e2 : w2 * (m - x2) ≤ 0 := Int.mul_nonpos_of_nonneg_of_nonpos h2 (by omega)
    have e3 : 0 < A * (m - p) := Int.mul_pos hA (by omega)
    omega

theorem between' {w0 w1 w2 A x0 x1 x2 p m : Int} (h0 : 0 ≤ w0) (h1 : 0 ≤ w1) (h2 : 0 ≤ w2) (hs : w0 + w1 + w2 = A) (hA : 0 < A) (hp : w0 * x0 + w1 * x1 + w2 * x2 = A * p) (m0 : x0 ≤ m) (m1 : x1 ≤ m) (m2 : x2 ≤ m) : p ≤ m := by
  have := between (m := -m) (p := -p) (x0 := -x0) (x1 := -x1) (x2 := -x2) h0 h1 h2 hs hA (by grind) (by omega) (by omega) (by omega)
  omega

theorem wok_nonneg {w : Int} {o : Bool} (h : wok w o) : 0 ≤ w := by unfold wok at h; omega


theorem bad2_iff (w a b c d : Int) : (decide (w < 0) || !decide (w < 0) && (bif w == 0 then bif !decide (d < b) then !bif d == b then decide (a < c) else false else false else false)) = !decide (wok w (ow a b c d)) := by
  rw [← bad_iff]
  unfold ow
  by_cases h1 : w < 0
  · simp [h1]
  · by_cases h2 : w = 0
    · by_cases h3 : d < b
      · simp [h2, h3]
      · by_cases h4 : d = b
        · subst h4; simp [h2]
        · have h5 : ¬ b = d := fun e => h4 e.symm
          simp [h2, h3, h4, h5]
    · have h3 : (w == 0) = false := beq_false_of_ne h2
      simp [h1, h3]

theorem rcovers_eq (a b c d e f p q : Int) : rCovers_0 a b c d e f p q = decide (cv (nc a) (nc b) (nc c) (nc d) (nc e) (nc f) (nc p) (nc q)) := by
  unfold rCovers_0
  have e0 := bad2_iff (rSide_0 a b c d p q) (rNear_0 a) (rNear_0 b) (rNear_0 c) (rNear_0 d)
  have e1 := bad2_iff (rSide_0 c d e f p q) (rNear_0 c) (rNear_0 d) (rNear_0 e) (rNear_0 f)
  have e2 := bad2_iff (rSide_0 e f a b p q) (rNear_0 e) (rNear_0 f) (rNear_0 a) (rNear_0 b)
  have g : ∀ s0 s1 s2 s3 s4 L A : Bool, (bif A then false else bif s0 || !s0 && s1 || !s0 && !s1 && (s2 || !s2 && s3 || !s2 && !s3 && (s4 || !s4 && L)) then false else true) = (!A && (!(s0 || !s0 && s1) && (!(s2 || !s2 && s3) && !(s4 || !s4 && L)))) := by decide
  rw [g]
  unfold rCovers_s0 rCovers_s1 rCovers_s2 rCovers_s3 rCovers_s4
  rw [e0, e1, e2]
  simp only [rside_eq, rn]
  unfold cv
  generalize nc a = a
  generalize nc b = b
  generalize nc c = c
  generalize nc d = d
  generalize nc e = e
  generalize nc f = f
  generalize nc p = p
  generalize nc q = q
  by_cases h0 : sd a b c d e f ≤ 0
  · have h0' : ¬ 0 < sd a b c d e f := by omega
    simp [h0, h0']
  · have h0' : 0 < sd a b c d e f := by omega
    by_cases h1 : wok (sd c d e f p q) (ow c d e f) <;> by_cases h2 : wok (sd e f a b p q) (ow e f a b) <;> by_cases h3 : wok (sd a b c d p q) (ow a b c d) <;> simp [h0, h0', h1, h2, h3]

end Go.Proofs.Ytcdejlgophpdjaa
end

section
namespace Go.Proofs.Ytcdejlgophpdjaa
open Go Go.RowKit Go.Proofs.Ytcdejlgophpdjaa.V
set_option linter.unusedVariables false
set_option linter.unusedSectionVars false

theorem bd_u8 {x : Int} (a : IntKind.min .u8 ≤ x) (b : x ≤ IntKind.max .u8) : 0 ≤ x ∧ x ≤ 255 := by
  have m : IntKind.min .u8 = 0 := by decide
  have M : IntKind.max .u8 = 255 := by decide
  omega
theorem bd_u16 {x : Int} (a : IntKind.min .u16 ≤ x) (b : x ≤ IntKind.max .u16) : 0 ≤ x ∧ x ≤ 65535 := by
  have m : IntKind.min .u16 = 0 := by decide
  have M : IntKind.max .u16 = 65535 := by decide
  omega
theorem bd_i8 {x : Int} (a : IntKind.min .i8 ≤ x) (b : x ≤ IntKind.max .i8) : -128 ≤ x ∧ x ≤ 127 := by
  have m : IntKind.min .i8 = -128 := by decide
  have M : IntKind.max .i8 = 127 := by decide
  omega
theorem bd_i16 {x : Int} (a : IntKind.min .i16 ≤ x) (b : x ≤ IntKind.max .i16) : -32768 ≤ x ∧ x ≤ 32767 := by
  have m : IntKind.min .i16 = -32768 := by decide
  have M : IntKind.max .i16 = 32767 := by decide
  omega

/-! A mean, by weights. -/
def wav (t0 t1 t2 c0 c1 c2 : Int) : Int := (t0 * c0 + t1 * c1 + t2 * c2) / (t0 + t1 + t2)

theorem mul_in {t c T C : Int} (t0 : 0 ≤ t) (t1 : t ≤ T) (c0 : 0 ≤ c) (c1 : c ≤ C) : 0 ≤ t * c ∧ t * c ≤ T * C :=
  ⟨Int.mul_nonneg t0 c0, Int.mul_le_mul t1 c1 c0 (by omega)⟩

theorem floor_pos {a b : Int} (h : 0 < b) (a0 : 0 ≤ a) (a1 : a ≤ 9223372036854775807) : fFloor_0 a b = a / b := by
  have e1 : a / b ≤ a := Int.ediv_le_self b a0
  have e0 : 0 ≤ a / b := Int.ediv_nonneg a0 (by omega)
  unfold fFloor_0
  have h1 : (b == 0) = false := beq_false_of_ne (by omega)
  have h2 : decide (a < 0) = false := decide_eq_false (by omega)
  have h3 : decide (b < 0) = false := decide_eq_false (by omega)
  rw [h1, h2, h3, Int.tdiv_eq_ediv_of_nonneg a0, w64_in (n := a / b) (by omega) (by omega)]
  cases Int.tmod a b != 0 <;> rfl

theorem sum_wrap {t0 t1 t2 c0 c1 c2 : Int} (h0 : 0 ≤ t0) (k0 : t0 ≤ 34359738368) (h1 : 0 ≤ t1) (k1 : t1 ≤ 34359738368) (h2 : 0 ≤ t2) (k2 : t2 ≤ 34359738368) (a0 : 0 ≤ c0) (b0 : c0 ≤ 65536) (a1 : 0 ≤ c1) (b1 : c1 ≤ 65536) (a2 : 0 ≤ c2) (b2 : c2 ≤ 65536) :
    IntKind.wrap .i64 (IntKind.wrap .i64 (IntKind.wrap .i64 (0 + IntKind.wrap .i64 (t0 * c0)) + IntKind.wrap .i64 (t1 * c1)) + IntKind.wrap .i64 (t2 * c2)) = t0 * c0 + t1 * c1 + t2 * c2 ∧ 0 ≤ t0 * c0 + t1 * c1 + t2 * c2 ∧ t0 * c0 + t1 * c1 + t2 * c2 ≤ 9223372036854775807 := by
  have m0 := mul_in h0 k0 a0 b0
  have m1 := mul_in h1 k1 a1 b1
  have m2 := mul_in h2 k2 a2 b2
  rw [w64_in (n := t0 * c0) (by omega) (by omega), w64_in (n := t1 * c1) (by omega) (by omega), w64_in (n := t2 * c2) (by omega) (by omega), w64_in (n := 0 + t0 * c0) (by omega) (by omega), w64_in (n := 0 + t0 * c0 + t1 * c1) (by omega) (by omega), w64_in (by omega) (by omega)]
  refine ⟨by omega, by omega, by omega⟩

section
variable {t0 t1 t2 c0 c1 c2 : Int} (h0 : 0 ≤ t0) (k0 : t0 ≤ 34359738368) (h1 : 0 ≤ t1) (k1 : t1 ≤ 34359738368) (h2 : 0 ≤ t2) (k2 : t2 ≤ 34359738368) (a0 : 0 ≤ c0) (b0 : c0 ≤ 65536) (a1 : 0 ≤ c1) (b1 : c1 ≤ 65536) (a2 : 0 ≤ c2) (b2 : c2 ≤ 65536) (hp : 0 < t0 + t1 + t2)
include h0 k0 h1 k1 h2 k2 a0 b0 a1 b1 a2 b2 hp

theorem wav_floor {s : Int} (hs : s = t0 + t1 + t2) : fFloor_0 (IntKind.wrap .i64 (IntKind.wrap .i64 (IntKind.wrap .i64 (0 + IntKind.wrap .i64 (t0 * c0)) + IntKind.wrap .i64 (t1 * c1)) + IntKind.wrap .i64 (t2 * c2))) s = wav t0 t1 t2 c0 c1 c2 := by
  obtain ⟨e, e1, e2⟩ := sum_wrap h0 k0 h1 k1 h2 k2 a0 b0 a1 b1 a2 b2
  rw [e, hs, floor_pos hp e1 e2]; rfl

theorem wav_div {s : Int} (hs : s = t0 + t1 + t2) : IntKind.wrap .i64 (Int.tdiv (IntKind.wrap .i64 (IntKind.wrap .i64 (IntKind.wrap .i64 (0 + IntKind.wrap .i64 (t0 * c0)) + IntKind.wrap .i64 (t1 * c1)) + IntKind.wrap .i64 (t2 * c2))) s) = wav t0 t1 t2 c0 c1 c2 := by
  obtain ⟨e, e1, e2⟩ := sum_wrap h0 k0 h1 k1 h2 k2 a0 b0 a1 b1 a2 b2
  have g1 : (t0 * c0 + t1 * c1 + t2 * c2) / (t0 + t1 + t2) ≤ t0 * c0 + t1 * c1 + t2 * c2 := Int.ediv_le_self _ e1
  have g0 : 0 ≤ (t0 * c0 + t1 * c1 + t2 * c2) / (t0 + t1 + t2) := Int.ediv_nonneg e1 (by omega)
  rw [e, hs, Int.tdiv_eq_ediv_of_nonneg e1]
  exact w64_in (by omega) (by omega)

omit k0 k1 k2 a0 b0 a1 b1 a2 b2 in
theorem wav_ge {m : Int} (m0 : m ≤ c0) (m1 : m ≤ c1) (m2 : m ≤ c2) : m ≤ wav t0 t1 t2 c0 c1 c2 := by
  unfold wav
  rw [Int.le_ediv_iff_mul_le hp]
  have e0 := Int.mul_le_mul_of_nonneg_left m0 h0
  have e1 := Int.mul_le_mul_of_nonneg_left m1 h1
  have e2 := Int.mul_le_mul_of_nonneg_left m2 h2
  have : m * (t0 + t1 + t2) = t0 * m + t1 * m + t2 * m := by grind
  omega
omit k0 k1 k2 a0 b0 a1 b1 a2 b2 in
theorem wav_le {m : Int} (m0 : c0 ≤ m) (m1 : c1 ≤ m) (m2 : c2 ≤ m) : wav t0 t1 t2 c0 c1 c2 ≤ m := by
  unfold wav
  apply Int.le_of_lt_add_one
  apply Int.ediv_lt_of_lt_mul hp
  have e0 := Int.mul_le_mul_of_nonneg_left m0 h0
  have e1 := Int.mul_le_mul_of_nonneg_left m1 h1
  have e2 := Int.mul_le_mul_of_nonneg_left m2 h2
  have : (m + 1) * (t0 + t1 + t2) = t0 * m + t1 * m + t2 * m + (t0 + t1 + t2) := by grind
  omega
end

theorem wav_same {t0 t1 t2 c : Int} (hp : 0 < t0 + t1 + t2) : wav t0 t1 t2 c c c = c := by
  unfold wav
  have : t0 * c + t1 * c + t2 * c = c * (t0 + t1 + t2) := by grind
  rw [this, Int.mul_ediv_cancel _ (by omega)]

theorem wav_rot (t0 t1 t2 c0 c1 c2 : Int) : wav t1 t2 t0 c1 c2 c0 = wav t0 t1 t2 c0 c1 c2 := by
  unfold wav
  rw [show t1 * c1 + t2 * c2 + t0 * c0 = t0 * c0 + t1 * c1 + t2 * c2 by omega, show t1 + t2 + t0 = t0 + t1 + t2 by omega]

/-- A triangle that may be (but for its area). -/
structure TB (a b c d e f z0 z1 z2 n0 n1 n2 k00 k01 k02 k03 k10 k11 k12 k13 k20 k21 k22 k23 : Int) : Prop where
  ha : -2000 ≤ a ∧ a ≤ 2000
  hb : -2000 ≤ b ∧ b ≤ 2000
  hc : -2000 ≤ c ∧ c ≤ 2000
  hd : -2000 ≤ d ∧ d ≤ 2000
  he : -2000 ≤ e ∧ e ≤ 2000
  hf : -2000 ≤ f ∧ f ≤ 2000
  h0 : 0 ≤ z0 ∧ z0 ≤ 65535
  h1 : 0 ≤ z1 ∧ z1 ≤ 65535
  h2 : 0 ≤ z2 ∧ z2 ≤ 65535
  m0 : 1 ≤ n0 ∧ n0 ≤ 1024
  m1 : 1 ≤ n1 ∧ n1 ≤ 1024
  m2 : 1 ≤ n2 ∧ n2 ≤ 1024
  q00 : 0 ≤ k00 ∧ k00 ≤ 65536
  q01 : 0 ≤ k01 ∧ k01 ≤ 65536
  q02 : 0 ≤ k02 ∧ k02 ≤ 65536
  q03 : 0 ≤ k03 ∧ k03 ≤ 65536
  q10 : 0 ≤ k10 ∧ k10 ≤ 65536
  q11 : 0 ≤ k11 ∧ k11 ≤ 65536
  q12 : 0 ≤ k12 ∧ k12 ≤ 65536
  q13 : 0 ≤ k13 ∧ k13 ≤ 65536
  q20 : 0 ≤ k20 ∧ k20 ≤ 65536
  q21 : 0 ≤ k21 ∧ k21 ≤ 65536
  q22 : 0 ≤ k22 ∧ k22 ≤ 65536
  q23 : 0 ≤ k23 ∧ k23 ≤ 65536

theorem col_0 {x : Int} (h : 0 ≤ x ∧ x ≤ 65536) : vmColour_0 x = x := by unfold vmColour_0 vmColour_s0; repeat' split <;> omega
theorem col_1 {x : Int} (h : 0 ≤ x ∧ x ≤ 65536) : vmColour_1 x = x := by unfold vmColour_1 vmColour_s1; repeat' split <;> omega
theorem col_2 {x : Int} (h : 0 ≤ x ∧ x ≤ 65536) : vmColour_2 x = x := by unfold vmColour_2 vmColour_s2; repeat' split <;> omega
theorem col_3 {x : Int} (h : 0 ≤ x ∧ x ≤ 65536) : vmColour_3 x = x := by unfold vmColour_3 vmColour_s3; repeat' split <;> omega

/-- Where a pixel is of a triangle. -/
def at5 (a b c d e f x y : Int) : Bool := decide (cv a b c d e f (16 * x + 8) (16 * y + 8))
def u0 (c d e f x y : Int) : Int := sd c d e f (16 * x + 8) (16 * y + 8)
/-- The depth, a colour's number there. -/
def at0 (a b c d e f z0 z1 z2 x y : Int) : Int := bif at5 a b c d e f x y then wav (u0 c d e f x y) (u0 e f a b x y) (u0 a b c d x y) z0 z1 z2 else 0
def atk (a b c d e f n0 n1 n2 k0 k1 k2 x y : Int) : Int := bif at5 a b c d e f x y then wav (u0 c d e f x y * n0) (u0 e f a b x y * n1) (u0 a b c d x y * n2) k0 k1 k2 else 0

theorem mid_0 {x : Int} (h : 0 ≤ x ∧ x ≤ 63) : sMiddle_0 x = 16 * x + 8 := by
  unfold sMiddle_0 sMiddle_s0
  rw [if_neg (by omega : ¬ x < -1), if_neg (by omega), w64_in (n := 16 * x) (by omega) (by omega)]
  exact w64_in (by omega) (by omega)
theorem mid_1 {x : Int} (h : 0 ≤ x ∧ x ≤ 63) : sMiddle_1 x = 16 * x + 8 := mid_0 h

/-- Of a pixel that is of it, the weights. -/
theorem cv_w {a b c d e f p q : Int} (ha : -2000 ≤ a ∧ a ≤ 2000) (hb : -2000 ≤ b ∧ b ≤ 2000) (hc : -2000 ≤ c ∧ c ≤ 2000) (hd : -2000 ≤ d ∧ d ≤ 2000) (he : -2000 ≤ e ∧ e ≤ 2000) (hf : -2000 ≤ f ∧ f ≤ 2000) (h : cv a b c d e f p q) :
    0 ≤ sd c d e f p q ∧ 0 ≤ sd e f a b p q ∧ 0 ≤ sd a b c d p q ∧ sd c d e f p q + sd e f a b p q + sd a b c d p q = sd a b c d e f ∧ 0 < sd a b c d e f ∧ sd a b c d e f ≤ 32000000 := by
  obtain ⟨h0, h1, h2, h3⟩ := h
  refine ⟨wok_nonneg h1, wok_nonneg h2, wok_nonneg h3, sd_sum .., h0, ?_⟩
  have g1 : (c - a).natAbs * (f - b).natAbs ≤ 4000 * 4000 := Nat.mul_le_mul (by omega) (by omega)
  have g2 : (d - b).natAbs * (e - a).natAbs ≤ 4000 * 4000 := Nat.mul_le_mul (by omega) (by omega)
  rw [← Int.natAbs_mul] at g1 g2
  unfold sd
  omega

section
variable {a b c d e f z0 z1 z2 n0 n1 n2 k00 k01 k02 k03 k10 k11 k12 k13 k20 k21 k22 k23 : Int} (H : TB a b c d e f z0 z1 z2 n0 n1 n2 k00 k01 k02 k03 k10 k11 k12 k13 k20 k21 k22 k23)
include H

theorem area_eq : tArea_0 a b c d e f = sd a b c d e f := by
  unfold tArea_0
  rw [side_eq, nc_id (x := a) (by have := H.ha; omega) (by have := H.ha; omega), nc_id (x := b) (by have := H.hb; omega) (by have := H.hb; omega), nc_id (x := c) (by have := H.hc; omega) (by have := H.hc; omega), nc_id (x := d) (by have := H.hd; omega) (by have := H.hd; omega), nc_id (x := e) (by have := H.he; omega) (by have := H.he; omega), nc_id (x := f) (by have := H.hf; omega) (by have := H.hf; omega)]

theorem nrs : nc a = a ∧ nc b = b ∧ nc c = c ∧ nc d = d ∧ nc e = e ∧ nc f = f :=
  ⟨nc_id (by have := H.ha; omega) (by have := H.ha; omega), nc_id (by have := H.hb; omega) (by have := H.hb; omega), nc_id (by have := H.hc; omega) (by have := H.hc; omega), nc_id (by have := H.hd; omega) (by have := H.hd; omega), nc_id (by have := H.he; omega) (by have := H.he; omega), nc_id (by have := H.hf; omega) (by have := H.hf; omega)⟩

theorem check_eq : sCheck_0 a b c d e f z0 z1 z2 n0 n1 n2 k00 k01 k02 k03 k10 k11 k12 k13 k20 k21 k22 k23 = bif decide (sd a b c d e f ≤ 0) then 4 else 0 := by
  obtain ⟨e0, e1, e2, e3, e4, e5⟩ := nrs H
  unfold sCheck_0 sCheck_s0 sCheck_s1
  rw [area_eq H, fw, fw, fw, fw, fw, fw, e0, e1, e2, e3, e4, e5, col_0 H.q00, col_1 H.q01, col_2 H.q02, col_3 H.q03, col_0 H.q10, col_1 H.q11, col_2 H.q12, col_3 H.q13, col_0 H.q20, col_1 H.q21, col_2 H.q22, col_3 H.q23,
    decide_eq_false (show ¬ z0 < 0 by have := H.h0; omega), decide_eq_false (show ¬ z1 < 0 by have := H.h1; omega), decide_eq_false (show ¬ z2 < 0 by have := H.h2; omega), decide_eq_false (show ¬ 65535 < z0 by have := H.h0; omega), decide_eq_false (show ¬ 65535 < z1 by have := H.h1; omega), decide_eq_false (show ¬ 65535 < z2 by have := H.h2; omega),
    decide_eq_false (show ¬ n0 < 1 by have := H.m0; omega), decide_eq_false (show ¬ n1 < 1 by have := H.m1; omega), decide_eq_false (show ¬ n2 < 1 by have := H.m2; omega), decide_eq_false (show ¬ 1024 < n0 by have := H.m0; omega), decide_eq_false (show ¬ 1024 < n1 by have := H.m1; omega), decide_eq_false (show ¬ 1024 < n2 by have := H.m2; omega)]
  simp

variable {x y : Int} (hx : 0 ≤ x ∧ x ≤ 63) (hy : 0 ≤ y ∧ y ≤ 63)
include hx hy

theorem at_s0 : sAt_s0 a b c d e f z0 z1 z2 n0 n1 n2 k00 k01 k02 k03 k10 k11 k12 k13 k20 k21 k22 k23 x y = !at5 a b c d e f x y := by
  obtain ⟨e0, e1, e2, e3, e4, e5⟩ := nrs H
  unfold sAt_s0 at5
  rw [check_eq H, covers_eq, mid_0 hx, mid_1 hy, e0, e1, e2, e3, e4, e5, nc_id (x := 16 * x + 8) (by omega) (by omega), nc_id (x := 16 * y + 8) (by omega) (by omega)]
  by_cases h : sd a b c d e f ≤ 0
  · have : ¬ cv a b c d e f (16 * x + 8) (16 * y + 8) := fun hh => by have := hh.1; omega
    simp [h, this]
  · simp [h]

theorem r_s2 : r12At_s2 a b c d e f x y = !at5 a b c d e f x y := by
  obtain ⟨e0, e1, e2, e3, e4, e5⟩ := nrs H
  have g : ∀ x : Int, 0 ≤ x ∧ x ≤ 63 → IntKind.wrap .i64 (IntKind.wrap .i64 (16 * x) + 8) = 16 * x + 8 := fun x hx => by
    rw [w64_in (n := 16 * x) (by omega) (by omega)]; exact w64_in (by omega) (by omega)
  unfold r12At_s2 at5 r12At_s0 r12At_s1
  rw [rcovers_eq, g x hx, g y hy, e0, e1, e2, e3, e4, e5, nc_id (x := 16 * x + 8) (by omega) (by omega), nc_id (x := 16 * y + 8) (by omega) (by omega)]

theorem w_eqs : tWeights_0 c d e f (sMiddle_0 x) (sMiddle_1 y) = u0 c d e f x y ∧ tWeights_1 a b e f (sMiddle_0 x) (sMiddle_1 y) = u0 e f a b x y ∧ tWeights_2 a b c d (sMiddle_0 x) (sMiddle_1 y) = u0 a b c d x y := by
  obtain ⟨e0, e1, e2, e3, e4, e5⟩ := nrs H
  unfold tWeights_0 tWeights_1 tWeights_2 u0
  rw [mid_0 hx, mid_1 hy, side_eq, side_eq, side_eq, e0, e1, e2, e3, e4, e5, nc_id (x := 16 * x + 8) (by omega) (by omega), nc_id (x := 16 * y + 8) (by omega) (by omega)]
  exact ⟨rfl, rfl, rfl⟩

theorem rs_eqs : rSide_0 c d e f (r12At_s0 x) (r12At_s1 y) = u0 c d e f x y ∧ rSide_0 e f a b (r12At_s0 x) (r12At_s1 y) = u0 e f a b x y ∧ rSide_0 a b c d (r12At_s0 x) (r12At_s1 y) = u0 a b c d x y ∧ rSide_0 a b c d e f = sd a b c d e f := by
  obtain ⟨e0, e1, e2, e3, e4, e5⟩ := nrs H
  have g : ∀ x : Int, 0 ≤ x ∧ x ≤ 63 → IntKind.wrap .i64 (IntKind.wrap .i64 (16 * x) + 8) = 16 * x + 8 := fun x hx => by
    rw [w64_in (n := 16 * x) (by omega) (by omega)]; exact w64_in (by omega) (by omega)
  unfold u0 r12At_s0 r12At_s1
  rw [g x hx, g y hy, rside_eq, rside_eq, rside_eq, rside_eq, e0, e1, e2, e3, e4, e5, nc_id (x := 16 * x + 8) (by omega) (by omega), nc_id (x := 16 * y + 8) (by omega) (by omega)]
  exact ⟨rfl, rfl, rfl, rfl⟩

/-- Of a pixel that is of it, all that is asked for. -/
theorem at_w (h : at5 a b c d e f x y = true) : 0 ≤ u0 c d e f x y ∧ u0 c d e f x y ≤ 32000000 ∧ 0 ≤ u0 e f a b x y ∧ u0 e f a b x y ≤ 32000000 ∧ 0 ≤ u0 a b c d x y ∧ u0 a b c d x y ≤ 32000000 ∧ sd a b c d e f = u0 c d e f x y + u0 e f a b x y + u0 a b c d x y ∧ 0 < u0 c d e f x y + u0 e f a b x y + u0 a b c d x y := by
  have := cv_w H.ha H.hb H.hc H.hd H.he H.hf (of_decide_eq_true h)
  unfold u0
  omega

theorem at_n (h : at5 a b c d e f x y = true) : (0 ≤ u0 c d e f x y * n0 ∧ u0 c d e f x y * n0 ≤ 34359738368) ∧ (0 ≤ u0 e f a b x y * n1 ∧ u0 e f a b x y * n1 ≤ 34359738368) ∧ (0 ≤ u0 a b c d x y * n2 ∧ u0 a b c d x y * n2 ≤ 34359738368) ∧ 0 < u0 c d e f x y * n0 + u0 e f a b x y * n1 + u0 a b c d x y * n2 := by
  obtain ⟨w0, v0, w1, v1, w2, v2, _, hs⟩ := at_w H hx hy h
  have m0 := mul_in w0 v0 (show 0 ≤ n0 by have := H.m0; omega) H.m0.2
  have m1 := mul_in w1 v1 (show 0 ≤ n1 by have := H.m1; omega) H.m1.2
  have m2 := mul_in w2 v2 (show 0 ≤ n2 by have := H.m2; omega) H.m2.2
  have g0 := Int.mul_le_mul_of_nonneg_left H.m0.1 w0
  have g1 := Int.mul_le_mul_of_nonneg_left H.m1.1 w1
  have g2 := Int.mul_le_mul_of_nonneg_left H.m2.1 w2
  omega

theorem n_wrap (h : at5 a b c d e f x y = true) : IntKind.wrap .i64 (u0 c d e f x y * n0) = u0 c d e f x y * n0 ∧ IntKind.wrap .i64 (u0 e f a b x y * n1) = u0 e f a b x y * n1 ∧ IntKind.wrap .i64 (u0 a b c d x y * n2) = u0 a b c d x y * n2 ∧
    IntKind.wrap .i64 (IntKind.wrap .i64 (IntKind.wrap .i64 (0 + u0 c d e f x y * n0) + u0 e f a b x y * n1) + u0 a b c d x y * n2) = u0 c d e f x y * n0 + u0 e f a b x y * n1 + u0 a b c d x y * n2 := by
  obtain ⟨m0, m1, m2, _⟩ := at_n H hx hy h
  refine ⟨w64_in (by omega) (by omega), w64_in (by omega) (by omega), w64_in (by omega) (by omega), ?_⟩
  rw [w64_in (n := 0 + u0 c d e f x y * n0) (by omega) (by omega), w64_in (n := 0 + u0 c d e f x y * n0 + u0 e f a b x y * n1) (by omega) (by omega), w64_in (by omega) (by omega)]
  omega

theorem sat_0 : sAt_0 a b c d e f z0 z1 z2 n0 n1 n2 k00 k01 k02 k03 k10 k11 k12 k13 k20 k21 k22 k23 x y = at0 a b c d e f z0 z1 z2 x y := by
  unfold sAt_0 at0
  rw [at_s0 H hx hy]
  cases h : at5 a b c d e f x y
  · rfl
  · obtain ⟨w0, v0, w1, v1, w2, v2, hA, hs⟩ := at_w H hx hy h
    obtain ⟨g0, g1, g2⟩ := w_eqs H hx hy
    have := H.h0; have := H.h1; have := H.h2
    simp only [Bool.not_true, cond_false, cond_true]
    rw [g0, g1, g2, area_eq H]
    exact wav_floor w0 (by omega) w1 (by omega) w2 (by omega) H.h0.1 (by omega) H.h1.1 (by omega) H.h2.1 (by omega) hs hA

theorem rat_0 : r12At_0 a b c d e f z0 z1 z2 x y = at0 a b c d e f z0 z1 z2 x y := by
  unfold r12At_0 at0
  rw [r_s2 H hx hy]
  cases h : at5 a b c d e f x y
  · rfl
  · obtain ⟨w0, v0, w1, v1, w2, v2, hA, hs⟩ := at_w H hx hy h
    obtain ⟨g0, g1, g2, g3⟩ := rs_eqs H hx hy
    have := H.h0; have := H.h1; have := H.h2
    simp only [Bool.not_true, cond_false, cond_true]
    rw [g0, g1, g2, g3]
    exact wav_div w0 (by omega) w1 (by omega) w2 (by omega) H.h0.1 (by omega) H.h1.1 (by omega) H.h2.1 (by omega) hs hA

theorem sat_1 : sAt_1 a b c d e f z0 z1 z2 n0 n1 n2 k00 k01 k02 k03 k10 k11 k12 k13 k20 k21 k22 k23 x y = atk a b c d e f n0 n1 n2 k00 k10 k20 x y := by
  unfold sAt_1 atk sAt_s4 sAt_s1 sAt_s2 sAt_s3
  rw [at_s0 H hx hy]
  cases h : at5 a b c d e f x y
  · rfl
  · obtain ⟨m0, m1, m2, hp⟩ := at_n H hx hy h
    obtain ⟨q0, q1, q2, q3⟩ := n_wrap H hx hy h
    obtain ⟨g0, g1, g2⟩ := w_eqs H hx hy
    simp only [Bool.not_true, cond_false, cond_true]
    rw [g0, g1, g2, q0, q1, q2]
    exact wav_floor m0.1 m0.2 m1.1 m1.2 m2.1 m2.2 H.q00.1 H.q00.2 H.q10.1 H.q10.2 H.q20.1 H.q20.2 hp q3

theorem rat_1 : r12At_1 a b c d e f n0 n1 n2 k00 k10 k20 x y = atk a b c d e f n0 n1 n2 k00 k10 k20 x y := by
  unfold r12At_1 atk r12At_s6 r12At_s3 r12At_s4 r12At_s5
  rw [r_s2 H hx hy]
  cases h : at5 a b c d e f x y
  · rfl
  · obtain ⟨m0, m1, m2, hp⟩ := at_n H hx hy h
    obtain ⟨q0, q1, q2, q3⟩ := n_wrap H hx hy h
    obtain ⟨g0, g1, g2, _⟩ := rs_eqs H hx hy
    simp only [Bool.not_true, cond_false, cond_true]
    rw [g0, g1, g2, q0, q1, q2]
    exact wav_div m0.1 m0.2 m1.1 m1.2 m2.1 m2.2 H.q00.1 H.q00.2 H.q10.1 H.q10.2 H.q20.1 H.q20.2 hp q3

theorem sat_2 : sAt_2 a b c d e f z0 z1 z2 n0 n1 n2 k00 k01 k02 k03 k10 k11 k12 k13 k20 k21 k22 k23 x y = atk a b c d e f n0 n1 n2 k01 k11 k21 x y := by
  unfold sAt_2 atk sAt_s4 sAt_s1 sAt_s2 sAt_s3
  rw [at_s0 H hx hy]
  cases h : at5 a b c d e f x y
  · rfl
  · obtain ⟨m0, m1, m2, hp⟩ := at_n H hx hy h
    obtain ⟨q0, q1, q2, q3⟩ := n_wrap H hx hy h
    obtain ⟨g0, g1, g2⟩ := w_eqs H hx hy
    simp only [Bool.not_true, cond_false, cond_true]
    rw [g0, g1, g2, q0, q1, q2]
    exact wav_floor m0.1 m0.2 m1.1 m1.2 m2.1 m2.2 H.q01.1 H.q01.2 H.q11.1 H.q11.2 H.q21.1 H.q21.2 hp q3

theorem rat_2 : r12At_2 a b c d e f n0 n1 n2 k01 k11 k21 x y = atk a b c d e f n0 n1 n2 k01 k11 k21 x y := by
  unfold r12At_2 atk r12At_s6 r12At_s3 r12At_s4 r12At_s5
  rw [r_s2 H hx hy]
  cases h : at5 a b c d e f x y
  · rfl
  · obtain ⟨m0, m1, m2, hp⟩ := at_n H hx hy h
    obtain ⟨q0, q1, q2, q3⟩ := n_wrap H hx hy h
    obtain ⟨g0, g1, g2, _⟩ := rs_eqs H hx hy
    simp only [Bool.not_true, cond_false, cond_true]
    rw [g0, g1, g2, q0, q1, q2]
    exact wav_div m0.1 m0.2 m1.1 m1.2 m2.1 m2.2 H.q01.1 H.q01.2 H.q11.1 H.q11.2 H.q21.1 H.q21.2 hp q3

theorem sat_3 : sAt_3 a b c d e f z0 z1 z2 n0 n1 n2 k00 k01 k02 k03 k10 k11 k12 k13 k20 k21 k22 k23 x y = atk a b c d e f n0 n1 n2 k02 k12 k22 x y := by
  unfold sAt_3 atk sAt_s4 sAt_s1 sAt_s2 sAt_s3
  rw [at_s0 H hx hy]
  cases h : at5 a b c d e f x y
  · rfl
  · obtain ⟨m0, m1, m2, hp⟩ := at_n H hx hy h
    obtain ⟨q0, q1, q2, q3⟩ := n_wrap H hx hy h
    obtain ⟨g0, g1, g2⟩ := w_eqs H hx hy
    simp only [Bool.not_true, cond_false, cond_true]
    rw [g0, g1, g2, q0, q1, q2]
    exact wav_floor m0.1 m0.2 m1.1 m1.2 m2.1 m2.2 H.q02.1 H.q02.2 H.q12.1 H.q12.2 H.q22.1 H.q22.2 hp q3

theorem rat_3 : r12At_3 a b c d e f n0 n1 n2 k02 k12 k22 x y = atk a b c d e f n0 n1 n2 k02 k12 k22 x y := by
  unfold r12At_3 atk r12At_s6 r12At_s3 r12At_s4 r12At_s5
  rw [r_s2 H hx hy]
  cases h : at5 a b c d e f x y
  · rfl
  · obtain ⟨m0, m1, m2, hp⟩ := at_n H hx hy h
    obtain ⟨q0, q1, q2, q3⟩ := n_wrap H hx hy h
    obtain ⟨g0, g1, g2, _⟩ := rs_eqs H hx hy
    simp only [Bool.not_true, cond_false, cond_true]
    rw [g0, g1, g2, q0, q1, q2]
    exact wav_div m0.1 m0.2 m1.1 m1.2 m2.1 m2.2 H.q02.1 H.q02.2 H.q12.1 H.q12.2 H.q22.1 H.q22.2 hp q3

theorem sat_4 : sAt_4 a b c d e f z0 z1 z2 n0 n1 n2 k00 k01 k02 k03 k10 k11 k12 k13 k20 k21 k22 k23 x y = atk a b c d e f n0 n1 n2 k03 k13 k23 x y := by
  unfold sAt_4 atk sAt_s4 sAt_s1 sAt_s2 sAt_s3
  rw [at_s0 H hx hy]
  cases h : at5 a b c d e f x y
  · rfl
  · obtain ⟨m0, m1, m2, hp⟩ := at_n H hx hy h
    obtain ⟨q0, q1, q2, q3⟩ := n_wrap H hx hy h
    obtain ⟨g0, g1, g2⟩ := w_eqs H hx hy
    simp only [Bool.not_true, cond_false, cond_true]
    rw [g0, g1, g2, q0, q1, q2]
    exact wav_floor m0.1 m0.2 m1.1 m1.2 m2.1 m2.2 H.q03.1 H.q03.2 H.q13.1 H.q13.2 H.q23.1 H.q23.2 hp q3

theorem rat_4 : r12At_4 a b c d e f n0 n1 n2 k03 k13 k23 x y = atk a b c d e f n0 n1 n2 k03 k13 k23 x y := by
  unfold r12At_4 atk r12At_s6 r12At_s3 r12At_s4 r12At_s5
  rw [r_s2 H hx hy]
  cases h : at5 a b c d e f x y
  · rfl
  · obtain ⟨m0, m1, m2, hp⟩ := at_n H hx hy h
    obtain ⟨q0, q1, q2, q3⟩ := n_wrap H hx hy h
    obtain ⟨g0, g1, g2, _⟩ := rs_eqs H hx hy
    simp only [Bool.not_true, cond_false, cond_true]
    rw [g0, g1, g2, q0, q1, q2]
    exact wav_div m0.1 m0.2 m1.1 m1.2 m2.1 m2.2 H.q03.1 H.q03.2 H.q13.1 H.q13.2 H.q23.1 H.q23.2 hp q3


theorem sat_5 : sAt_5 a b c d e f z0 z1 z2 n0 n1 n2 k00 k01 k02 k03 k10 k11 k12 k13 k20 k21 k22 k23 x y = at5 a b c d e f x y := by
  unfold sAt_5
  rw [at_s0 H hx hy]
  cases at5 a b c d e f x y <;> rfl
theorem rat_5 : r12At_5 a b c d e f x y = at5 a b c d e f x y := by
  unfold r12At_5
  rw [r_s2 H hx hy]
  cases at5 a b c d e f x y <;> rfl

theorem rat_obs : (!r12At_s2 a b c d e f x y) = true → r12At_s6 a b c d e f n0 n1 n2 x y ≠ 0 ∧ rSide_0 a b c d e f ≠ 0 := by
  rw [r_s2 H hx hy, Bool.not_not]
  intro h
  obtain ⟨w0, v0, w1, v1, w2, v2, hA, hs⟩ := at_w H hx hy h
  obtain ⟨g0, g1, g2, g3⟩ := rs_eqs H hx hy
  obtain ⟨q0, q1, q2, q3⟩ := n_wrap H hx hy h
  obtain ⟨_, _, _, hp⟩ := at_n H hx hy h
  unfold r12At_s6 r12At_s3 r12At_s4 r12At_s5
  rw [g0, g1, g2, g3, q0, q1, q2, q3]
  omega
end

end Go.Proofs.Ytcdejlgophpdjaa
end

section
namespace Go.Proofs.Ytcdejlgophpdjaa
open Go Go.RowKit Go.Proofs.Ytcdejlgophpdjaa.V
set_option linter.unusedVariables false
set_option linter.unusedSectionVars false

theorem TB.rot {a b c d e f z0 z1 z2 n0 n1 n2 k00 k01 k02 k03 k10 k11 k12 k13 k20 k21 k22 k23 : Int} (H : TB a b c d e f z0 z1 z2 n0 n1 n2 k00 k01 k02 k03 k10 k11 k12 k13 k20 k21 k22 k23) : TB c d e f a b z1 z2 z0 n1 n2 n0 k10 k11 k12 k13 k20 k21 k22 k23 k00 k01 k02 k03 :=
  ⟨H.hc, H.hd, H.he, H.hf, H.ha, H.hb, H.h1, H.h2, H.h0, H.m1, H.m2, H.m0, H.q10, H.q11, H.q12, H.q13, H.q20, H.q21, H.q22, H.q23, H.q00, H.q01, H.q02, H.q03⟩

theorem at5_rot (a b c d e f x y : Int) : at5 c d e f a b x y = at5 a b c d e f x y := by unfold at5; rw [decide_eq_decide]; exact cv_rot ..
theorem at0_rot (a b c d e f z0 z1 z2 x y : Int) : at0 c d e f a b z1 z2 z0 x y = at0 a b c d e f z0 z1 z2 x y := by
  unfold at0; rw [at5_rot, wav_rot]
theorem atk_rot (a b c d e f n0 n1 n2 k0 k1 k2 x y : Int) : atk c d e f a b n1 n2 n0 k1 k2 k0 x y = atk a b c d e f n0 n1 n2 k0 k1 k2 x y := by
  unfold atk; rw [at5_rot, wav_rot]

theorem k_num {s : Int} (l : 0 ≤ s) (g : s ≤ 255) : 1 ≤ sm13Tri_s0 s ∧ sm13Tri_s0 s ≤ 4 := by
  unfold sm13Tri_s0
  rw [Int.tmod_eq_emod_of_nonneg l, w64_in (n := s % 4) (by omega) (by omega), w64_in (by omega) (by omega)]
  omega

theorem pt_num {x k : Int} (l : -128 ≤ x ∧ x ≤ 127) (h : 1 ≤ k ∧ k ≤ 4) : -2000 ≤ IntKind.wrap .i64 (IntKind.wrap .i64 (IntKind.wrap .i64 x * k) + 100) ∧ IntKind.wrap .i64 (IntKind.wrap .i64 (IntKind.wrap .i64 x * k) + 100) ≤ 2000 := by
  have hm : x.natAbs * k.natAbs ≤ 128 * 4 := Nat.mul_le_mul (by omega) (by omega)
  rw [← Int.natAbs_mul] at hm
  rw [w64_in (n := x) (by omega) (by omega), w64_in (n := x * k) (by omega) (by omega), w64_in (by omega) (by omega)]
  omega

theorem near_num {x : Int} (l : 0 ≤ x) (g : x ≤ 65535) : 1 ≤ IntKind.wrap .i64 (1 + IntKind.wrap .i64 (Int.tmod x 1024)) ∧ IntKind.wrap .i64 (1 + IntKind.wrap .i64 (Int.tmod x 1024)) ≤ 1024 := by
  rw [Int.tmod_eq_emod_of_nonneg l, w64_in (n := x % 1024) (by omega) (by omega), w64_in (by omega) (by omega)]
  omega

theorem bif_in {p : Int → Prop} {b : Bool} {x y : Int} (hx : p x) (hy : p y) : p (bif b then x else y) := by cases b <;> assumption

theorem sm_TB {x0 x1 x2 x3 x4 x5 x24 n0 n1 n2 z0 z1 z2 k00 k01 k02 k03 k10 k11 k12 k13 k20 k21 k22 k23 : Int} (h0 : -128 ≤ x0 ∧ x0 ≤ 127) (h1 : -128 ≤ x1 ∧ x1 ≤ 127) (h2 : -128 ≤ x2 ∧ x2 ≤ 127) (h3 : -128 ≤ x3 ∧ x3 ≤ 127) (h4 : -128 ≤ x4 ∧ x4 ≤ 127) (h5 : -128 ≤ x5 ∧ x5 ≤ 127) (l : 0 ≤ x24) (g : x24 ≤ 255)
    (m0 : 0 ≤ n0 ∧ n0 ≤ 65535) (m1 : 0 ≤ n1 ∧ n1 ≤ 65535) (m2 : 0 ≤ n2 ∧ n2 ≤ 65535) (y0 : 0 ≤ z0 ∧ z0 ≤ 65535) (y1 : 0 ≤ z1 ∧ z1 ≤ 65535) (y2 : 0 ≤ z2 ∧ z2 ≤ 65535)
    (q00 : 0 ≤ k00 ∧ k00 ≤ 65536) (q01 : 0 ≤ k01 ∧ k01 ≤ 65536) (q02 : 0 ≤ k02 ∧ k02 ≤ 65536) (q03 : 0 ≤ k03 ∧ k03 ≤ 65536) (q10 : 0 ≤ k10 ∧ k10 ≤ 65536) (q11 : 0 ≤ k11 ∧ k11 ≤ 65536) (q12 : 0 ≤ k12 ∧ k12 ≤ 65536) (q13 : 0 ≤ k13 ∧ k13 ≤ 65536) (q20 : 0 ≤ k20 ∧ k20 ≤ 65536) (q21 : 0 ≤ k21 ∧ k21 ≤ 65536) (q22 : 0 ≤ k22 ∧ k22 ≤ 65536) (q23 : 0 ≤ k23 ∧ k23 ≤ 65536) :
    TB (sm13Tri_0 x0 x1 x2 x3 x4 x5 x24) (sm13Tri_1 x0 x1 x2 x3 x4 x5 x24) (sm13Tri_2 x0 x1 x2 x3 x4 x5 x24) (sm13Tri_3 x0 x1 x2 x3 x4 x5 x24) (sm13Tri_4 x0 x1 x2 x3 x4 x5 x24) (sm13Tri_5 x0 x1 x2 x3 x4 x5 x24) z0 z1 z2 (sm13Tri_6 n0) (sm13Tri_7 n1) (sm13Tri_8 n2) k00 k01 k02 k03 k10 k11 k12 k13 k20 k21 k22 k23 := by
  have k := k_num l g
  refine ⟨?_, ?_, ?_, ?_, ?_, ?_, y0, y1, y2, near_num m0.1 m0.2, near_num m1.1 m1.2, near_num m2.1 m2.2, q00, q01, q02, q03, q10, q11, q12, q13, q20, q21, q22, q23⟩
  · exact bif_in (p := fun x => -2000 ≤ x ∧ x ≤ 2000) (pt_num h0 k) (pt_num h0 k)
  · exact bif_in (p := fun x => -2000 ≤ x ∧ x ≤ 2000) (pt_num h1 k) (pt_num h1 k)
  · exact bif_in (p := fun x => -2000 ≤ x ∧ x ≤ 2000) (pt_num h4 k) (pt_num h2 k)
  · exact bif_in (p := fun x => -2000 ≤ x ∧ x ≤ 2000) (pt_num h5 k) (pt_num h3 k)
  · exact bif_in (p := fun x => -2000 ≤ x ∧ x ≤ 2000) (pt_num h2 k) (pt_num h4 k)
  · exact bif_in (p := fun x => -2000 ≤ x ∧ x ≤ 2000) (pt_num h3 k) (pt_num h5 k)

theorem tri9 {x0 x1 x2 x3 x4 x5 x24 n0 n1 n2 z0 z1 z2 k00 k01 k02 k03 k10 k11 k12 k13 k20 k21 k22 k23 : Int}
    (T : TB (sm13Tri_0 x0 x1 x2 x3 x4 x5 x24) (sm13Tri_1 x0 x1 x2 x3 x4 x5 x24) (sm13Tri_2 x0 x1 x2 x3 x4 x5 x24) (sm13Tri_3 x0 x1 x2 x3 x4 x5 x24) (sm13Tri_4 x0 x1 x2 x3 x4 x5 x24) (sm13Tri_5 x0 x1 x2 x3 x4 x5 x24) z0 z1 z2 (sm13Tri_6 n0) (sm13Tri_7 n1) (sm13Tri_8 n2) k00 k01 k02 k03 k10 k11 k12 k13 k20 k21 k22 k23) :
    sm13Tri_9 x0 x1 x2 x3 x4 x5 x24 = decide (0 < sd (sm13Tri_0 x0 x1 x2 x3 x4 x5 x24) (sm13Tri_1 x0 x1 x2 x3 x4 x5 x24) (sm13Tri_2 x0 x1 x2 x3 x4 x5 x24) (sm13Tri_3 x0 x1 x2 x3 x4 x5 x24) (sm13Tri_4 x0 x1 x2 x3 x4 x5 x24) (sm13Tri_5 x0 x1 x2 x3 x4 x5 x24)) := by
  rw [← area_eq T]; rfl

theorem px {x m : Int} (l : 0 ≤ x) (h0 : 0 < m) (h1 : m ≤ 64) : 0 ≤ IntKind.wrap .i64 (Int.tmod x m) ∧ IntKind.wrap .i64 (Int.tmod x m) ≤ 63 := by
  have := Int.emod_nonneg x (show m ≠ 0 by omega)
  have := Int.emod_lt_of_pos x h0
  rw [Int.tmod_eq_emod_of_nonneg l, w64_in (by omega) (by omega)]
  omega

theorem b16 {x : Int} (l : 0 ≤ x) (g : x ≤ 65535) (w : IntKind.wrap .i64 x = x) : 0 ≤ IntKind.wrap .i64 x ∧ IntKind.wrap .i64 x ≤ 65536 := by omega
theorem c16 {x : Int} (l : 0 ≤ x) (g : x ≤ 65535) (w : IntKind.wrap .i64 x = x) : 0 ≤ IntKind.wrap .i64 x ∧ IntKind.wrap .i64 x ≤ 65535 := by omega

end Go.Proofs.Ytcdejlgophpdjaa
end

