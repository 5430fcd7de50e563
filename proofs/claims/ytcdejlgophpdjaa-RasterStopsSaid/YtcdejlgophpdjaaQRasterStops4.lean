/-
  The seat's program: what the evaluator asks of it; the empty table.
-/
import Derived.Test.YtcdejlgophpdjaaRows
import Derived.Test.YtcdejlgophpdjaaQRasterStops3
section
namespace Go.Proofs.Ytcdejlgophpdjaa
open Go Go.RowKit Go.Proofs.Ytcdejlgophpdjaa.V

theorem follows : Try.prog.follows .mixedOrders = true := by kernel_rfl

def tabVL : Tab := []
theorem tabVL_ok : TOK Try.prog tabVL := TOK.nil

end Go.Proofs.Ytcdejlgophpdjaa
end

section
namespace Go.Proofs.Ytcdejlgophpdjaa
open Go Go.RowKit Go.Proofs.Ytcdejlgophpdjaa.V
set_option linter.unusedVariables false

/-! azulejo/fix.Within -/
def fWithin_s0 (x0 x1 : Int) : Int := if x1 < x0 then x1 else x0
def fWithin_s1 (x1 : Int) : Int := IntKind.wrap IntKind.i64 ((0 : Int) - x1)
def fWithin_0 (x0 x1 : Int) : Int := if fWithin_s0 x0 x1 < fWithin_s1 x1 then fWithin_s1 x1 else fWithin_s0 x0 x1
theorem fWithin_p (x0 x1 : Int) : evG Try.prog tabVL 2000 109 [0, 1, 4] [] [] [.a (.int true .i64 x0), .a (.int true .i64 x1)] [] = some ([], LV.a (At.int true IntKind.i64 (fWithin_0 x0 x1)), []) := by kernel_rfl
def fWithin_c : Con
  | [.a (.int true .i64 x0), .a (.int true .i64 x1)], [] => some ([], LV.a (At.int true IntKind.i64 (fWithin_0 x0 x1)), [])
  | _, _ => none
theorem fWithin_ok : ConOK Try.prog 109 (normC fWithin_c) := normC_ok (by
  intro args bs obs lv out h ho φ vs w may ha hM
  unfold fWithin_c at h
  split at h
  · simp only [Option.some.injEq, Prod.mk.injEq] at h
    obtain ⟨rfl, rfl, rfl⟩ := h
    rename_i x0 x1
    exact evG_ok tabVL_ok follows _ _ _ _ _ (fWithin_p x0 x1) ho φ vs w may ha hM
  · cases h)
theorem fWithin_en : Enters Try.prog 109 := fun args => by kernel_rfl
-- 56 3 4 ms

/-! azulejo/fix.Floor -/
def fFloor_0 (x0 x1 : Int) : Int := bif x1 == (0 : Int) then (0 : Int) else bif bif Int.tmod x0 x1 != (0 : Int) then !decide (x0 < (0 : Int)) == decide (x1 < (0 : Int)) else false then IntKind.wrap IntKind.i64 (IntKind.wrap IntKind.i64 (Int.tdiv x0 x1) - (1 : Int)) else IntKind.wrap IntKind.i64 (Int.tdiv x0 x1)
def fFloor_o (x0 x1 : Int) : List Prop := [(!x1 == (0 : Int)) = true → x1 ≠ (0 : Int), (!x1 == (0 : Int)) = true → x1 ≠ (0 : Int)]
theorem fFloor_p (x0 x1 : Int) : evG Try.prog tabVL 2000 110 [0, 1, 4, 5, 7, 21] [] [] [.a (.int true .i64 x0), .a (.int true .i64 x1)] [] = some (fFloor_o x0 x1, LV.a (At.int true IntKind.i64 (fFloor_0 x0 x1)), []) := by kernel_rfl
def fFloor_c : Con
  | [.a (.int true .i64 x0), .a (.int true .i64 x1)], [] => some (fFloor_o x0 x1, LV.a (At.int true IntKind.i64 (fFloor_0 x0 x1)), [])
  | _, _ => none
theorem fFloor_ok : ConOK Try.prog 110 (normC fFloor_c) := normC_ok (by
  intro args bs obs lv out h ho φ vs w may ha hM
  unfold fFloor_c at h
  split at h
  · simp only [Option.some.injEq, Prod.mk.injEq] at h
    obtain ⟨rfl, rfl, rfl⟩ := h
    rename_i x0 x1
    exact evG_ok tabVL_ok follows _ _ _ _ _ (fFloor_p x0 x1) ho φ vs w may ha hM
  · cases h)
theorem fFloor_en : Enters Try.prog 110 := fun args => by kernel_rfl
-- 177 19 4 ms

/-! azulejo/vm.Colour -/
def vmColour_s0 (x0_0 : Int) : Int := if x0_0 < (0 : Int) then (0 : Int) else x0_0
def vmColour_0 (x0_0 : Int) : Int := if (65536 : Int) < vmColour_s0 x0_0 then (65536 : Int) else vmColour_s0 x0_0
def vmColour_s1 (x0_1 : Int) : Int := if x0_1 < (0 : Int) then (0 : Int) else x0_1
def vmColour_1 (x0_1 : Int) : Int := if (65536 : Int) < vmColour_s1 x0_1 then (65536 : Int) else vmColour_s1 x0_1
def vmColour_s2 (x0_2 : Int) : Int := if x0_2 < (0 : Int) then (0 : Int) else x0_2
def vmColour_2 (x0_2 : Int) : Int := if (65536 : Int) < vmColour_s2 x0_2 then (65536 : Int) else vmColour_s2 x0_2
def vmColour_s3 (x0_3 : Int) : Int := if x0_3 < (0 : Int) then (0 : Int) else x0_3
def vmColour_3 (x0_3 : Int) : Int := if (65536 : Int) < vmColour_s3 x0_3 then (65536 : Int) else vmColour_s3 x0_3
theorem vmColour_p (x0_0 x0_1 x0_2 x0_3 : Int) : evG Try.prog tabVL 2000 94 [0, 1, 2, 3, 4, 5, 6, 7] [] [] [.g [.int true .i64 x0_0, .int true .i64 x0_1, .int true .i64 x0_2, .int true .i64 x0_3]] [] = some ([], LV.g [At.int true IntKind.i64 (vmColour_0 x0_0), At.int true IntKind.i64 (vmColour_1 x0_1), At.int true IntKind.i64 (vmColour_2 x0_2), At.int true IntKind.i64 (vmColour_3 x0_3)], []) := by kernel_rfl
def vmColour_c : Con
  | [.g [.int true .i64 x0_0, .int true .i64 x0_1, .int true .i64 x0_2, .int true .i64 x0_3]], [] => some ([], LV.g [At.int true IntKind.i64 (vmColour_0 x0_0), At.int true IntKind.i64 (vmColour_1 x0_1), At.int true IntKind.i64 (vmColour_2 x0_2), At.int true IntKind.i64 (vmColour_3 x0_3)], [])
  | _, _ => none
theorem vmColour_ok : ConOK Try.prog 94 (normC vmColour_c) := normC_ok (by
  intro args bs obs lv out h ho φ vs w may ha hM
  unfold vmColour_c at h
  split at h
  · simp only [Option.some.injEq, Prod.mk.injEq] at h
    obtain ⟨rfl, rfl, rfl⟩ := h
    rename_i x0_0 x0_1 x0_2 x0_3
    exact evG_ok tabVL_ok follows _ _ _ _ _ (vmColour_p x0_0 x0_1 x0_2 x0_3) ho φ vs w may ha hM
  · cases h)
theorem vmColour_en : Enters Try.prog 94 := fun args => by kernel_rfl
-- 328 9 8 ms

/-! azulejo/azulejoref01.near -/
def rNear_0 (x0 : Int) : Int := bif decide ((16384 : Int) < x0) then (16384 : Int) else bif decide (x0 < (-16384 : Int)) then (-16384 : Int) else x0
theorem rNear_p (x0 : Int) : evG Try.prog tabVL 2000 132 [0, 2, 4, 6] [] [] [.a (.int true .i64 x0)] [] = some ([], LV.a (At.int true IntKind.i64 (rNear_0 x0)), []) := by kernel_rfl
def rNear_c : Con
  | [.a (.int true .i64 x0)], [] => some ([], LV.a (At.int true IntKind.i64 (rNear_0 x0)), [])
  | _, _ => none
theorem rNear_ok : ConOK Try.prog 132 (normC rNear_c) := normC_ok (by
  intro args bs obs lv out h ho φ vs w may ha hM
  unfold rNear_c at h
  split at h
  · simp only [Option.some.injEq, Prod.mk.injEq] at h
    obtain ⟨rfl, rfl, rfl⟩ := h
    rename_i x0
    exact evG_ok tabVL_ok follows _ _ _ _ _ (rNear_p x0) ho φ vs w may ha hM
  · cases h)
theorem rNear_en : Enters Try.prog 132 := fun args => by kernel_rfl
-- 135 15 4 ms

/-! (azulejo/azulejolaw03.Small).Tri -/
theorem sm3Tri_p (x0_0 x0_1 x0_2 x0_3 x0_4 x0_5 : Int) : evG Try.prog tabVL 2000 96 [0, 1, 2, 3, 4, 5, 6, 7, 8] [] [] [.g [.int true .i8 x0_0, .int true .i8 x0_1, .int true .i8 x0_2, .int true .i8 x0_3, .int true .i8 x0_4, .int true .i8 x0_5]] [] = some ([], LV.g [At.int true IntKind.i64 (IntKind.wrap IntKind.i64 x0_0), At.int true IntKind.i64 (IntKind.wrap IntKind.i64 x0_1), At.int true IntKind.i64 (IntKind.wrap IntKind.i64 x0_2), At.int true IntKind.i64 (IntKind.wrap IntKind.i64 x0_3), At.int true IntKind.i64 (IntKind.wrap IntKind.i64 x0_4), At.int true IntKind.i64 (IntKind.wrap IntKind.i64 x0_5)], []) := by kernel_rfl
def sm3Tri_c : Con
  | [.g [.int true .i8 x0_0, .int true .i8 x0_1, .int true .i8 x0_2, .int true .i8 x0_3, .int true .i8 x0_4, .int true .i8 x0_5]], [] => some ([], LV.g [At.int true IntKind.i64 (IntKind.wrap IntKind.i64 x0_0), At.int true IntKind.i64 (IntKind.wrap IntKind.i64 x0_1), At.int true IntKind.i64 (IntKind.wrap IntKind.i64 x0_2), At.int true IntKind.i64 (IntKind.wrap IntKind.i64 x0_3), At.int true IntKind.i64 (IntKind.wrap IntKind.i64 x0_4), At.int true IntKind.i64 (IntKind.wrap IntKind.i64 x0_5)], [])
  | _, _ => none
theorem sm3Tri_ok : ConOK Try.prog 96 (normC sm3Tri_c) := normC_ok (by
  intro args bs obs lv out h ho φ vs w may ha hM
  unfold sm3Tri_c at h
  split at h
  · simp only [Option.some.injEq, Prod.mk.injEq] at h
    obtain ⟨rfl, rfl, rfl⟩ := h
    rename_i x0_0 x0_1 x0_2 x0_3 x0_4 x0_5
    exact evG_ok tabVL_ok follows _ _ _ _ _ (sm3Tri_p x0_0 x0_1 x0_2 x0_3 x0_4 x0_5) ho φ vs w may ha hM
  · cases h)
theorem sm3Tri_en : Enters Try.prog 96 := fun args => by kernel_rfl
-- 489 6 0 ms

/-! (azulejo/edge.Tri).Turned -/
theorem tTurned_p (x0_0 x0_1 x0_2 x0_3 x0_4 x0_5 : Int) : evG Try.prog tabVL 2000 98 [0, 1, 2] [] [] [.g [.int true .i64 x0_0, .int true .i64 x0_1, .int true .i64 x0_2, .int true .i64 x0_3, .int true .i64 x0_4, .int true .i64 x0_5]] [] = some ([], LV.g [At.int true IntKind.i64 x0_0, At.int true IntKind.i64 x0_1, At.int true IntKind.i64 x0_4, At.int true IntKind.i64 x0_5, At.int true IntKind.i64 x0_2, At.int true IntKind.i64 x0_3], []) := by kernel_rfl
def tTurned_c : Con
  | [.g [.int true .i64 x0_0, .int true .i64 x0_1, .int true .i64 x0_2, .int true .i64 x0_3, .int true .i64 x0_4, .int true .i64 x0_5]], [] => some ([], LV.g [At.int true IntKind.i64 x0_0, At.int true IntKind.i64 x0_1, At.int true IntKind.i64 x0_4, At.int true IntKind.i64 x0_5, At.int true IntKind.i64 x0_2, At.int true IntKind.i64 x0_3], [])
  | _, _ => none
theorem tTurned_ok : ConOK Try.prog 98 (normC tTurned_c) := normC_ok (by
  intro args bs obs lv out h ho φ vs w may ha hM
  unfold tTurned_c at h
  split at h
  · simp only [Option.some.injEq, Prod.mk.injEq] at h
    obtain ⟨rfl, rfl, rfl⟩ := h
    rename_i x0_0 x0_1 x0_2 x0_3 x0_4 x0_5
    exact evG_ok tabVL_ok follows _ _ _ _ _ (tTurned_p x0_0 x0_1 x0_2 x0_3 x0_4 x0_5) ho φ vs w may ha hM
  · cases h)
theorem tTurned_en : Enters Try.prog 98 := fun args => by kernel_rfl
-- 68 1 0 ms

/-! azulejo/setup.Middle -/
def sMiddle_s0 (x0 : Int) : Int := if x0 < (-1 : Int) then (-1 : Int) else x0
def sMiddle_0 (x0 : Int) : Int := IntKind.wrap IntKind.i64 (IntKind.wrap IntKind.i64 ((16 : Int) * if (64 : Int) < sMiddle_s0 x0 then (64 : Int) else sMiddle_s0 x0) + (8 : Int))
def sMiddle_s1 (x1 : Int) : Int := if x1 < (-1 : Int) then (-1 : Int) else x1
def sMiddle_1 (x1 : Int) : Int := IntKind.wrap IntKind.i64 (IntKind.wrap IntKind.i64 ((16 : Int) * if (64 : Int) < sMiddle_s1 x1 then (64 : Int) else sMiddle_s1 x1) + (8 : Int))
theorem sMiddle_p (x0 x1 : Int) : evG Try.prog tabVL 2000 35 [0, 1, 4] [] [] [.a (.int true .i64 x0), .a (.int true .i64 x1)] [] = some ([], LV.g [At.int true IntKind.i64 (sMiddle_0 x0), At.int true IntKind.i64 (sMiddle_1 x1)], []) := by kernel_rfl
def sMiddle_c : Con
  | [.a (.int true .i64 x0), .a (.int true .i64 x1)], [] => some ([], LV.g [At.int true IntKind.i64 (sMiddle_0 x0), At.int true IntKind.i64 (sMiddle_1 x1)], [])
  | _, _ => none
theorem sMiddle_ok : ConOK Try.prog 35 (normC sMiddle_c) := normC_ok (by
  intro args bs obs lv out h ho φ vs w may ha hM
  unfold sMiddle_c at h
  split at h
  · simp only [Option.some.injEq, Prod.mk.injEq] at h
    obtain ⟨rfl, rfl, rfl⟩ := h
    rename_i x0 x1
    exact evG_ok tabVL_ok follows _ _ _ _ _ (sMiddle_p x0 x1) ho φ vs w may ha hM
  · cases h)
theorem sMiddle_en : Enters Try.prog 35 := fun args => by kernel_rfl
-- 107 7 7 ms

/-! azulejo/azulejolaw13.Ref -/
theorem l13Ref_p (x0_0 x0_1 x0_2 x0_3 x0_4 x0_5 x0_6 x0_7 x0_8 x0_9 x0_10 x0_11 x0_12 x0_13 x0_14 x0_15 x0_16 x0_17 x0_18 x0_19 x0_20 x0_21 x0_22 x0_23 : Int) : evG Try.prog tabVL 2000 47 [0, 1, 2, 3, 4, 5, 6] [] [] [.g [.int true .i64 x0_0, .int true .i64 x0_1, .int true .i64 x0_2, .int true .i64 x0_3, .int true .i64 x0_4, .int true .i64 x0_5, .int true .i64 x0_6, .int true .i64 x0_7, .int true .i64 x0_8, .int true .i64 x0_9, .int true .i64 x0_10, .int true .i64 x0_11, .int true .i64 x0_12, .int true .i64 x0_13, .int true .i64 x0_14, .int true .i64 x0_15, .int true .i64 x0_16, .int true .i64 x0_17, .int true .i64 x0_18, .int true .i64 x0_19, .int true .i64 x0_20, .int true .i64 x0_21, .int true .i64 x0_22, .int true .i64 x0_23]] [] = some ([], LV.g [At.int true IntKind.i64 x0_0, At.int true IntKind.i64 x0_1, At.int true IntKind.i64 x0_2, At.int true IntKind.i64 x0_3, At.int true IntKind.i64 x0_4, At.int true IntKind.i64 x0_5, At.int true IntKind.i64 x0_6, At.int true IntKind.i64 x0_7, At.int true IntKind.i64 x0_8, At.int true IntKind.i64 x0_9, At.int true IntKind.i64 x0_10, At.int true IntKind.i64 x0_11, At.int true IntKind.i64 x0_12, At.int true IntKind.i64 x0_13, At.int true IntKind.i64 x0_14, At.int true IntKind.i64 x0_15, At.int true IntKind.i64 x0_16, At.int true IntKind.i64 x0_17, At.int true IntKind.i64 x0_18, At.int true IntKind.i64 x0_19, At.int true IntKind.i64 x0_20, At.int true IntKind.i64 x0_21, At.int true IntKind.i64 x0_22, At.int true IntKind.i64 x0_23], []) := by kernel_rfl
def l13Ref_c : Con
  | [.g [.int true .i64 x0_0, .int true .i64 x0_1, .int true .i64 x0_2, .int true .i64 x0_3, .int true .i64 x0_4, .int true .i64 x0_5, .int true .i64 x0_6, .int true .i64 x0_7, .int true .i64 x0_8, .int true .i64 x0_9, .int true .i64 x0_10, .int true .i64 x0_11, .int true .i64 x0_12, .int true .i64 x0_13, .int true .i64 x0_14, .int true .i64 x0_15, .int true .i64 x0_16, .int true .i64 x0_17, .int true .i64 x0_18, .int true .i64 x0_19, .int true .i64 x0_20, .int true .i64 x0_21, .int true .i64 x0_22, .int true .i64 x0_23]], [] => some ([], LV.g [At.int true IntKind.i64 x0_0, At.int true IntKind.i64 x0_1, At.int true IntKind.i64 x0_2, At.int true IntKind.i64 x0_3, At.int true IntKind.i64 x0_4, At.int true IntKind.i64 x0_5, At.int true IntKind.i64 x0_6, At.int true IntKind.i64 x0_7, At.int true IntKind.i64 x0_8, At.int true IntKind.i64 x0_9, At.int true IntKind.i64 x0_10, At.int true IntKind.i64 x0_11, At.int true IntKind.i64 x0_12, At.int true IntKind.i64 x0_13, At.int true IntKind.i64 x0_14, At.int true IntKind.i64 x0_15, At.int true IntKind.i64 x0_16, At.int true IntKind.i64 x0_17, At.int true IntKind.i64 x0_18, At.int true IntKind.i64 x0_19, At.int true IntKind.i64 x0_20, At.int true IntKind.i64 x0_21, At.int true IntKind.i64 x0_22, At.int true IntKind.i64 x0_23], [])
  | _, _ => none
theorem l13Ref_ok : ConOK Try.prog 47 (normC l13Ref_c) := normC_ok (by
  intro args bs obs lv out h ho φ vs w may ha hM
  unfold l13Ref_c at h
  split at h
  · simp only [Option.some.injEq, Prod.mk.injEq] at h
    obtain ⟨rfl, rfl, rfl⟩ := h
    rename_i x0_0 x0_1 x0_2 x0_3 x0_4 x0_5 x0_6 x0_7 x0_8 x0_9 x0_10 x0_11 x0_12 x0_13 x0_14 x0_15 x0_16 x0_17 x0_18 x0_19 x0_20 x0_21 x0_22 x0_23
    exact evG_ok tabVL_ok follows _ _ _ _ _ (l13Ref_p x0_0 x0_1 x0_2 x0_3 x0_4 x0_5 x0_6 x0_7 x0_8 x0_9 x0_10 x0_11 x0_12 x0_13 x0_14 x0_15 x0_16 x0_17 x0_18 x0_19 x0_20 x0_21 x0_22 x0_23) ho φ vs w may ha hM
  · cases h)
theorem l13Ref_en : Enters Try.prog 47 := fun args => by kernel_rfl
-- 1263 1 1 ms

/-! azulejo/bin.tiles -/
def bTiles_s0 (x0 : Int) : Int := if x0 < (0 : Int) then (0 : Int) else x0
def bTiles_0 (x0 : Int) : Int := IntKind.wrap IntKind.i64 (Int.tdiv (IntKind.wrap IntKind.i64 (IntKind.wrap IntKind.i64 ((if (64 : Int) < bTiles_s0 x0 then (64 : Int) else bTiles_s0 x0) + (8 : Int)) - (1 : Int))) (8 : Int))
theorem bTiles_p (x0 : Int) : evG Try.prog tabVL 2000 103 [0, 2] [] [] [.a (.int true .i64 x0)] [] = some ([], LV.a (At.int true IntKind.i64 (bTiles_0 x0)), []) := by kernel_rfl
def bTiles_c : Con
  | [.a (.int true .i64 x0)], [] => some ([], LV.a (At.int true IntKind.i64 (bTiles_0 x0)), [])
  | _, _ => none
theorem bTiles_ok : ConOK Try.prog 103 (normC bTiles_c) := normC_ok (by
  intro args bs obs lv out h ho φ vs w may ha hM
  unfold bTiles_c at h
  split at h
  · simp only [Option.some.injEq, Prod.mk.injEq] at h
    obtain ⟨rfl, rfl, rfl⟩ := h
    rename_i x0
    exact evG_ok tabVL_ok follows _ _ _ _ _ (bTiles_p x0) ho φ vs w may ha hM
  · cases h)
theorem bTiles_en : Enters Try.prog 103 := fun args => by kernel_rfl
-- 62 5 5 ms

/-! azulejo/azulejolaw16.in -/
def l16in_0 (x0_0 x0_1 x0_2 x0_3 x1 x2 : Int) : Bool := bif decide (x0_0 ≤ x1) then bif decide (x1 < x0_2) then bif decide (x0_1 ≤ x2) then decide (x2 < x0_3) else false else false else false
theorem l16in_p (x0_0 x0_1 x0_2 x0_3 x1 x2 : Int) : evG Try.prog tabVL 2000 33 [0, 1, 2, 3, 6] [] [] [.g [.int true .i64 x0_0, .int true .i64 x0_1, .int true .i64 x0_2, .int true .i64 x0_3], .a (.int true .i64 x1), .a (.int true .i64 x2)] [] = some ([], LV.a (At.bool true (l16in_0 x0_0 x0_1 x0_2 x0_3 x1 x2)), []) := by kernel_rfl
def l16in_c : Con
  | [.g [.int true .i64 x0_0, .int true .i64 x0_1, .int true .i64 x0_2, .int true .i64 x0_3], .a (.int true .i64 x1), .a (.int true .i64 x2)], [] => some ([], LV.a (At.bool true (l16in_0 x0_0 x0_1 x0_2 x0_3 x1 x2)), [])
  | _, _ => none
theorem l16in_ok : ConOK Try.prog 33 (normC l16in_c) := normC_ok (by
  intro args bs obs lv out h ho φ vs w may ha hM
  unfold l16in_c at h
  split at h
  · simp only [Option.some.injEq, Prod.mk.injEq] at h
    obtain ⟨rfl, rfl, rfl⟩ := h
    rename_i x0_0 x0_1 x0_2 x0_3 x1 x2
    exact evG_ok tabVL_ok follows _ _ _ _ _ (l16in_p x0_0 x0_1 x0_2 x0_3 x1 x2) ho φ vs w may ha hM
  · cases h)
theorem l16in_en : Enters Try.prog 33 := fun args => by kernel_rfl
-- 131 20 3 ms

/-! azulejo/bin.Meet -/
def bMeet_s0 (x0_2 x1_2 : Int) : Int := if x1_2 < x0_2 then x1_2 else x0_2
def bMeet_s1 (x0_0 x1_0 : Int) : Int := if x0_0 < x1_0 then x1_0 else x0_0
def bMeet_s2 (x0_3 x1_3 : Int) : Int := if x1_3 < x0_3 then x1_3 else x0_3
def bMeet_s3 (x0_1 x1_1 : Int) : Int := if x0_1 < x1_1 then x1_1 else x0_1
def bMeet_s4 (x0_0 x0_1 x0_2 x0_3 x1_0 x1_1 x1_2 x1_3 : Int) : Bool := bif decide (bMeet_s0 x0_2 x1_2 ≤ bMeet_s1 x0_0 x1_0) then true else decide (bMeet_s2 x0_3 x1_3 ≤ bMeet_s3 x0_1 x1_1)
def bMeet_0 (x0_0 x0_1 x0_2 x0_3 x1_0 x1_1 x1_2 x1_3 : Int) : Int := bif bMeet_s4 x0_0 x0_1 x0_2 x0_3 x1_0 x1_1 x1_2 x1_3 then (0 : Int) else bMeet_s1 x0_0 x1_0
def bMeet_1 (x0_0 x0_1 x0_2 x0_3 x1_0 x1_1 x1_2 x1_3 : Int) : Int := bif bMeet_s4 x0_0 x0_1 x0_2 x0_3 x1_0 x1_1 x1_2 x1_3 then (0 : Int) else bMeet_s3 x0_1 x1_1
def bMeet_2 (x0_0 x0_1 x0_2 x0_3 x1_0 x1_1 x1_2 x1_3 : Int) : Int := bif bMeet_s4 x0_0 x0_1 x0_2 x0_3 x1_0 x1_1 x1_2 x1_3 then (0 : Int) else bMeet_s0 x0_2 x1_2
def bMeet_3 (x0_0 x0_1 x0_2 x0_3 x1_0 x1_1 x1_2 x1_3 : Int) : Int := bif bMeet_s4 x0_0 x0_1 x0_2 x0_3 x1_0 x1_1 x1_2 x1_3 then (0 : Int) else bMeet_s2 x0_3 x1_3
theorem bMeet_p (x0_0 x0_1 x0_2 x0_3 x1_0 x1_1 x1_2 x1_3 : Int) : evG Try.prog tabVL 2000 30 [0, 1, 2, 3, 4, 5, 38] [] [] [.g [.int true .i64 x0_0, .int true .i64 x0_1, .int true .i64 x0_2, .int true .i64 x0_3], .g [.int true .i64 x1_0, .int true .i64 x1_1, .int true .i64 x1_2, .int true .i64 x1_3]] [] = some ([], LV.g [At.int true IntKind.i64 (bMeet_0 x0_0 x0_1 x0_2 x0_3 x1_0 x1_1 x1_2 x1_3), At.int true IntKind.i64 (bMeet_1 x0_0 x0_1 x0_2 x0_3 x1_0 x1_1 x1_2 x1_3), At.int true IntKind.i64 (bMeet_2 x0_0 x0_1 x0_2 x0_3 x1_0 x1_1 x1_2 x1_3), At.int true IntKind.i64 (bMeet_3 x0_0 x0_1 x0_2 x0_3 x1_0 x1_1 x1_2 x1_3)], []) := by kernel_rfl
def bMeet_c : Con
  | [.g [.int true .i64 x0_0, .int true .i64 x0_1, .int true .i64 x0_2, .int true .i64 x0_3], .g [.int true .i64 x1_0, .int true .i64 x1_1, .int true .i64 x1_2, .int true .i64 x1_3]], [] => some ([], LV.g [At.int true IntKind.i64 (bMeet_0 x0_0 x0_1 x0_2 x0_3 x1_0 x1_1 x1_2 x1_3), At.int true IntKind.i64 (bMeet_1 x0_0 x0_1 x0_2 x0_3 x1_0 x1_1 x1_2 x1_3), At.int true IntKind.i64 (bMeet_2 x0_0 x0_1 x0_2 x0_3 x1_0 x1_1 x1_2 x1_3), At.int true IntKind.i64 (bMeet_3 x0_0 x0_1 x0_2 x0_3 x1_0 x1_1 x1_2 x1_3)], [])
  | _, _ => none
theorem bMeet_ok : ConOK Try.prog 30 (normC bMeet_c) := normC_ok (by
  intro args bs obs lv out h ho φ vs w may ha hM
  unfold bMeet_c at h
  split at h
  · simp only [Option.some.injEq, Prod.mk.injEq] at h
    obtain ⟨rfl, rfl, rfl⟩ := h
    rename_i x0_0 x0_1 x0_2 x0_3 x1_0 x1_1 x1_2 x1_3
    exact evG_ok tabVL_ok follows _ _ _ _ _ (bMeet_p x0_0 x0_1 x0_2 x0_3 x1_0 x1_1 x1_2 x1_3) ho φ vs w may ha hM
  · cases h)
theorem bMeet_en : Enters Try.prog 30 := fun args => by kernel_rfl
-- 191 108 9 ms

/-! azulejo/azulejolaw18.box -/
def l18box_0 (x0_0 : Int) : Int := IntKind.wrap IntKind.i64 (IntKind.wrap IntKind.i64 (Int.tmod x0_0 (30 : Int)) - (2 : Int))
def l18box_1 (x0_1 : Int) : Int := IntKind.wrap IntKind.i64 (IntKind.wrap IntKind.i64 (Int.tmod x0_1 (30 : Int)) - (2 : Int))
def l18box_2 (x0_2 : Int) : Int := IntKind.wrap IntKind.i64 (Int.tmod x0_2 (70 : Int))
def l18box_3 (x0_3 : Int) : Int := IntKind.wrap IntKind.i64 (Int.tmod x0_3 (70 : Int))
theorem l18box_p (x0_0 x0_1 x0_2 x0_3 : Int) : evG Try.prog tabVL 2000 44 [0, 1, 2] [] [] [.g [.int true .u8 x0_0, .int true .u8 x0_1, .int true .u8 x0_2, .int true .u8 x0_3]] [] = some ([], LV.g [At.int true IntKind.i64 (l18box_0 x0_0), At.int true IntKind.i64 (l18box_1 x0_1), At.int true IntKind.i64 (l18box_2 x0_2), At.int true IntKind.i64 (l18box_3 x0_3)], []) := by kernel_rfl
def l18box_c : Con
  | [.g [.int true .u8 x0_0, .int true .u8 x0_1, .int true .u8 x0_2, .int true .u8 x0_3]], [] => some ([], LV.g [At.int true IntKind.i64 (l18box_0 x0_0), At.int true IntKind.i64 (l18box_1 x0_1), At.int true IntKind.i64 (l18box_2 x0_2), At.int true IntKind.i64 (l18box_3 x0_3)], [])
  | _, _ => none
theorem l18box_ok : ConOK Try.prog 44 (normC l18box_c) := normC_ok (by
  intro args bs obs lv out h ho φ vs w may ha hM
  unfold l18box_c at h
  split at h
  · simp only [Option.some.injEq, Prod.mk.injEq] at h
    obtain ⟨rfl, rfl, rfl⟩ := h
    rename_i x0_0 x0_1 x0_2 x0_3
    exact evG_ok tabVL_ok follows _ _ _ _ _ (l18box_p x0_0 x0_1 x0_2 x0_3) ho φ vs w may ha hM
  · cases h)
theorem l18box_en : Enters Try.prog 44 := fun args => by kernel_rfl
-- 104 5 4 ms

/-! azulejo/raster.Cells -/
theorem rCells_p (x0_0 x0_1 x0_2 x0_3 x0_4 x0_5 x0_6 x0_7 x0_8 x0_9 x0_10 x0_11 x0_12 x0_13 x0_14 x0_15 x0_16 x0_17 x0_18 x0_19 x0_20 x0_21 x0_22 x0_23 x1_0 x1_1 x1_2 x1_3 : Int) : evG Try.prog tabVL 2000 48 [0, 1, 2, 3, 4] [] [] [.g [.int true .i64 x0_0, .int true .i64 x0_1, .int true .i64 x0_2, .int true .i64 x0_3, .int true .i64 x0_4, .int true .i64 x0_5, .int true .i64 x0_6, .int true .i64 x0_7, .int true .i64 x0_8, .int true .i64 x0_9, .int true .i64 x0_10, .int true .i64 x0_11, .int true .i64 x0_12, .int true .i64 x0_13, .int true .i64 x0_14, .int true .i64 x0_15, .int true .i64 x0_16, .int true .i64 x0_17, .int true .i64 x0_18, .int true .i64 x0_19, .int true .i64 x0_20, .int true .i64 x0_21, .int true .i64 x0_22, .int true .i64 x0_23], .g [.int true .i64 x1_0, .int true .i64 x1_1, .int true .i64 x1_2, .int true .i64 x1_3]] [] = some ([], LV.a (At.fn (nat_lit 108) [(nat_lit 0, nat_lit 0), (nat_lit 1, nat_lit 0)]), [some (BC.mk (Hd.mk (nat_lit 0) (nat_lit 24) false none) [some (At.int true IntKind.i64 x0_0), some (At.int true IntKind.i64 x0_1), some (At.int true IntKind.i64 x0_2), some (At.int true IntKind.i64 x0_3), some (At.int true IntKind.i64 x0_4), some (At.int true IntKind.i64 x0_5), some (At.int true IntKind.i64 x0_6), some (At.int true IntKind.i64 x0_7), some (At.int true IntKind.i64 x0_8), some (At.int true IntKind.i64 x0_9), some (At.int true IntKind.i64 x0_10), some (At.int true IntKind.i64 x0_11), some (At.int true IntKind.i64 x0_12), some (At.int true IntKind.i64 x0_13), some (At.int true IntKind.i64 x0_14), some (At.int true IntKind.i64 x0_15), some (At.int true IntKind.i64 x0_16), some (At.int true IntKind.i64 x0_17), some (At.int true IntKind.i64 x0_18), some (At.int true IntKind.i64 x0_19), some (At.int true IntKind.i64 x0_20), some (At.int true IntKind.i64 x0_21), some (At.int true IntKind.i64 x0_22), some (At.int true IntKind.i64 x0_23)]), some (BC.mk (Hd.mk (nat_lit 0) (nat_lit 4) false none) [some (At.int true IntKind.i64 x1_0), some (At.int true IntKind.i64 x1_1), some (At.int true IntKind.i64 x1_2), some (At.int true IntKind.i64 x1_3)])]) := by kernel_rfl
def rCells_c : Con
  | [.g [.int true .i64 x0_0, .int true .i64 x0_1, .int true .i64 x0_2, .int true .i64 x0_3, .int true .i64 x0_4, .int true .i64 x0_5, .int true .i64 x0_6, .int true .i64 x0_7, .int true .i64 x0_8, .int true .i64 x0_9, .int true .i64 x0_10, .int true .i64 x0_11, .int true .i64 x0_12, .int true .i64 x0_13, .int true .i64 x0_14, .int true .i64 x0_15, .int true .i64 x0_16, .int true .i64 x0_17, .int true .i64 x0_18, .int true .i64 x0_19, .int true .i64 x0_20, .int true .i64 x0_21, .int true .i64 x0_22, .int true .i64 x0_23], .g [.int true .i64 x1_0, .int true .i64 x1_1, .int true .i64 x1_2, .int true .i64 x1_3]], [] => some ([], LV.a (At.fn (nat_lit 108) [(nat_lit 0, nat_lit 0), (nat_lit 1, nat_lit 0)]), [some (BC.mk (Hd.mk (nat_lit 0) (nat_lit 24) false none) [some (At.int true IntKind.i64 x0_0), some (At.int true IntKind.i64 x0_1), some (At.int true IntKind.i64 x0_2), some (At.int true IntKind.i64 x0_3), some (At.int true IntKind.i64 x0_4), some (At.int true IntKind.i64 x0_5), some (At.int true IntKind.i64 x0_6), some (At.int true IntKind.i64 x0_7), some (At.int true IntKind.i64 x0_8), some (At.int true IntKind.i64 x0_9), some (At.int true IntKind.i64 x0_10), some (At.int true IntKind.i64 x0_11), some (At.int true IntKind.i64 x0_12), some (At.int true IntKind.i64 x0_13), some (At.int true IntKind.i64 x0_14), some (At.int true IntKind.i64 x0_15), some (At.int true IntKind.i64 x0_16), some (At.int true IntKind.i64 x0_17), some (At.int true IntKind.i64 x0_18), some (At.int true IntKind.i64 x0_19), some (At.int true IntKind.i64 x0_20), some (At.int true IntKind.i64 x0_21), some (At.int true IntKind.i64 x0_22), some (At.int true IntKind.i64 x0_23)]), some (BC.mk (Hd.mk (nat_lit 0) (nat_lit 4) false none) [some (At.int true IntKind.i64 x1_0), some (At.int true IntKind.i64 x1_1), some (At.int true IntKind.i64 x1_2), some (At.int true IntKind.i64 x1_3)])])
  | _, _ => none
theorem rCells_ok : ConOK Try.prog 48 (normC rCells_c) := normC_ok (by
  intro args bs obs lv out h ho φ vs w may ha hM
  unfold rCells_c at h
  split at h
  · simp only [Option.some.injEq, Prod.mk.injEq] at h
    obtain ⟨rfl, rfl, rfl⟩ := h
    rename_i x0_0 x0_1 x0_2 x0_3 x0_4 x0_5 x0_6 x0_7 x0_8 x0_9 x0_10 x0_11 x0_12 x0_13 x0_14 x0_15 x0_16 x0_17 x0_18 x0_19 x0_20 x0_21 x0_22 x0_23 x1_0 x1_1 x1_2 x1_3
    exact evG_ok tabVL_ok follows _ _ _ _ _ (rCells_p x0_0 x0_1 x0_2 x0_3 x0_4 x0_5 x0_6 x0_7 x0_8 x0_9 x0_10 x0_11 x0_12 x0_13 x0_14 x0_15 x0_16 x0_17 x0_18 x0_19 x0_20 x0_21 x0_22 x0_23 x1_0 x1_1 x1_2 x1_3) ho φ vs w may ha hM
  · cases h)
theorem rCells_en : Enters Try.prog 48 := fun args => by kernel_rfl
-- 40 67 1 ms

def tabRa1 : Tab := (109, normC fWithin_c) :: (110, normC fFloor_c) :: (94, normC vmColour_c) :: (132, normC rNear_c) :: (96, normC sm3Tri_c) :: (98, normC tTurned_c) :: (35, normC sMiddle_c) :: (47, normC l13Ref_c) :: (103, normC bTiles_c) :: (33, normC l16in_c) :: (30, normC bMeet_c) :: (44, normC l18box_c) :: (48, normC rCells_c) :: tabVL
theorem tabRa1_ok : TOK Try.prog tabRa1 := TOK.cons fWithin_en fWithin_ok (TOK.cons fFloor_en fFloor_ok (TOK.cons vmColour_en vmColour_ok (TOK.cons rNear_en rNear_ok (TOK.cons sm3Tri_en sm3Tri_ok (TOK.cons tTurned_en tTurned_ok (TOK.cons sMiddle_en sMiddle_ok (TOK.cons l13Ref_en l13Ref_ok (TOK.cons bTiles_en bTiles_ok (TOK.cons l16in_en l16in_ok (TOK.cons bMeet_en bMeet_ok (TOK.cons l18box_en l18box_ok (TOK.cons rCells_en rCells_ok (tabVL_ok)))))))))))))

end Go.Proofs.Ytcdejlgophpdjaa
end

section
namespace Go.Proofs.Ytcdejlgophpdjaa
open Go Go.RowKit Go.Proofs.Ytcdejlgophpdjaa.V
set_option linter.unusedVariables false

/-! (azulejo/edge.Point).near -/
def eNear_0 (x0_0 : Int) : Int := fWithin_0 x0_0 (16384 : Int)
def eNear_1 (x0_1 : Int) : Int := fWithin_0 x0_1 (16384 : Int)
theorem eNear_p (x0_0 x0_1 : Int) : evG Try.prog tabRa1 2000 130 [0, 1, 2] [] [] [.g [.int true .i64 x0_0, .int true .i64 x0_1]] [] = some ([], LV.g [At.int true IntKind.i64 (eNear_0 x0_0), At.int true IntKind.i64 (eNear_1 x0_1)], []) := by kernel_rfl
def eNear_c : Con
  | [.g [.int true .i64 x0_0, .int true .i64 x0_1]], [] => some ([], LV.g [At.int true IntKind.i64 (eNear_0 x0_0), At.int true IntKind.i64 (eNear_1 x0_1)], [])
  | _, _ => none
theorem eNear_ok : ConOK Try.prog 130 (normC eNear_c) := normC_ok (by
  intro args bs obs lv out h ho φ vs w may ha hM
  unfold eNear_c at h
  split at h
  · simp only [Option.some.injEq, Prod.mk.injEq] at h
    obtain ⟨rfl, rfl, rfl⟩ := h
    rename_i x0_0 x0_1
    exact evG_ok tabRa1_ok follows _ _ _ _ _ (eNear_p x0_0 x0_1) ho φ vs w may ha hM
  · cases h)
theorem eNear_en : Enters Try.prog 130 := fun args => by kernel_rfl
-- 128 2 3 ms

/-! azulejo/azulejoref01.Side -/
def rSide_0 (x0_0 x0_1 x1_0 x1_1 x2_0 x2_1 : Int) : Int := IntKind.wrap IntKind.i64 (IntKind.wrap IntKind.i64 (IntKind.wrap IntKind.i64 (rNear_0 x1_0 - rNear_0 x0_0) * IntKind.wrap IntKind.i64 (rNear_0 x2_1 - rNear_0 x0_1)) - IntKind.wrap IntKind.i64 (IntKind.wrap IntKind.i64 (rNear_0 x1_1 - rNear_0 x0_1) * IntKind.wrap IntKind.i64 (rNear_0 x2_0 - rNear_0 x0_0)))
theorem rSide_p (x0_0 x0_1 x1_0 x1_1 x2_0 x2_1 : Int) : evG Try.prog tabRa1 2000 107 [0, 1, 2, 3, 4, 5, 6, 7, 8] [] [] [.g [.int true .i64 x0_0, .int true .i64 x0_1], .g [.int true .i64 x1_0, .int true .i64 x1_1], .g [.int true .i64 x2_0, .int true .i64 x2_1]] [] = some ([], LV.a (At.int true IntKind.i64 (rSide_0 x0_0 x0_1 x1_0 x1_1 x2_0 x2_1)), []) := by kernel_rfl
def rSide_c : Con
  | [.g [.int true .i64 x0_0, .int true .i64 x0_1], .g [.int true .i64 x1_0, .int true .i64 x1_1], .g [.int true .i64 x2_0, .int true .i64 x2_1]], [] => some ([], LV.a (At.int true IntKind.i64 (rSide_0 x0_0 x0_1 x1_0 x1_1 x2_0 x2_1)), [])
  | _, _ => none
theorem rSide_ok : ConOK Try.prog 107 (normC rSide_c) := normC_ok (by
  intro args bs obs lv out h ho φ vs w may ha hM
  unfold rSide_c at h
  split at h
  · simp only [Option.some.injEq, Prod.mk.injEq] at h
    obtain ⟨rfl, rfl, rfl⟩ := h
    rename_i x0_0 x0_1 x1_0 x1_1 x2_0 x2_1
    exact evG_ok tabRa1_ok follows _ _ _ _ _ (rSide_p x0_0 x0_1 x1_0 x1_1 x2_0 x2_1) ho φ vs w may ha hM
  · cases h)
theorem rSide_en : Enters Try.prog 107 := fun args => by kernel_rfl
-- 297 9 5 ms

/-! (azulejo/bin.Grid).Cols -/
theorem bCols_p (x0_0 x0_1 : Int) : evG Try.prog tabRa1 2000 36 [0, 1, 2] [] [] [.g [.int true .i64 x0_0, .int true .i64 x0_1]] [] = some ([], LV.a (At.int true IntKind.i64 (bTiles_0 x0_0)), []) := by kernel_rfl
def bCols_c : Con
  | [.g [.int true .i64 x0_0, .int true .i64 x0_1]], [] => some ([], LV.a (At.int true IntKind.i64 (bTiles_0 x0_0)), [])
  | _, _ => none
theorem bCols_ok : ConOK Try.prog 36 (normC bCols_c) := normC_ok (by
  intro args bs obs lv out h ho φ vs w may ha hM
  unfold bCols_c at h
  split at h
  · simp only [Option.some.injEq, Prod.mk.injEq] at h
    obtain ⟨rfl, rfl, rfl⟩ := h
    rename_i x0_0 x0_1
    exact evG_ok tabRa1_ok follows _ _ _ _ _ (bCols_p x0_0 x0_1) ho φ vs w may ha hM
  · cases h)
theorem bCols_en : Enters Try.prog 36 := fun args => by kernel_rfl
-- 78 2 0 ms

/-! (azulejo/bin.Grid).Rows -/
theorem bRows_p (x0_0 x0_1 : Int) : evG Try.prog tabRa1 2000 100 [0, 1, 2] [] [] [.g [.int true .i64 x0_0, .int true .i64 x0_1]] [] = some ([], LV.a (At.int true IntKind.i64 (bTiles_0 x0_1)), []) := by kernel_rfl
def bRows_c : Con
  | [.g [.int true .i64 x0_0, .int true .i64 x0_1]], [] => some ([], LV.a (At.int true IntKind.i64 (bTiles_0 x0_1)), [])
  | _, _ => none
theorem bRows_ok : ConOK Try.prog 100 (normC bRows_c) := normC_ok (by
  intro args bs obs lv out h ho φ vs w may ha hM
  unfold bRows_c at h
  split at h
  · simp only [Option.some.injEq, Prod.mk.injEq] at h
    obtain ⟨rfl, rfl, rfl⟩ := h
    rename_i x0_0 x0_1
    exact evG_ok tabRa1_ok follows _ _ _ _ _ (bRows_p x0_0 x0_1) ho φ vs w may ha hM
  · cases h)
theorem bRows_en : Enters Try.prog 100 := fun args => by kernel_rfl
-- 55 1 1 ms

def tabRa2 : Tab := (130, normC eNear_c) :: (107, normC rSide_c) :: (36, normC bCols_c) :: (100, normC bRows_c) :: tabRa1
theorem tabRa2_ok : TOK Try.prog tabRa2 := TOK.cons eNear_en eNear_ok (TOK.cons rSide_en rSide_ok (TOK.cons bCols_en bCols_ok (TOK.cons bRows_en bRows_ok (tabRa1_ok))))

end Go.Proofs.Ytcdejlgophpdjaa
end

section
namespace Go.Proofs.Ytcdejlgophpdjaa
open Go Go.RowKit Go.Proofs.Ytcdejlgophpdjaa.V
set_option linter.unusedVariables false

/-! azulejo/edge.Side -/
def eSide_0 (x0_0 x0_1 x1_0 x1_1 x2_0 x2_1 : Int) : Int := IntKind.wrap IntKind.i64 (IntKind.wrap IntKind.i64 (IntKind.wrap IntKind.i64 (eNear_0 x1_0 - eNear_0 x0_0) * IntKind.wrap IntKind.i64 (eNear_1 x2_1 - eNear_1 x0_1)) - IntKind.wrap IntKind.i64 (IntKind.wrap IntKind.i64 (eNear_1 x1_1 - eNear_1 x0_1) * IntKind.wrap IntKind.i64 (eNear_0 x2_0 - eNear_0 x0_0)))
theorem eSide_p (x0_0 x0_1 x1_0 x1_1 x2_0 x2_1 : Int) : evG Try.prog tabRa2 2000 111 [0, 1, 2, 3, 4, 5, 6] [] [] [.g [.int true .i64 x0_0, .int true .i64 x0_1], .g [.int true .i64 x1_0, .int true .i64 x1_1], .g [.int true .i64 x2_0, .int true .i64 x2_1]] [] = some ([], LV.a (At.int true IntKind.i64 (eSide_0 x0_0 x0_1 x1_0 x1_1 x2_0 x2_1)), []) := by kernel_rfl
def eSide_c : Con
  | [.g [.int true .i64 x0_0, .int true .i64 x0_1], .g [.int true .i64 x1_0, .int true .i64 x1_1], .g [.int true .i64 x2_0, .int true .i64 x2_1]], [] => some ([], LV.a (At.int true IntKind.i64 (eSide_0 x0_0 x0_1 x1_0 x1_1 x2_0 x2_1)), [])
  | _, _ => none
theorem eSide_ok : ConOK Try.prog 111 (normC eSide_c) := normC_ok (by
  intro args bs obs lv out h ho φ vs w may ha hM
  unfold eSide_c at h
  split at h
  · simp only [Option.some.injEq, Prod.mk.injEq] at h
    obtain ⟨rfl, rfl, rfl⟩ := h
    rename_i x0_0 x0_1 x1_0 x1_1 x2_0 x2_1
    exact evG_ok tabRa2_ok follows _ _ _ _ _ (eSide_p x0_0 x0_1 x1_0 x1_1 x2_0 x2_1) ho φ vs w may ha hM
  · cases h)
theorem eSide_en : Enters Try.prog 111 := fun args => by kernel_rfl
-- 152 5 3 ms

/-! azulejo/edge.Owns -/
def eOwns_0 (x0_0 x0_1 x1_0 x1_1 : Int) : Bool := bif decide (eNear_1 x1_1 < eNear_1 x0_1) then true else bif eNear_1 x0_1 == eNear_1 x1_1 then decide (eNear_0 x0_0 < eNear_0 x1_0) else false
theorem eOwns_p (x0_0 x0_1 x1_0 x1_1 : Int) : evG Try.prog tabRa2 2000 102 [0, 1, 2, 3, 4] [] [] [.g [.int true .i64 x0_0, .int true .i64 x0_1], .g [.int true .i64 x1_0, .int true .i64 x1_1]] [] = some ([], LV.a (At.bool true (eOwns_0 x0_0 x0_1 x1_0 x1_1)), []) := by kernel_rfl
def eOwns_c : Con
  | [.g [.int true .i64 x0_0, .int true .i64 x0_1], .g [.int true .i64 x1_0, .int true .i64 x1_1]], [] => some ([], LV.a (At.bool true (eOwns_0 x0_0 x0_1 x1_0 x1_1)), [])
  | _, _ => none
theorem eOwns_ok : ConOK Try.prog 102 (normC eOwns_c) := normC_ok (by
  intro args bs obs lv out h ho φ vs w may ha hM
  unfold eOwns_c at h
  split at h
  · simp only [Option.some.injEq, Prod.mk.injEq] at h
    obtain ⟨rfl, rfl, rfl⟩ := h
    rename_i x0_0 x0_1 x1_0 x1_1
    exact evG_ok tabRa2_ok follows _ _ _ _ _ (eOwns_p x0_0 x0_1 x1_0 x1_1) ho φ vs w may ha hM
  · cases h)
theorem eOwns_en : Enters Try.prog 102 := fun args => by kernel_rfl
-- 214 16 2 ms

/-! (azulejo/edge.Tri).Box -/
def eBox_s0 (x0_0 x0_2 : Int) : Int := if eNear_0 x0_2 < eNear_0 x0_0 then eNear_0 x0_2 else eNear_0 x0_0
def eBox_0 (x0_0 x0_2 x0_4 : Int) : Int := if eNear_0 x0_4 < eBox_s0 x0_0 x0_2 then eNear_0 x0_4 else eBox_s0 x0_0 x0_2
def eBox_s1 (x0_1 x0_3 : Int) : Int := if eNear_1 x0_3 < eNear_1 x0_1 then eNear_1 x0_3 else eNear_1 x0_1
def eBox_1 (x0_1 x0_3 x0_5 : Int) : Int := if eNear_1 x0_5 < eBox_s1 x0_1 x0_3 then eNear_1 x0_5 else eBox_s1 x0_1 x0_3
def eBox_s2 (x0_0 x0_2 : Int) : Int := if eNear_0 x0_0 < eNear_0 x0_2 then eNear_0 x0_2 else eNear_0 x0_0
def eBox_2 (x0_0 x0_2 x0_4 : Int) : Int := if eBox_s2 x0_0 x0_2 < eNear_0 x0_4 then eNear_0 x0_4 else eBox_s2 x0_0 x0_2
def eBox_s3 (x0_1 x0_3 : Int) : Int := if eNear_1 x0_1 < eNear_1 x0_3 then eNear_1 x0_3 else eNear_1 x0_1
def eBox_3 (x0_1 x0_3 x0_5 : Int) : Int := if eBox_s3 x0_1 x0_3 < eNear_1 x0_5 then eNear_1 x0_5 else eBox_s3 x0_1 x0_3
theorem eBox_p (x0_0 x0_1 x0_2 x0_3 x0_4 x0_5 : Int) : evG Try.prog tabRa2 2000 101 [0, 1, 2, 3, 4, 5, 7, 14, 15, 16, 17] [] [] [.g [.int true .i64 x0_0, .int true .i64 x0_1, .int true .i64 x0_2, .int true .i64 x0_3, .int true .i64 x0_4, .int true .i64 x0_5]] [] = some ([], LV.t [LV.g [At.int true IntKind.i64 (eBox_0 x0_0 x0_2 x0_4), At.int true IntKind.i64 (eBox_1 x0_1 x0_3 x0_5)], LV.g [At.int true IntKind.i64 (eBox_2 x0_0 x0_2 x0_4), At.int true IntKind.i64 (eBox_3 x0_1 x0_3 x0_5)]], []) := by kernel_rfl
def eBox_c : Con
  | [.g [.int true .i64 x0_0, .int true .i64 x0_1, .int true .i64 x0_2, .int true .i64 x0_3, .int true .i64 x0_4, .int true .i64 x0_5]], [] => some ([], LV.t [LV.g [At.int true IntKind.i64 (eBox_0 x0_0 x0_2 x0_4), At.int true IntKind.i64 (eBox_1 x0_1 x0_3 x0_5)], LV.g [At.int true IntKind.i64 (eBox_2 x0_0 x0_2 x0_4), At.int true IntKind.i64 (eBox_3 x0_1 x0_3 x0_5)]], [])
  | _, _ => none
theorem eBox_ok : ConOK Try.prog 101 (normC eBox_c) := normC_ok (by
  intro args bs obs lv out h ho φ vs w may ha hM
  unfold eBox_c at h
  split at h
  · simp only [Option.some.injEq, Prod.mk.injEq] at h
    obtain ⟨rfl, rfl, rfl⟩ := h
    rename_i x0_0 x0_1 x0_2 x0_3 x0_4 x0_5
    exact evG_ok tabRa2_ok follows _ _ _ _ _ (eBox_p x0_0 x0_1 x0_2 x0_3 x0_4 x0_5) ho φ vs w may ha hM
  · cases h)
theorem eBox_en : Enters Try.prog 101 := fun args => by kernel_rfl
-- 380 9 9 ms

/-! azulejo/azulejoref01.Covers -/
def rCovers_s0 (x0_0 x0_1 x0_2 x0_3 x1_0 x1_1 : Int) : Bool := decide (rSide_0 x0_0 x0_1 x0_2 x0_3 x1_0 x1_1 < (0 : Int))
def rCovers_s1 (x0_0 x0_1 x0_2 x0_3 x1_0 x1_1 : Int) : Bool := bif rSide_0 x0_0 x0_1 x0_2 x0_3 x1_0 x1_1 == (0 : Int) then bif !decide (rNear_0 x0_3 < rNear_0 x0_1) then !bif rNear_0 x0_3 == rNear_0 x0_1 then decide (rNear_0 x0_0 < rNear_0 x0_2) else false else false else false
def rCovers_s2 (x0_2 x0_3 x0_4 x0_5 x1_0 x1_1 : Int) : Bool := decide (rSide_0 x0_2 x0_3 x0_4 x0_5 x1_0 x1_1 < (0 : Int))
def rCovers_s3 (x0_2 x0_3 x0_4 x0_5 x1_0 x1_1 : Int) : Bool := bif rSide_0 x0_2 x0_3 x0_4 x0_5 x1_0 x1_1 == (0 : Int) then bif !decide (rNear_0 x0_5 < rNear_0 x0_3) then !bif rNear_0 x0_5 == rNear_0 x0_3 then decide (rNear_0 x0_2 < rNear_0 x0_4) else false else false else false
def rCovers_s4 (x0_0 x0_1 x0_4 x0_5 x1_0 x1_1 : Int) : Bool := decide (rSide_0 x0_4 x0_5 x0_0 x0_1 x1_0 x1_1 < (0 : Int))
def rCovers_0 (x0_0 x0_1 x0_2 x0_3 x0_4 x0_5 x1_0 x1_1 : Int) : Bool := bif decide (rSide_0 x0_0 x0_1 x0_2 x0_3 x0_4 x0_5 ≤ (0 : Int)) then false else bif rCovers_s0 x0_0 x0_1 x0_2 x0_3 x1_0 x1_1 || !rCovers_s0 x0_0 x0_1 x0_2 x0_3 x1_0 x1_1 && rCovers_s1 x0_0 x0_1 x0_2 x0_3 x1_0 x1_1 || !rCovers_s0 x0_0 x0_1 x0_2 x0_3 x1_0 x1_1 && !rCovers_s1 x0_0 x0_1 x0_2 x0_3 x1_0 x1_1 && (rCovers_s2 x0_2 x0_3 x0_4 x0_5 x1_0 x1_1 || !rCovers_s2 x0_2 x0_3 x0_4 x0_5 x1_0 x1_1 && rCovers_s3 x0_2 x0_3 x0_4 x0_5 x1_0 x1_1 || !rCovers_s2 x0_2 x0_3 x0_4 x0_5 x1_0 x1_1 && !rCovers_s3 x0_2 x0_3 x0_4 x0_5 x1_0 x1_1 && (rCovers_s4 x0_0 x0_1 x0_4 x0_5 x1_0 x1_1 || !rCovers_s4 x0_0 x0_1 x0_4 x0_5 x1_0 x1_1 && bif rSide_0 x0_4 x0_5 x0_0 x0_1 x1_0 x1_1 == (0 : Int) then bif !decide (rNear_0 x0_1 < rNear_0 x0_5) then !bif rNear_0 x0_1 == rNear_0 x0_5 then decide (rNear_0 x0_4 < rNear_0 x0_0) else false else false else false)) then false else true
theorem rCovers_p (x0_0 x0_1 x0_2 x0_3 x0_4 x0_5 x1_0 x1_1 : Int) : evG Try.prog tabRa2 2000 106 [0, 1, 2, 3, 4, 5, 6, 7, 8, 9, 10, 18, 20, 36, 69] [] [] [.g [.int true .i64 x0_0, .int true .i64 x0_1, .int true .i64 x0_2, .int true .i64 x0_3, .int true .i64 x0_4, .int true .i64 x0_5], .g [.int true .i64 x1_0, .int true .i64 x1_1]] [] = some ([], LV.a (At.bool true (rCovers_0 x0_0 x0_1 x0_2 x0_3 x0_4 x0_5 x1_0 x1_1)), []) := by kernel_rfl
def rCovers_c : Con
  | [.g [.int true .i64 x0_0, .int true .i64 x0_1, .int true .i64 x0_2, .int true .i64 x0_3, .int true .i64 x0_4, .int true .i64 x0_5], .g [.int true .i64 x1_0, .int true .i64 x1_1]], [] => some ([], LV.a (At.bool true (rCovers_0 x0_0 x0_1 x0_2 x0_3 x0_4 x0_5 x1_0 x1_1)), [])
  | _, _ => none
theorem rCovers_ok : ConOK Try.prog 106 (normC rCovers_c) := normC_ok (by
  intro args bs obs lv out h ho φ vs w may ha hM
  unfold rCovers_c at h
  split at h
  · simp only [Option.some.injEq, Prod.mk.injEq] at h
    obtain ⟨rfl, rfl, rfl⟩ := h
    rename_i x0_0 x0_1 x0_2 x0_3 x0_4 x0_5 x1_0 x1_1
    exact evG_ok tabRa2_ok follows _ _ _ _ _ (rCovers_p x0_0 x0_1 x0_2 x0_3 x0_4 x0_5 x1_0 x1_1) ho φ vs w may ha hM
  · cases h)
theorem rCovers_en : Enters Try.prog 106 := fun args => by kernel_rfl
-- 1447 416 14 ms

/-! (azulejo/bin.Grid).Tiles -/
def bGTiles_0 (x0_0 x0_1 : Int) : Int := IntKind.wrap IntKind.i64 (bTiles_0 x0_0 * bTiles_0 x0_1)
theorem bGTiles_p (x0_0 x0_1 : Int) : evG Try.prog tabRa2 2000 29 [0, 1, 2] [] [] [.g [.int true .i64 x0_0, .int true .i64 x0_1]] [] = some ([], LV.a (At.int true IntKind.i64 (bGTiles_0 x0_0 x0_1)), []) := by kernel_rfl
def bGTiles_c : Con
  | [.g [.int true .i64 x0_0, .int true .i64 x0_1]], [] => some ([], LV.a (At.int true IntKind.i64 (bGTiles_0 x0_0 x0_1)), [])
  | _, _ => none
theorem bGTiles_ok : ConOK Try.prog 29 (normC bGTiles_c) := normC_ok (by
  intro args bs obs lv out h ho φ vs w may ha hM
  unfold bGTiles_c at h
  split at h
  · simp only [Option.some.injEq, Prod.mk.injEq] at h
    obtain ⟨rfl, rfl, rfl⟩ := h
    rename_i x0_0 x0_1
    exact evG_ok tabRa2_ok follows _ _ _ _ _ (bGTiles_p x0_0 x0_1) ho φ vs w may ha hM
  · cases h)
theorem bGTiles_en : Enters Try.prog 29 := fun args => by kernel_rfl
-- 99 2 2 ms

def tabRa3 : Tab := (111, normC eSide_c) :: (102, normC eOwns_c) :: (101, normC eBox_c) :: (106, normC rCovers_c) :: (29, normC bGTiles_c) :: tabRa2
theorem tabRa3_ok : TOK Try.prog tabRa3 := TOK.cons eSide_en eSide_ok (TOK.cons eOwns_en eOwns_ok (TOK.cons eBox_en eBox_ok (TOK.cons rCovers_en rCovers_ok (TOK.cons bGTiles_en bGTiles_ok (tabRa2_ok)))))

end Go.Proofs.Ytcdejlgophpdjaa
end

section
namespace Go.Proofs.Ytcdejlgophpdjaa
open Go Go.RowKit Go.Proofs.Ytcdejlgophpdjaa.V
set_option linter.unusedVariables false

/-! (azulejo/edge.Tri).Area -/
def tArea_0 (x0_0 x0_1 x0_2 x0_3 x0_4 x0_5 : Int) : Int := eSide_0 x0_0 x0_1 x0_2 x0_3 x0_4 x0_5
theorem tArea_p (x0_0 x0_1 x0_2 x0_3 x0_4 x0_5 : Int) : evG Try.prog tabRa3 2000 97 [0, 1, 2] [] [] [.g [.int true .i64 x0_0, .int true .i64 x0_1, .int true .i64 x0_2, .int true .i64 x0_3, .int true .i64 x0_4, .int true .i64 x0_5]] [] = some ([], LV.a (At.int true IntKind.i64 (tArea_0 x0_0 x0_1 x0_2 x0_3 x0_4 x0_5)), []) := by kernel_rfl
def tArea_c : Con
  | [.g [.int true .i64 x0_0, .int true .i64 x0_1, .int true .i64 x0_2, .int true .i64 x0_3, .int true .i64 x0_4, .int true .i64 x0_5]], [] => some ([], LV.a (At.int true IntKind.i64 (tArea_0 x0_0 x0_1 x0_2 x0_3 x0_4 x0_5)), [])
  | _, _ => none
theorem tArea_ok : ConOK Try.prog 97 (normC tArea_c) := normC_ok (by
  intro args bs obs lv out h ho φ vs w may ha hM
  unfold tArea_c at h
  split at h
  · simp only [Option.some.injEq, Prod.mk.injEq] at h
    obtain ⟨rfl, rfl, rfl⟩ := h
    rename_i x0_0 x0_1 x0_2 x0_3 x0_4 x0_5
    exact evG_ok tabRa3_ok follows _ _ _ _ _ (tArea_p x0_0 x0_1 x0_2 x0_3 x0_4 x0_5) ho φ vs w may ha hM
  · cases h)
theorem tArea_en : Enters Try.prog 97 := fun args => by kernel_rfl
-- 101 1 2 ms

/-! (azulejo/edge.Tri).Weights -/
def tWeights_0 (x0_2 x0_3 x0_4 x0_5 x1_0 x1_1 : Int) : Int := eSide_0 x0_2 x0_3 x0_4 x0_5 x1_0 x1_1
def tWeights_1 (x0_0 x0_1 x0_4 x0_5 x1_0 x1_1 : Int) : Int := eSide_0 x0_4 x0_5 x0_0 x0_1 x1_0 x1_1
def tWeights_2 (x0_0 x0_1 x0_2 x0_3 x1_0 x1_1 : Int) : Int := eSide_0 x0_0 x0_1 x0_2 x0_3 x1_0 x1_1
theorem tWeights_p (x0_0 x0_1 x0_2 x0_3 x0_4 x0_5 x1_0 x1_1 : Int) : evG Try.prog tabRa3 2000 52 [0, 1, 2, 3, 4] [] [] [.g [.int true .i64 x0_0, .int true .i64 x0_1, .int true .i64 x0_2, .int true .i64 x0_3, .int true .i64 x0_4, .int true .i64 x0_5], .g [.int true .i64 x1_0, .int true .i64 x1_1]] [] = some ([], LV.g [At.int true IntKind.i64 (tWeights_0 x0_2 x0_3 x0_4 x0_5 x1_0 x1_1), At.int true IntKind.i64 (tWeights_1 x0_0 x0_1 x0_4 x0_5 x1_0 x1_1), At.int true IntKind.i64 (tWeights_2 x0_0 x0_1 x0_2 x0_3 x1_0 x1_1)], []) := by kernel_rfl
def tWeights_c : Con
  | [.g [.int true .i64 x0_0, .int true .i64 x0_1, .int true .i64 x0_2, .int true .i64 x0_3, .int true .i64 x0_4, .int true .i64 x0_5], .g [.int true .i64 x1_0, .int true .i64 x1_1]], [] => some ([], LV.g [At.int true IntKind.i64 (tWeights_0 x0_2 x0_3 x0_4 x0_5 x1_0 x1_1), At.int true IntKind.i64 (tWeights_1 x0_0 x0_1 x0_4 x0_5 x1_0 x1_1), At.int true IntKind.i64 (tWeights_2 x0_0 x0_1 x0_2 x0_3 x1_0 x1_1)], [])
  | _, _ => none
theorem tWeights_ok : ConOK Try.prog 52 (normC tWeights_c) := normC_ok (by
  intro args bs obs lv out h ho φ vs w may ha hM
  unfold tWeights_c at h
  split at h
  · simp only [Option.some.injEq, Prod.mk.injEq] at h
    obtain ⟨rfl, rfl, rfl⟩ := h
    rename_i x0_0 x0_1 x0_2 x0_3 x0_4 x0_5 x1_0 x1_1
    exact evG_ok tabRa3_ok follows _ _ _ _ _ (tWeights_p x0_0 x0_1 x0_2 x0_3 x0_4 x0_5 x1_0 x1_1) ho φ vs w may ha hM
  · cases h)
theorem tWeights_en : Enters Try.prog 52 := fun args => by kernel_rfl
-- 295 2 4 ms

/-! azulejo/azulejoref12.At -/
def r12At_s0 (x1 : Int) : Int := IntKind.wrap IntKind.i64 (IntKind.wrap IntKind.i64 ((16 : Int) * x1) + (8 : Int))
def r12At_s1 (x2 : Int) : Int := IntKind.wrap IntKind.i64 (IntKind.wrap IntKind.i64 ((16 : Int) * x2) + (8 : Int))
def r12At_s2 (x0_0 x0_1 x0_2 x0_3 x0_4 x0_5 x1 x2 : Int) : Bool := !rCovers_0 x0_0 x0_1 x0_2 x0_3 x0_4 x0_5 (r12At_s0 x1) (r12At_s1 x2)
def r12At_0 (x0_0 x0_1 x0_2 x0_3 x0_4 x0_5 x0_6 x0_7 x0_8 x1 x2 : Int) : Int := bif r12At_s2 x0_0 x0_1 x0_2 x0_3 x0_4 x0_5 x1 x2 then (0 : Int) else IntKind.wrap IntKind.i64 (Int.tdiv (IntKind.wrap IntKind.i64 (IntKind.wrap IntKind.i64 (IntKind.wrap IntKind.i64 ((0 : Int) + IntKind.wrap IntKind.i64 (rSide_0 x0_2 x0_3 x0_4 x0_5 (r12At_s0 x1) (r12At_s1 x2) * x0_6)) + IntKind.wrap IntKind.i64 (rSide_0 x0_4 x0_5 x0_0 x0_1 (r12At_s0 x1) (r12At_s1 x2) * x0_7)) + IntKind.wrap IntKind.i64 (rSide_0 x0_0 x0_1 x0_2 x0_3 (r12At_s0 x1) (r12At_s1 x2) * x0_8))) (rSide_0 x0_0 x0_1 x0_2 x0_3 x0_4 x0_5))
def r12At_s3 (x0_2 x0_3 x0_4 x0_5 x0_9 x1 x2 : Int) : Int := IntKind.wrap IntKind.i64 (rSide_0 x0_2 x0_3 x0_4 x0_5 (r12At_s0 x1) (r12At_s1 x2) * x0_9)
def r12At_s4 (x0_0 x0_1 x0_4 x0_5 x0_10 x1 x2 : Int) : Int := IntKind.wrap IntKind.i64 (rSide_0 x0_4 x0_5 x0_0 x0_1 (r12At_s0 x1) (r12At_s1 x2) * x0_10)
def r12At_s5 (x0_0 x0_1 x0_2 x0_3 x0_11 x1 x2 : Int) : Int := IntKind.wrap IntKind.i64 (rSide_0 x0_0 x0_1 x0_2 x0_3 (r12At_s0 x1) (r12At_s1 x2) * x0_11)
def r12At_s6 (x0_0 x0_1 x0_2 x0_3 x0_4 x0_5 x0_9 x0_10 x0_11 x1 x2 : Int) : Int := IntKind.wrap IntKind.i64 (IntKind.wrap IntKind.i64 (IntKind.wrap IntKind.i64 ((0 : Int) + r12At_s3 x0_2 x0_3 x0_4 x0_5 x0_9 x1 x2) + r12At_s4 x0_0 x0_1 x0_4 x0_5 x0_10 x1 x2) + r12At_s5 x0_0 x0_1 x0_2 x0_3 x0_11 x1 x2)
def r12At_1 (x0_0 x0_1 x0_2 x0_3 x0_4 x0_5 x0_9 x0_10 x0_11 x0_12 x0_16 x0_20 x1 x2 : Int) : Int := bif r12At_s2 x0_0 x0_1 x0_2 x0_3 x0_4 x0_5 x1 x2 then (0 : Int) else IntKind.wrap IntKind.i64 (Int.tdiv (IntKind.wrap IntKind.i64 (IntKind.wrap IntKind.i64 (IntKind.wrap IntKind.i64 ((0 : Int) + IntKind.wrap IntKind.i64 (r12At_s3 x0_2 x0_3 x0_4 x0_5 x0_9 x1 x2 * x0_12)) + IntKind.wrap IntKind.i64 (r12At_s4 x0_0 x0_1 x0_4 x0_5 x0_10 x1 x2 * x0_16)) + IntKind.wrap IntKind.i64 (r12At_s5 x0_0 x0_1 x0_2 x0_3 x0_11 x1 x2 * x0_20))) (r12At_s6 x0_0 x0_1 x0_2 x0_3 x0_4 x0_5 x0_9 x0_10 x0_11 x1 x2))
def r12At_2 (x0_0 x0_1 x0_2 x0_3 x0_4 x0_5 x0_9 x0_10 x0_11 x0_13 x0_17 x0_21 x1 x2 : Int) : Int := bif r12At_s2 x0_0 x0_1 x0_2 x0_3 x0_4 x0_5 x1 x2 then (0 : Int) else IntKind.wrap IntKind.i64 (Int.tdiv (IntKind.wrap IntKind.i64 (IntKind.wrap IntKind.i64 (IntKind.wrap IntKind.i64 ((0 : Int) + IntKind.wrap IntKind.i64 (r12At_s3 x0_2 x0_3 x0_4 x0_5 x0_9 x1 x2 * x0_13)) + IntKind.wrap IntKind.i64 (r12At_s4 x0_0 x0_1 x0_4 x0_5 x0_10 x1 x2 * x0_17)) + IntKind.wrap IntKind.i64 (r12At_s5 x0_0 x0_1 x0_2 x0_3 x0_11 x1 x2 * x0_21))) (r12At_s6 x0_0 x0_1 x0_2 x0_3 x0_4 x0_5 x0_9 x0_10 x0_11 x1 x2))
def r12At_3 (x0_0 x0_1 x0_2 x0_3 x0_4 x0_5 x0_9 x0_10 x0_11 x0_14 x0_18 x0_22 x1 x2 : Int) : Int := bif r12At_s2 x0_0 x0_1 x0_2 x0_3 x0_4 x0_5 x1 x2 then (0 : Int) else IntKind.wrap IntKind.i64 (Int.tdiv (IntKind.wrap IntKind.i64 (IntKind.wrap IntKind.i64 (IntKind.wrap IntKind.i64 ((0 : Int) + IntKind.wrap IntKind.i64 (r12At_s3 x0_2 x0_3 x0_4 x0_5 x0_9 x1 x2 * x0_14)) + IntKind.wrap IntKind.i64 (r12At_s4 x0_0 x0_1 x0_4 x0_5 x0_10 x1 x2 * x0_18)) + IntKind.wrap IntKind.i64 (r12At_s5 x0_0 x0_1 x0_2 x0_3 x0_11 x1 x2 * x0_22))) (r12At_s6 x0_0 x0_1 x0_2 x0_3 x0_4 x0_5 x0_9 x0_10 x0_11 x1 x2))
def r12At_4 (x0_0 x0_1 x0_2 x0_3 x0_4 x0_5 x0_9 x0_10 x0_11 x0_15 x0_19 x0_23 x1 x2 : Int) : Int := bif r12At_s2 x0_0 x0_1 x0_2 x0_3 x0_4 x0_5 x1 x2 then (0 : Int) else IntKind.wrap IntKind.i64 (Int.tdiv (IntKind.wrap IntKind.i64 (IntKind.wrap IntKind.i64 (IntKind.wrap IntKind.i64 ((0 : Int) + IntKind.wrap IntKind.i64 (r12At_s3 x0_2 x0_3 x0_4 x0_5 x0_9 x1 x2 * x0_15)) + IntKind.wrap IntKind.i64 (r12At_s4 x0_0 x0_1 x0_4 x0_5 x0_10 x1 x2 * x0_19)) + IntKind.wrap IntKind.i64 (r12At_s5 x0_0 x0_1 x0_2 x0_3 x0_11 x1 x2 * x0_23))) (r12At_s6 x0_0 x0_1 x0_2 x0_3 x0_4 x0_5 x0_9 x0_10 x0_11 x1 x2))
def r12At_5 (x0_0 x0_1 x0_2 x0_3 x0_4 x0_5 x1 x2 : Int) : Bool := bif r12At_s2 x0_0 x0_1 x0_2 x0_3 x0_4 x0_5 x1 x2 then false else true
def r12At_o (x0_0 x0_1 x0_2 x0_3 x0_4 x0_5 x0_6 x0_7 x0_8 x0_9 x0_10 x0_11 x0_12 x0_13 x0_14 x0_15 x0_16 x0_17 x0_18 x0_19 x0_20 x0_21 x0_22 x0_23 x1 x2 : Int) : List Prop := [(!r12At_s2 x0_0 x0_1 x0_2 x0_3 x0_4 x0_5 x1 x2) = true → r12At_s6 x0_0 x0_1 x0_2 x0_3 x0_4 x0_5 x0_9 x0_10 x0_11 x1 x2 ≠ (0 : Int), (!r12At_s2 x0_0 x0_1 x0_2 x0_3 x0_4 x0_5 x1 x2) = true → r12At_s6 x0_0 x0_1 x0_2 x0_3 x0_4 x0_5 x0_9 x0_10 x0_11 x1 x2 ≠ (0 : Int), (!r12At_s2 x0_0 x0_1 x0_2 x0_3 x0_4 x0_5 x1 x2) = true → r12At_s6 x0_0 x0_1 x0_2 x0_3 x0_4 x0_5 x0_9 x0_10 x0_11 x1 x2 ≠ (0 : Int), (!r12At_s2 x0_0 x0_1 x0_2 x0_3 x0_4 x0_5 x1 x2) = true → r12At_s6 x0_0 x0_1 x0_2 x0_3 x0_4 x0_5 x0_9 x0_10 x0_11 x1 x2 ≠ (0 : Int), (!r12At_s2 x0_0 x0_1 x0_2 x0_3 x0_4 x0_5 x1 x2) = true → rSide_0 x0_0 x0_1 x0_2 x0_3 x0_4 x0_5 ≠ (0 : Int)]
theorem r12At_p (x0_0 x0_1 x0_2 x0_3 x0_4 x0_5 x0_6 x0_7 x0_8 x0_9 x0_10 x0_11 x0_12 x0_13 x0_14 x0_15 x0_16 x0_17 x0_18 x0_19 x0_20 x0_21 x0_22 x0_23 x1 x2 : Int) : evG Try.prog tabRa3 2000 46 [0, 1, 2, 3, 6, 7, 8, 9, 10, 11, 12, 13, 14, 15, 16, 28, 31, 65, 88] [] [] [.g [.int true .i64 x0_0, .int true .i64 x0_1, .int true .i64 x0_2, .int true .i64 x0_3, .int true .i64 x0_4, .int true .i64 x0_5, .int true .i64 x0_6, .int true .i64 x0_7, .int true .i64 x0_8, .int true .i64 x0_9, .int true .i64 x0_10, .int true .i64 x0_11, .int true .i64 x0_12, .int true .i64 x0_13, .int true .i64 x0_14, .int true .i64 x0_15, .int true .i64 x0_16, .int true .i64 x0_17, .int true .i64 x0_18, .int true .i64 x0_19, .int true .i64 x0_20, .int true .i64 x0_21, .int true .i64 x0_22, .int true .i64 x0_23], .a (.int true .i64 x1), .a (.int true .i64 x2)] [] = some (r12At_o x0_0 x0_1 x0_2 x0_3 x0_4 x0_5 x0_6 x0_7 x0_8 x0_9 x0_10 x0_11 x0_12 x0_13 x0_14 x0_15 x0_16 x0_17 x0_18 x0_19 x0_20 x0_21 x0_22 x0_23 x1 x2, LV.t [LV.a (At.int true IntKind.i64 (r12At_0 x0_0 x0_1 x0_2 x0_3 x0_4 x0_5 x0_6 x0_7 x0_8 x1 x2)), LV.g [At.int true IntKind.i64 (r12At_1 x0_0 x0_1 x0_2 x0_3 x0_4 x0_5 x0_9 x0_10 x0_11 x0_12 x0_16 x0_20 x1 x2), At.int true IntKind.i64 (r12At_2 x0_0 x0_1 x0_2 x0_3 x0_4 x0_5 x0_9 x0_10 x0_11 x0_13 x0_17 x0_21 x1 x2), At.int true IntKind.i64 (r12At_3 x0_0 x0_1 x0_2 x0_3 x0_4 x0_5 x0_9 x0_10 x0_11 x0_14 x0_18 x0_22 x1 x2), At.int true IntKind.i64 (r12At_4 x0_0 x0_1 x0_2 x0_3 x0_4 x0_5 x0_9 x0_10 x0_11 x0_15 x0_19 x0_23 x1 x2)], LV.a (At.bool true (r12At_5 x0_0 x0_1 x0_2 x0_3 x0_4 x0_5 x1 x2))], []) := by kernel_rfl
def r12At_c : Con
  | [.g [.int true .i64 x0_0, .int true .i64 x0_1, .int true .i64 x0_2, .int true .i64 x0_3, .int true .i64 x0_4, .int true .i64 x0_5, .int true .i64 x0_6, .int true .i64 x0_7, .int true .i64 x0_8, .int true .i64 x0_9, .int true .i64 x0_10, .int true .i64 x0_11, .int true .i64 x0_12, .int true .i64 x0_13, .int true .i64 x0_14, .int true .i64 x0_15, .int true .i64 x0_16, .int true .i64 x0_17, .int true .i64 x0_18, .int true .i64 x0_19, .int true .i64 x0_20, .int true .i64 x0_21, .int true .i64 x0_22, .int true .i64 x0_23], .a (.int true .i64 x1), .a (.int true .i64 x2)], [] => some (r12At_o x0_0 x0_1 x0_2 x0_3 x0_4 x0_5 x0_6 x0_7 x0_8 x0_9 x0_10 x0_11 x0_12 x0_13 x0_14 x0_15 x0_16 x0_17 x0_18 x0_19 x0_20 x0_21 x0_22 x0_23 x1 x2, LV.t [LV.a (At.int true IntKind.i64 (r12At_0 x0_0 x0_1 x0_2 x0_3 x0_4 x0_5 x0_6 x0_7 x0_8 x1 x2)), LV.g [At.int true IntKind.i64 (r12At_1 x0_0 x0_1 x0_2 x0_3 x0_4 x0_5 x0_9 x0_10 x0_11 x0_12 x0_16 x0_20 x1 x2), At.int true IntKind.i64 (r12At_2 x0_0 x0_1 x0_2 x0_3 x0_4 x0_5 x0_9 x0_10 x0_11 x0_13 x0_17 x0_21 x1 x2), At.int true IntKind.i64 (r12At_3 x0_0 x0_1 x0_2 x0_3 x0_4 x0_5 x0_9 x0_10 x0_11 x0_14 x0_18 x0_22 x1 x2), At.int true IntKind.i64 (r12At_4 x0_0 x0_1 x0_2 x0_3 x0_4 x0_5 x0_9 x0_10 x0_11 x0_15 x0_19 x0_23 x1 x2)], LV.a (At.bool true (r12At_5 x0_0 x0_1 x0_2 x0_3 x0_4 x0_5 x1 x2))], [])
  | _, _ => none
theorem r12At_ok : ConOK Try.prog 46 (normC r12At_c) := normC_ok (by
  intro args bs obs lv out h ho φ vs w may ha hM
  unfold r12At_c at h
  split at h
  · simp only [Option.some.injEq, Prod.mk.injEq] at h
    obtain ⟨rfl, rfl, rfl⟩ := h
    rename_i x0_0 x0_1 x0_2 x0_3 x0_4 x0_5 x0_6 x0_7 x0_8 x0_9 x0_10 x0_11 x0_12 x0_13 x0_14 x0_15 x0_16 x0_17 x0_18 x0_19 x0_20 x0_21 x0_22 x0_23 x1 x2
    exact evG_ok tabRa3_ok follows _ _ _ _ _ (r12At_p x0_0 x0_1 x0_2 x0_3 x0_4 x0_5 x0_6 x0_7 x0_8 x0_9 x0_10 x0_11 x0_12 x0_13 x0_14 x0_15 x0_16 x0_17 x0_18 x0_19 x0_20 x0_21 x0_22 x0_23 x1 x2) ho φ vs w may ha hM
  · cases h)
theorem r12At_en : Enters Try.prog 46 := fun args => by kernel_rfl
-- 2529 1308 32 ms

/-! (azulejo/bin.Grid).Box -/
def bBox_s0 (x0_0 x0_1 x1 : Int) : Bool := bif decide (x1 < (0 : Int)) then true else decide (bGTiles_0 x0_0 x0_1 ≤ x1)
def bBox_s1 (x0_0 x1 : Int) : Int := IntKind.wrap IntKind.i64 (Int.tmod x1 (bTiles_0 x0_0) * (8 : Int))
def bBox_0 (x0_0 x0_1 x1 : Int) : Int := bif bBox_s0 x0_0 x0_1 x1 then (0 : Int) else bBox_s1 x0_0 x1
def bBox_s2 (x0_0 x1 : Int) : Int := IntKind.wrap IntKind.i64 (IntKind.wrap IntKind.i64 (Int.tdiv x1 (bTiles_0 x0_0)) * (8 : Int))
def bBox_1 (x0_0 x0_1 x1 : Int) : Int := bif bBox_s0 x0_0 x0_1 x1 then (0 : Int) else bBox_s2 x0_0 x1
def bBox_s3 (x0_0 x1 : Int) : Int := IntKind.wrap IntKind.i64 (bBox_s1 x0_0 x1 + (8 : Int))
def bBox_2 (x0_0 x0_1 x1 : Int) : Int := bif bBox_s0 x0_0 x0_1 x1 then (0 : Int) else if x0_0 < bBox_s3 x0_0 x1 then x0_0 else bBox_s3 x0_0 x1
def bBox_s4 (x0_0 x1 : Int) : Int := IntKind.wrap IntKind.i64 (bBox_s2 x0_0 x1 + (8 : Int))
def bBox_3 (x0_0 x0_1 x1 : Int) : Int := bif bBox_s0 x0_0 x0_1 x1 then (0 : Int) else if x0_1 < bBox_s4 x0_0 x1 then x0_1 else bBox_s4 x0_0 x1
def bBox_o (x0_0 x0_1 x1 : Int) : List Prop := [(!bBox_s0 x0_0 x0_1 x1) = true → bTiles_0 x0_0 ≠ (0 : Int), (!bBox_s0 x0_0 x0_1 x1) = true → bTiles_0 x0_0 ≠ (0 : Int)]
theorem bBox_p (x0_0 x0_1 x1 : Int) : evG Try.prog tabRa3 2000 31 [0, 1, 2, 4, 5, 6, 14] [] [] [.g [.int true .i64 x0_0, .int true .i64 x0_1], .a (.int true .i64 x1)] [] = some (bBox_o x0_0 x0_1 x1, LV.g [At.int true IntKind.i64 (bBox_0 x0_0 x0_1 x1), At.int true IntKind.i64 (bBox_1 x0_0 x0_1 x1), At.int true IntKind.i64 (bBox_2 x0_0 x0_1 x1), At.int true IntKind.i64 (bBox_3 x0_0 x0_1 x1)], []) := by kernel_rfl
def bBox_c : Con
  | [.g [.int true .i64 x0_0, .int true .i64 x0_1], .a (.int true .i64 x1)], [] => some (bBox_o x0_0 x0_1 x1, LV.g [At.int true IntKind.i64 (bBox_0 x0_0 x0_1 x1), At.int true IntKind.i64 (bBox_1 x0_0 x0_1 x1), At.int true IntKind.i64 (bBox_2 x0_0 x0_1 x1), At.int true IntKind.i64 (bBox_3 x0_0 x0_1 x1)], [])
  | _, _ => none
theorem bBox_ok : ConOK Try.prog 31 (normC bBox_c) := normC_ok (by
  intro args bs obs lv out h ho φ vs w may ha hM
  unfold bBox_c at h
  split at h
  · simp only [Option.some.injEq, Prod.mk.injEq] at h
    obtain ⟨rfl, rfl, rfl⟩ := h
    rename_i x0_0 x0_1 x1
    exact evG_ok tabRa3_ok follows _ _ _ _ _ (bBox_p x0_0 x0_1 x1) ho φ vs w may ha hM
  · cases h)
theorem bBox_en : Enters Try.prog 31 := fun args => by kernel_rfl
-- 303 93 13 ms

/-! azulejo/azulejolaw16.Awake -/
def aw16_0 : Bool := bGTiles_0 (9 : Int) (8 : Int) == (2 : Int)
theorem aw16_p  : evG Try.prog tabRa3 2000 26 [0] [] [] [] [] = some ([], LV.a (At.bool true aw16_0), []) := by kernel_rfl
def aw16_c : Con
  | [], [] => some ([], LV.a (At.bool true aw16_0), [])
  | _, _ => none
theorem aw16_ok : ConOK Try.prog 26 (normC aw16_c) := normC_ok (by
  intro args bs obs lv out h ho φ vs w may ha hM
  unfold aw16_c at h
  split at h
  · simp only [Option.some.injEq, Prod.mk.injEq] at h
    obtain ⟨rfl, rfl, rfl⟩ := h
    exact evG_ok tabRa3_ok follows _ _ _ _ _ (aw16_p ) ho φ vs w may ha hM
  · cases h)
theorem aw16_en : Enters Try.prog 26 := fun args => by kernel_rfl
-- 58 2 2 ms

/-! azulejo/bin.Pixels -/
def bPix_s0 : Int := (2 : Int) ^ min (Int.toNat (4 : Int)) (IntKind.bits IntKind.i64)
def bPix_0 (x0_0 x0_2 x0_4 : Int) : Int := Int.fdiv (IntKind.wrap IntKind.i64 (eBox_0 x0_0 x0_2 x0_4 + (7 : Int))) bPix_s0
def bPix_1 (x0_1 x0_3 x0_5 : Int) : Int := Int.fdiv (IntKind.wrap IntKind.i64 (eBox_1 x0_1 x0_3 x0_5 + (7 : Int))) bPix_s0
def bPix_2 (x0_0 x0_2 x0_4 : Int) : Int := IntKind.wrap IntKind.i64 (Int.fdiv (IntKind.wrap IntKind.i64 (eBox_2 x0_0 x0_2 x0_4 - (8 : Int))) bPix_s0 + (1 : Int))
def bPix_3 (x0_1 x0_3 x0_5 : Int) : Int := IntKind.wrap IntKind.i64 (Int.fdiv (IntKind.wrap IntKind.i64 (eBox_3 x0_1 x0_3 x0_5 - (8 : Int))) bPix_s0 + (1 : Int))
theorem bPix_p (x0_0 x0_1 x0_2 x0_3 x0_4 x0_5 : Int) : evG Try.prog tabRa3 2000 32 [0, 1, 2, 3, 4] [] [] [.g [.int true .i64 x0_0, .int true .i64 x0_1, .int true .i64 x0_2, .int true .i64 x0_3, .int true .i64 x0_4, .int true .i64 x0_5]] [] = some ([], LV.g [At.int true IntKind.i64 (bPix_0 x0_0 x0_2 x0_4), At.int true IntKind.i64 (bPix_1 x0_1 x0_3 x0_5), At.int true IntKind.i64 (bPix_2 x0_0 x0_2 x0_4), At.int true IntKind.i64 (bPix_3 x0_1 x0_3 x0_5)], []) := by kernel_rfl
def bPix_c : Con
  | [.g [.int true .i64 x0_0, .int true .i64 x0_1, .int true .i64 x0_2, .int true .i64 x0_3, .int true .i64 x0_4, .int true .i64 x0_5]], [] => some ([], LV.g [At.int true IntKind.i64 (bPix_0 x0_0 x0_2 x0_4), At.int true IntKind.i64 (bPix_1 x0_1 x0_3 x0_5), At.int true IntKind.i64 (bPix_2 x0_0 x0_2 x0_4), At.int true IntKind.i64 (bPix_3 x0_1 x0_3 x0_5)], [])
  | _, _ => none
theorem bPix_ok : ConOK Try.prog 32 (normC bPix_c) := normC_ok (by
  intro args bs obs lv out h ho φ vs w may ha hM
  unfold bPix_c at h
  split at h
  · simp only [Option.some.injEq, Prod.mk.injEq] at h
    obtain ⟨rfl, rfl, rfl⟩ := h
    rename_i x0_0 x0_1 x0_2 x0_3 x0_4 x0_5
    exact evG_ok tabRa3_ok follows _ _ _ _ _ (bPix_p x0_0 x0_1 x0_2 x0_3 x0_4 x0_5) ho φ vs w may ha hM
  · cases h)
theorem bPix_en : Enters Try.prog 32 := fun args => by kernel_rfl
-- 225 6 13 ms

/-! azulejo/bin.outside -/
def bOut_s0 (x1_2 : Int) : Int := sMiddle_0 (IntKind.wrap IntKind.i64 (x1_2 - (1 : Int)))
def bOut_s1 (x1_3 : Int) : Int := sMiddle_1 (IntKind.wrap IntKind.i64 (x1_3 - (1 : Int)))
def bOut_s2 (x0_0 x0_1 x0_2 x0_3 x1_0 x1_1 x1_2 x1_3 : Int) : Bool := bif bif bif decide (eSide_0 x0_0 x0_1 x0_2 x0_3 (sMiddle_0 x1_0) (sMiddle_1 x1_1) < (0 : Int)) then decide (eSide_0 x0_0 x0_1 x0_2 x0_3 (bOut_s0 x1_2) (sMiddle_1 x1_1) < (0 : Int)) else false then decide (eSide_0 x0_0 x0_1 x0_2 x0_3 (sMiddle_0 x1_0) (bOut_s1 x1_3) < (0 : Int)) else false then decide (eSide_0 x0_0 x0_1 x0_2 x0_3 (bOut_s0 x1_2) (bOut_s1 x1_3) < (0 : Int)) else false
def bOut_s3 (x0_2 x0_3 x0_4 x0_5 x1_0 x1_1 x1_2 x1_3 : Int) : Bool := bif bif bif decide (eSide_0 x0_2 x0_3 x0_4 x0_5 (sMiddle_0 x1_0) (sMiddle_1 x1_1) < (0 : Int)) then decide (eSide_0 x0_2 x0_3 x0_4 x0_5 (bOut_s0 x1_2) (sMiddle_1 x1_1) < (0 : Int)) else false then decide (eSide_0 x0_2 x0_3 x0_4 x0_5 (sMiddle_0 x1_0) (bOut_s1 x1_3) < (0 : Int)) else false then decide (eSide_0 x0_2 x0_3 x0_4 x0_5 (bOut_s0 x1_2) (bOut_s1 x1_3) < (0 : Int)) else false
def bOut_0 (x0_0 x0_1 x0_2 x0_3 x0_4 x0_5 x1_0 x1_1 x1_2 x1_3 : Int) : Bool := bif bOut_s2 x0_0 x0_1 x0_2 x0_3 x1_0 x1_1 x1_2 x1_3 || !bOut_s2 x0_0 x0_1 x0_2 x0_3 x1_0 x1_1 x1_2 x1_3 && (bOut_s3 x0_2 x0_3 x0_4 x0_5 x1_0 x1_1 x1_2 x1_3 || !bOut_s3 x0_2 x0_3 x0_4 x0_5 x1_0 x1_1 x1_2 x1_3 && bif bif bif decide (eSide_0 x0_4 x0_5 x0_0 x0_1 (sMiddle_0 x1_0) (sMiddle_1 x1_1) < (0 : Int)) then decide (eSide_0 x0_4 x0_5 x0_0 x0_1 (bOut_s0 x1_2) (sMiddle_1 x1_1) < (0 : Int)) else false then decide (eSide_0 x0_4 x0_5 x0_0 x0_1 (sMiddle_0 x1_0) (bOut_s1 x1_3) < (0 : Int)) else false then decide (eSide_0 x0_4 x0_5 x0_0 x0_1 (bOut_s0 x1_2) (bOut_s1 x1_3) < (0 : Int)) else false) then true else false
theorem bOut_p (x0_0 x0_1 x0_2 x0_3 x0_4 x0_5 x1_0 x1_1 x1_2 x1_3 : Int) : evG Try.prog tabRa3 2000 99 [0, 1, 2, 3, 4, 5, 6, 8, 9, 10, 36, 37, 38, 39, 57] [] [] [.g [.int true .i64 x0_0, .int true .i64 x0_1, .int true .i64 x0_2, .int true .i64 x0_3, .int true .i64 x0_4, .int true .i64 x0_5], .g [.int true .i64 x1_0, .int true .i64 x1_1, .int true .i64 x1_2, .int true .i64 x1_3]] [] = some ([], LV.a (At.bool true (bOut_0 x0_0 x0_1 x0_2 x0_3 x0_4 x0_5 x1_0 x1_1 x1_2 x1_3)), []) := by kernel_rfl
def bOut_c : Con
  | [.g [.int true .i64 x0_0, .int true .i64 x0_1, .int true .i64 x0_2, .int true .i64 x0_3, .int true .i64 x0_4, .int true .i64 x0_5], .g [.int true .i64 x1_0, .int true .i64 x1_1, .int true .i64 x1_2, .int true .i64 x1_3]], [] => some ([], LV.a (At.bool true (bOut_0 x0_0 x0_1 x0_2 x0_3 x0_4 x0_5 x1_0 x1_1 x1_2 x1_3)), [])
  | _, _ => none
theorem bOut_ok : ConOK Try.prog 99 (normC bOut_c) := normC_ok (by
  intro args bs obs lv out h ho φ vs w may ha hM
  unfold bOut_c at h
  split at h
  · simp only [Option.some.injEq, Prod.mk.injEq] at h
    obtain ⟨rfl, rfl, rfl⟩ := h
    rename_i x0_0 x0_1 x0_2 x0_3 x0_4 x0_5 x1_0 x1_1 x1_2 x1_3
    exact evG_ok tabRa3_ok follows _ _ _ _ _ (bOut_p x0_0 x0_1 x0_2 x0_3 x0_4 x0_5 x1_0 x1_1 x1_2 x1_3) ho φ vs w may ha hM
  · cases h)
theorem bOut_en : Enters Try.prog 99 := fun args => by kernel_rfl
-- 2907 414 13 ms

def tabRa4 : Tab := (97, normC tArea_c) :: (52, normC tWeights_c) :: (46, normC r12At_c) :: (31, normC bBox_c) :: (26, normC aw16_c) :: (32, normC bPix_c) :: (99, normC bOut_c) :: tabRa3
theorem tabRa4_ok : TOK Try.prog tabRa4 := TOK.cons tArea_en tArea_ok (TOK.cons tWeights_en tWeights_ok (TOK.cons r12At_en r12At_ok (TOK.cons bBox_en bBox_ok (TOK.cons aw16_en aw16_ok (TOK.cons bPix_en bPix_ok (TOK.cons bOut_en bOut_ok (tabRa3_ok)))))))

end Go.Proofs.Ytcdejlgophpdjaa
end

section
namespace Go.Proofs.Ytcdejlgophpdjaa
open Go Go.RowKit Go.Proofs.Ytcdejlgophpdjaa.V
set_option linter.unusedVariables false

/-! (azulejo/edge.Tri).Covers -/
def tCovers_s0 (x0_2 x0_3 x0_4 x0_5 x1_0 x1_1 : Int) : Bool := bif decide (tWeights_0 x0_2 x0_3 x0_4 x0_5 x1_0 x1_1 < (0 : Int)) then true else bif tWeights_0 x0_2 x0_3 x0_4 x0_5 x1_0 x1_1 == (0 : Int) then !eOwns_0 x0_2 x0_3 x0_4 x0_5 else false
def tCovers_s1 (x0_0 x0_1 x0_4 x0_5 x1_0 x1_1 : Int) : Bool := bif decide (tWeights_1 x0_0 x0_1 x0_4 x0_5 x1_0 x1_1 < (0 : Int)) then true else bif tWeights_1 x0_0 x0_1 x0_4 x0_5 x1_0 x1_1 == (0 : Int) then !eOwns_0 x0_4 x0_5 x0_0 x0_1 else false
def tCovers_0 (x0_0 x0_1 x0_2 x0_3 x0_4 x0_5 x1_0 x1_1 : Int) : Bool := bif decide (tArea_0 x0_0 x0_1 x0_2 x0_3 x0_4 x0_5 ≤ (0 : Int)) then false else bif tCovers_s0 x0_2 x0_3 x0_4 x0_5 x1_0 x1_1 || !tCovers_s0 x0_2 x0_3 x0_4 x0_5 x1_0 x1_1 && (tCovers_s1 x0_0 x0_1 x0_4 x0_5 x1_0 x1_1 || !tCovers_s1 x0_0 x0_1 x0_4 x0_5 x1_0 x1_1 && bif decide (tWeights_2 x0_0 x0_1 x0_2 x0_3 x1_0 x1_1 < (0 : Int)) then true else bif tWeights_2 x0_0 x0_1 x0_2 x0_3 x1_0 x1_1 == (0 : Int) then !eOwns_0 x0_0 x0_1 x0_2 x0_3 else false) then false else true
theorem tCovers_p (x0_0 x0_1 x0_2 x0_3 x0_4 x0_5 x1_0 x1_1 : Int) : evG Try.prog tabRa4 2000 34 [0, 1, 2, 3, 4, 5, 6, 9, 12, 13, 14, 36] [] [] [.g [.int true .i64 x0_0, .int true .i64 x0_1, .int true .i64 x0_2, .int true .i64 x0_3, .int true .i64 x0_4, .int true .i64 x0_5], .g [.int true .i64 x1_0, .int true .i64 x1_1]] [] = some ([], LV.a (At.bool true (tCovers_0 x0_0 x0_1 x0_2 x0_3 x0_4 x0_5 x1_0 x1_1)), []) := by kernel_rfl
def tCovers_c : Con
  | [.g [.int true .i64 x0_0, .int true .i64 x0_1, .int true .i64 x0_2, .int true .i64 x0_3, .int true .i64 x0_4, .int true .i64 x0_5], .g [.int true .i64 x1_0, .int true .i64 x1_1]], [] => some ([], LV.a (At.bool true (tCovers_0 x0_0 x0_1 x0_2 x0_3 x0_4 x0_5 x1_0 x1_1)), [])
  | _, _ => none
theorem tCovers_ok : ConOK Try.prog 34 (normC tCovers_c) := normC_ok (by
  intro args bs obs lv out h ho φ vs w may ha hM
  unfold tCovers_c at h
  split at h
  · simp only [Option.some.injEq, Prod.mk.injEq] at h
    obtain ⟨rfl, rfl, rfl⟩ := h
    rename_i x0_0 x0_1 x0_2 x0_3 x0_4 x0_5 x1_0 x1_1
    exact evG_ok tabRa4_ok follows _ _ _ _ _ (tCovers_p x0_0 x0_1 x0_2 x0_3 x0_4 x0_5 x1_0 x1_1) ho φ vs w may ha hM
  · cases h)
theorem tCovers_en : Enters Try.prog 34 := fun args => by kernel_rfl
-- 1107 170 10 ms

/-! (azulejo/setup.Tri).Check -/
def sCheck_s0 (x0_0 x0_1 x0_6 x0_9 x0_12 x0_13 x0_14 x0_15 : Int) : Bool := bif x0_0 != fWithin_0 x0_0 (16384 : Int) then true else bif x0_1 != fWithin_0 x0_1 (16384 : Int) then true else bif decide (x0_6 < (0 : Int)) then true else bif decide ((65535 : Int) < x0_6) then true else bif decide (x0_9 < (1 : Int)) then true else bif decide ((1024 : Int) < x0_9) then true else !(x0_12 == vmColour_0 x0_12 && (x0_13 == vmColour_1 x0_13 && (x0_14 == vmColour_2 x0_14 && x0_15 == vmColour_3 x0_15)))
def sCheck_s1 (x0_2 x0_3 x0_7 x0_10 x0_16 x0_17 x0_18 x0_19 : Int) : Bool := bif x0_2 != fWithin_0 x0_2 (16384 : Int) then true else bif x0_3 != fWithin_0 x0_3 (16384 : Int) then true else bif decide (x0_7 < (0 : Int)) then true else bif decide ((65535 : Int) < x0_7) then true else bif decide (x0_10 < (1 : Int)) then true else bif decide ((1024 : Int) < x0_10) then true else !(x0_16 == vmColour_0 x0_16 && (x0_17 == vmColour_1 x0_17 && (x0_18 == vmColour_2 x0_18 && x0_19 == vmColour_3 x0_19)))
def sCheck_0 (x0_0 x0_1 x0_2 x0_3 x0_4 x0_5 x0_6 x0_7 x0_8 x0_9 x0_10 x0_11 x0_12 x0_13 x0_14 x0_15 x0_16 x0_17 x0_18 x0_19 x0_20 x0_21 x0_22 x0_23 : Int) : Int := bif sCheck_s0 x0_0 x0_1 x0_6 x0_9 x0_12 x0_13 x0_14 x0_15 || !sCheck_s0 x0_0 x0_1 x0_6 x0_9 x0_12 x0_13 x0_14 x0_15 && (sCheck_s1 x0_2 x0_3 x0_7 x0_10 x0_16 x0_17 x0_18 x0_19 || !sCheck_s1 x0_2 x0_3 x0_7 x0_10 x0_16 x0_17 x0_18 x0_19 && bif x0_4 != fWithin_0 x0_4 (16384 : Int) then true else bif x0_5 != fWithin_0 x0_5 (16384 : Int) then true else bif decide (x0_8 < (0 : Int)) then true else bif decide ((65535 : Int) < x0_8) then true else bif decide (x0_11 < (1 : Int)) then true else bif decide ((1024 : Int) < x0_11) then true else !(x0_20 == vmColour_0 x0_20 && (x0_21 == vmColour_1 x0_21 && (x0_22 == vmColour_2 x0_22 && x0_23 == vmColour_3 x0_23)))) then (2 : Int) else bif decide (tArea_0 x0_0 x0_1 x0_2 x0_3 x0_4 x0_5 ≤ (0 : Int)) then (4 : Int) else (0 : Int)
theorem sCheck_p (x0_0 x0_1 x0_2 x0_3 x0_4 x0_5 x0_6 x0_7 x0_8 x0_9 x0_10 x0_11 x0_12 x0_13 x0_14 x0_15 x0_16 x0_17 x0_18 x0_19 x0_20 x0_21 x0_22 x0_23 : Int) : evG Try.prog tabRa4 2000 50 [0, 1, 2, 3, 4, 5, 6, 65, 70] [] [] [.g [.int true .i64 x0_0, .int true .i64 x0_1, .int true .i64 x0_2, .int true .i64 x0_3, .int true .i64 x0_4, .int true .i64 x0_5, .int true .i64 x0_6, .int true .i64 x0_7, .int true .i64 x0_8, .int true .i64 x0_9, .int true .i64 x0_10, .int true .i64 x0_11, .int true .i64 x0_12, .int true .i64 x0_13, .int true .i64 x0_14, .int true .i64 x0_15, .int true .i64 x0_16, .int true .i64 x0_17, .int true .i64 x0_18, .int true .i64 x0_19, .int true .i64 x0_20, .int true .i64 x0_21, .int true .i64 x0_22, .int true .i64 x0_23]] [] = some ([], LV.a (At.int true IntKind.i64 (sCheck_0 x0_0 x0_1 x0_2 x0_3 x0_4 x0_5 x0_6 x0_7 x0_8 x0_9 x0_10 x0_11 x0_12 x0_13 x0_14 x0_15 x0_16 x0_17 x0_18 x0_19 x0_20 x0_21 x0_22 x0_23)), []) := by kernel_rfl
def sCheck_c : Con
  | [.g [.int true .i64 x0_0, .int true .i64 x0_1, .int true .i64 x0_2, .int true .i64 x0_3, .int true .i64 x0_4, .int true .i64 x0_5, .int true .i64 x0_6, .int true .i64 x0_7, .int true .i64 x0_8, .int true .i64 x0_9, .int true .i64 x0_10, .int true .i64 x0_11, .int true .i64 x0_12, .int true .i64 x0_13, .int true .i64 x0_14, .int true .i64 x0_15, .int true .i64 x0_16, .int true .i64 x0_17, .int true .i64 x0_18, .int true .i64 x0_19, .int true .i64 x0_20, .int true .i64 x0_21, .int true .i64 x0_22, .int true .i64 x0_23]], [] => some ([], LV.a (At.int true IntKind.i64 (sCheck_0 x0_0 x0_1 x0_2 x0_3 x0_4 x0_5 x0_6 x0_7 x0_8 x0_9 x0_10 x0_11 x0_12 x0_13 x0_14 x0_15 x0_16 x0_17 x0_18 x0_19 x0_20 x0_21 x0_22 x0_23)), [])
  | _, _ => none
theorem sCheck_ok : ConOK Try.prog 50 (normC sCheck_c) := normC_ok (by
  intro args bs obs lv out h ho φ vs w may ha hM
  unfold sCheck_c at h
  split at h
  · simp only [Option.some.injEq, Prod.mk.injEq] at h
    obtain ⟨rfl, rfl, rfl⟩ := h
    rename_i x0_0 x0_1 x0_2 x0_3 x0_4 x0_5 x0_6 x0_7 x0_8 x0_9 x0_10 x0_11 x0_12 x0_13 x0_14 x0_15 x0_16 x0_17 x0_18 x0_19 x0_20 x0_21 x0_22 x0_23
    exact evG_ok tabRa4_ok follows _ _ _ _ _ (sCheck_p x0_0 x0_1 x0_2 x0_3 x0_4 x0_5 x0_6 x0_7 x0_8 x0_9 x0_10 x0_11 x0_12 x0_13 x0_14 x0_15 x0_16 x0_17 x0_18 x0_19 x0_20 x0_21 x0_22 x0_23) ho φ vs w may ha hM
  · cases h)
theorem sCheck_en : Enters Try.prog 50 := fun args => by kernel_rfl
-- 4495 281 15 ms

/-! (azulejo/azulejolaw13.Small).Tri -/
def sm13Tri_s0 (x0_24 : Int) : Int := IntKind.wrap IntKind.i64 ((1 : Int) + IntKind.wrap IntKind.i64 (Int.tmod x0_24 (4 : Int)))
def sm13Tri_s1 (x0_0 x0_24 : Int) : Int := IntKind.wrap IntKind.i64 (IntKind.wrap IntKind.i64 (IntKind.wrap IntKind.i64 x0_0 * sm13Tri_s0 x0_24) + (100 : Int))
def sm13Tri_s2 (x0_1 x0_24 : Int) : Int := IntKind.wrap IntKind.i64 (IntKind.wrap IntKind.i64 (IntKind.wrap IntKind.i64 x0_1 * sm13Tri_s0 x0_24) + (100 : Int))
def sm13Tri_s3 (x0_2 x0_24 : Int) : Int := IntKind.wrap IntKind.i64 (IntKind.wrap IntKind.i64 (IntKind.wrap IntKind.i64 x0_2 * sm13Tri_s0 x0_24) + (100 : Int))
def sm13Tri_s4 (x0_3 x0_24 : Int) : Int := IntKind.wrap IntKind.i64 (IntKind.wrap IntKind.i64 (IntKind.wrap IntKind.i64 x0_3 * sm13Tri_s0 x0_24) + (100 : Int))
def sm13Tri_s5 (x0_4 x0_24 : Int) : Int := IntKind.wrap IntKind.i64 (IntKind.wrap IntKind.i64 (IntKind.wrap IntKind.i64 x0_4 * sm13Tri_s0 x0_24) + (100 : Int))
def sm13Tri_s6 (x0_5 x0_24 : Int) : Int := IntKind.wrap IntKind.i64 (IntKind.wrap IntKind.i64 (IntKind.wrap IntKind.i64 x0_5 * sm13Tri_s0 x0_24) + (100 : Int))
def sm13Tri_s7 (x0_0 x0_1 x0_2 x0_3 x0_4 x0_5 x0_24 : Int) : Int := tArea_0 (sm13Tri_s1 x0_0 x0_24) (sm13Tri_s2 x0_1 x0_24) (sm13Tri_s3 x0_2 x0_24) (sm13Tri_s4 x0_3 x0_24) (sm13Tri_s5 x0_4 x0_24) (sm13Tri_s6 x0_5 x0_24)
def sm13Tri_s8 (x0_0 x0_1 x0_2 x0_3 x0_4 x0_5 x0_24 : Int) : Bool := decide (sm13Tri_s7 x0_0 x0_1 x0_2 x0_3 x0_4 x0_5 x0_24 < (0 : Int))
def sm13Tri_s9 (x0_0 x0_1 x0_2 x0_3 x0_4 x0_5 x0_24 : Int) : Int := bif sm13Tri_s8 x0_0 x0_1 x0_2 x0_3 x0_4 x0_5 x0_24 then sm13Tri_s1 x0_0 x0_24 else sm13Tri_s1 x0_0 x0_24
def sm13Tri_0 (x0_0 x0_1 x0_2 x0_3 x0_4 x0_5 x0_24 : Int) : Int := sm13Tri_s9 x0_0 x0_1 x0_2 x0_3 x0_4 x0_5 x0_24
def sm13Tri_s10 (x0_0 x0_1 x0_2 x0_3 x0_4 x0_5 x0_24 : Int) : Int := bif sm13Tri_s8 x0_0 x0_1 x0_2 x0_3 x0_4 x0_5 x0_24 then sm13Tri_s2 x0_1 x0_24 else sm13Tri_s2 x0_1 x0_24
def sm13Tri_1 (x0_0 x0_1 x0_2 x0_3 x0_4 x0_5 x0_24 : Int) : Int := sm13Tri_s10 x0_0 x0_1 x0_2 x0_3 x0_4 x0_5 x0_24
def sm13Tri_s11 (x0_0 x0_1 x0_2 x0_3 x0_4 x0_5 x0_24 : Int) : Int := bif sm13Tri_s8 x0_0 x0_1 x0_2 x0_3 x0_4 x0_5 x0_24 then sm13Tri_s5 x0_4 x0_24 else sm13Tri_s3 x0_2 x0_24
def sm13Tri_2 (x0_0 x0_1 x0_2 x0_3 x0_4 x0_5 x0_24 : Int) : Int := sm13Tri_s11 x0_0 x0_1 x0_2 x0_3 x0_4 x0_5 x0_24
def sm13Tri_s12 (x0_0 x0_1 x0_2 x0_3 x0_4 x0_5 x0_24 : Int) : Int := bif sm13Tri_s8 x0_0 x0_1 x0_2 x0_3 x0_4 x0_5 x0_24 then sm13Tri_s6 x0_5 x0_24 else sm13Tri_s4 x0_3 x0_24
def sm13Tri_3 (x0_0 x0_1 x0_2 x0_3 x0_4 x0_5 x0_24 : Int) : Int := sm13Tri_s12 x0_0 x0_1 x0_2 x0_3 x0_4 x0_5 x0_24
def sm13Tri_s13 (x0_0 x0_1 x0_2 x0_3 x0_4 x0_5 x0_24 : Int) : Int := bif sm13Tri_s8 x0_0 x0_1 x0_2 x0_3 x0_4 x0_5 x0_24 then sm13Tri_s3 x0_2 x0_24 else sm13Tri_s5 x0_4 x0_24
def sm13Tri_4 (x0_0 x0_1 x0_2 x0_3 x0_4 x0_5 x0_24 : Int) : Int := sm13Tri_s13 x0_0 x0_1 x0_2 x0_3 x0_4 x0_5 x0_24
def sm13Tri_s14 (x0_0 x0_1 x0_2 x0_3 x0_4 x0_5 x0_24 : Int) : Int := bif sm13Tri_s8 x0_0 x0_1 x0_2 x0_3 x0_4 x0_5 x0_24 then sm13Tri_s4 x0_3 x0_24 else sm13Tri_s6 x0_5 x0_24
def sm13Tri_5 (x0_0 x0_1 x0_2 x0_3 x0_4 x0_5 x0_24 : Int) : Int := sm13Tri_s14 x0_0 x0_1 x0_2 x0_3 x0_4 x0_5 x0_24
def sm13Tri_6 (x0_9 : Int) : Int := IntKind.wrap IntKind.i64 ((1 : Int) + IntKind.wrap IntKind.i64 (Int.tmod x0_9 (1024 : Int)))
def sm13Tri_7 (x0_10 : Int) : Int := IntKind.wrap IntKind.i64 ((1 : Int) + IntKind.wrap IntKind.i64 (Int.tmod x0_10 (1024 : Int)))
def sm13Tri_8 (x0_11 : Int) : Int := IntKind.wrap IntKind.i64 ((1 : Int) + IntKind.wrap IntKind.i64 (Int.tmod x0_11 (1024 : Int)))
def sm13Tri_s15 (x0_0 x0_1 x0_2 x0_3 x0_4 x0_5 x0_24 : Int) : Int := tArea_0 (sm13Tri_s9 x0_0 x0_1 x0_2 x0_3 x0_4 x0_5 x0_24) (sm13Tri_s10 x0_0 x0_1 x0_2 x0_3 x0_4 x0_5 x0_24) (sm13Tri_s11 x0_0 x0_1 x0_2 x0_3 x0_4 x0_5 x0_24) (sm13Tri_s12 x0_0 x0_1 x0_2 x0_3 x0_4 x0_5 x0_24) (sm13Tri_s13 x0_0 x0_1 x0_2 x0_3 x0_4 x0_5 x0_24) (sm13Tri_s14 x0_0 x0_1 x0_2 x0_3 x0_4 x0_5 x0_24)
def sm13Tri_9 (x0_0 x0_1 x0_2 x0_3 x0_4 x0_5 x0_24 : Int) : Bool := decide ((0 : Int) < sm13Tri_s15 x0_0 x0_1 x0_2 x0_3 x0_4 x0_5 x0_24)
theorem sm13Tri_p (x0_0 x0_1 x0_2 x0_3 x0_4 x0_5 x0_6 x0_7 x0_8 x0_9 x0_10 x0_11 x0_12 x0_13 x0_14 x0_15 x0_16 x0_17 x0_18 x0_19 x0_20 x0_21 x0_22 x0_23 x0_24 : Int) : evG Try.prog tabRa4 2000 27 [0, 1, 2, 3, 4, 5, 6, 7, 17, 18, 62, 63, 82] [] [] [.g [.int true .i8 x0_0, .int true .i8 x0_1, .int true .i8 x0_2, .int true .i8 x0_3, .int true .i8 x0_4, .int true .i8 x0_5, .int true .u16 x0_6, .int true .u16 x0_7, .int true .u16 x0_8, .int true .u16 x0_9, .int true .u16 x0_10, .int true .u16 x0_11, .int true .u16 x0_12, .int true .u16 x0_13, .int true .u16 x0_14, .int true .u16 x0_15, .int true .u16 x0_16, .int true .u16 x0_17, .int true .u16 x0_18, .int true .u16 x0_19, .int true .u16 x0_20, .int true .u16 x0_21, .int true .u16 x0_22, .int true .u16 x0_23, .int true .u8 x0_24]] [] = some ([], LV.t [LV.g [At.int true IntKind.i64 (sm13Tri_0 x0_0 x0_1 x0_2 x0_3 x0_4 x0_5 x0_24), At.int true IntKind.i64 (sm13Tri_1 x0_0 x0_1 x0_2 x0_3 x0_4 x0_5 x0_24), At.int true IntKind.i64 (sm13Tri_2 x0_0 x0_1 x0_2 x0_3 x0_4 x0_5 x0_24), At.int true IntKind.i64 (sm13Tri_3 x0_0 x0_1 x0_2 x0_3 x0_4 x0_5 x0_24), At.int true IntKind.i64 (sm13Tri_4 x0_0 x0_1 x0_2 x0_3 x0_4 x0_5 x0_24), At.int true IntKind.i64 (sm13Tri_5 x0_0 x0_1 x0_2 x0_3 x0_4 x0_5 x0_24), At.int true IntKind.i64 (IntKind.wrap IntKind.i64 x0_6), At.int true IntKind.i64 (IntKind.wrap IntKind.i64 x0_7), At.int true IntKind.i64 (IntKind.wrap IntKind.i64 x0_8), At.int true IntKind.i64 (sm13Tri_6 x0_9), At.int true IntKind.i64 (sm13Tri_7 x0_10), At.int true IntKind.i64 (sm13Tri_8 x0_11), At.int true IntKind.i64 (IntKind.wrap IntKind.i64 x0_12), At.int true IntKind.i64 (IntKind.wrap IntKind.i64 x0_13), At.int true IntKind.i64 (IntKind.wrap IntKind.i64 x0_14), At.int true IntKind.i64 (IntKind.wrap IntKind.i64 x0_15), At.int true IntKind.i64 (IntKind.wrap IntKind.i64 x0_16), At.int true IntKind.i64 (IntKind.wrap IntKind.i64 x0_17), At.int true IntKind.i64 (IntKind.wrap IntKind.i64 x0_18), At.int true IntKind.i64 (IntKind.wrap IntKind.i64 x0_19), At.int true IntKind.i64 (IntKind.wrap IntKind.i64 x0_20), At.int true IntKind.i64 (IntKind.wrap IntKind.i64 x0_21), At.int true IntKind.i64 (IntKind.wrap IntKind.i64 x0_22), At.int true IntKind.i64 (IntKind.wrap IntKind.i64 x0_23)], LV.a (At.bool true (sm13Tri_9 x0_0 x0_1 x0_2 x0_3 x0_4 x0_5 x0_24))], []) := by kernel_rfl
def sm13Tri_c : Con
  | [.g [.int true .i8 x0_0, .int true .i8 x0_1, .int true .i8 x0_2, .int true .i8 x0_3, .int true .i8 x0_4, .int true .i8 x0_5, .int true .u16 x0_6, .int true .u16 x0_7, .int true .u16 x0_8, .int true .u16 x0_9, .int true .u16 x0_10, .int true .u16 x0_11, .int true .u16 x0_12, .int true .u16 x0_13, .int true .u16 x0_14, .int true .u16 x0_15, .int true .u16 x0_16, .int true .u16 x0_17, .int true .u16 x0_18, .int true .u16 x0_19, .int true .u16 x0_20, .int true .u16 x0_21, .int true .u16 x0_22, .int true .u16 x0_23, .int true .u8 x0_24]], [] => some ([], LV.t [LV.g [At.int true IntKind.i64 (sm13Tri_0 x0_0 x0_1 x0_2 x0_3 x0_4 x0_5 x0_24), At.int true IntKind.i64 (sm13Tri_1 x0_0 x0_1 x0_2 x0_3 x0_4 x0_5 x0_24), At.int true IntKind.i64 (sm13Tri_2 x0_0 x0_1 x0_2 x0_3 x0_4 x0_5 x0_24), At.int true IntKind.i64 (sm13Tri_3 x0_0 x0_1 x0_2 x0_3 x0_4 x0_5 x0_24), At.int true IntKind.i64 (sm13Tri_4 x0_0 x0_1 x0_2 x0_3 x0_4 x0_5 x0_24), At.int true IntKind.i64 (sm13Tri_5 x0_0 x0_1 x0_2 x0_3 x0_4 x0_5 x0_24), At.int true IntKind.i64 (IntKind.wrap IntKind.i64 x0_6), At.int true IntKind.i64 (IntKind.wrap IntKind.i64 x0_7), At.int true IntKind.i64 (IntKind.wrap IntKind.i64 x0_8), At.int true IntKind.i64 (sm13Tri_6 x0_9), At.int true IntKind.i64 (sm13Tri_7 x0_10), At.int true IntKind.i64 (sm13Tri_8 x0_11), At.int true IntKind.i64 (IntKind.wrap IntKind.i64 x0_12), At.int true IntKind.i64 (IntKind.wrap IntKind.i64 x0_13), At.int true IntKind.i64 (IntKind.wrap IntKind.i64 x0_14), At.int true IntKind.i64 (IntKind.wrap IntKind.i64 x0_15), At.int true IntKind.i64 (IntKind.wrap IntKind.i64 x0_16), At.int true IntKind.i64 (IntKind.wrap IntKind.i64 x0_17), At.int true IntKind.i64 (IntKind.wrap IntKind.i64 x0_18), At.int true IntKind.i64 (IntKind.wrap IntKind.i64 x0_19), At.int true IntKind.i64 (IntKind.wrap IntKind.i64 x0_20), At.int true IntKind.i64 (IntKind.wrap IntKind.i64 x0_21), At.int true IntKind.i64 (IntKind.wrap IntKind.i64 x0_22), At.int true IntKind.i64 (IntKind.wrap IntKind.i64 x0_23)], LV.a (At.bool true (sm13Tri_9 x0_0 x0_1 x0_2 x0_3 x0_4 x0_5 x0_24))], [])
  | _, _ => none
theorem sm13Tri_ok : ConOK Try.prog 27 (normC sm13Tri_c) := normC_ok (by
  intro args bs obs lv out h ho φ vs w may ha hM
  unfold sm13Tri_c at h
  split at h
  · simp only [Option.some.injEq, Prod.mk.injEq] at h
    obtain ⟨rfl, rfl, rfl⟩ := h
    rename_i x0_0 x0_1 x0_2 x0_3 x0_4 x0_5 x0_6 x0_7 x0_8 x0_9 x0_10 x0_11 x0_12 x0_13 x0_14 x0_15 x0_16 x0_17 x0_18 x0_19 x0_20 x0_21 x0_22 x0_23 x0_24
    exact evG_ok tabRa4_ok follows _ _ _ _ _ (sm13Tri_p x0_0 x0_1 x0_2 x0_3 x0_4 x0_5 x0_6 x0_7 x0_8 x0_9 x0_10 x0_11 x0_12 x0_13 x0_14 x0_15 x0_16 x0_17 x0_18 x0_19 x0_20 x0_21 x0_22 x0_23 x0_24) ho φ vs w may ha hM
  · cases h)
theorem sm13Tri_en : Enters Try.prog 27 := fun args => by kernel_rfl
-- 2825 1183 30 ms

def tabRa5 : Tab := (34, normC tCovers_c) :: (50, normC sCheck_c) :: (27, normC sm13Tri_c) :: tabRa4
theorem tabRa5_ok : TOK Try.prog tabRa5 := TOK.cons tCovers_en tCovers_ok (TOK.cons sCheck_en sCheck_ok (TOK.cons sm13Tri_en sm13Tri_ok (tabRa4_ok)))

end Go.Proofs.Ytcdejlgophpdjaa
end

section
namespace Go.Proofs.Ytcdejlgophpdjaa
open Go Go.RowKit Go.Proofs.Ytcdejlgophpdjaa.V
set_option linter.unusedVariables false

/-! (azulejo/setup.Tri).At -/
def sAt_s0 (x0_0 x0_1 x0_2 x0_3 x0_4 x0_5 x0_6 x0_7 x0_8 x0_9 x0_10 x0_11 x0_12 x0_13 x0_14 x0_15 x0_16 x0_17 x0_18 x0_19 x0_20 x0_21 x0_22 x0_23 x1 x2 : Int) : Bool := bif sCheck_0 x0_0 x0_1 x0_2 x0_3 x0_4 x0_5 x0_6 x0_7 x0_8 x0_9 x0_10 x0_11 x0_12 x0_13 x0_14 x0_15 x0_16 x0_17 x0_18 x0_19 x0_20 x0_21 x0_22 x0_23 != (0 : Int) then true else !tCovers_0 x0_0 x0_1 x0_2 x0_3 x0_4 x0_5 (sMiddle_0 x1) (sMiddle_1 x2)
def sAt_0 (x0_0 x0_1 x0_2 x0_3 x0_4 x0_5 x0_6 x0_7 x0_8 x0_9 x0_10 x0_11 x0_12 x0_13 x0_14 x0_15 x0_16 x0_17 x0_18 x0_19 x0_20 x0_21 x0_22 x0_23 x1 x2 : Int) : Int := bif sAt_s0 x0_0 x0_1 x0_2 x0_3 x0_4 x0_5 x0_6 x0_7 x0_8 x0_9 x0_10 x0_11 x0_12 x0_13 x0_14 x0_15 x0_16 x0_17 x0_18 x0_19 x0_20 x0_21 x0_22 x0_23 x1 x2 then (0 : Int) else fFloor_0 (IntKind.wrap IntKind.i64 (IntKind.wrap IntKind.i64 (IntKind.wrap IntKind.i64 ((0 : Int) + IntKind.wrap IntKind.i64 (tWeights_0 x0_2 x0_3 x0_4 x0_5 (sMiddle_0 x1) (sMiddle_1 x2) * x0_6)) + IntKind.wrap IntKind.i64 (tWeights_1 x0_0 x0_1 x0_4 x0_5 (sMiddle_0 x1) (sMiddle_1 x2) * x0_7)) + IntKind.wrap IntKind.i64 (tWeights_2 x0_0 x0_1 x0_2 x0_3 (sMiddle_0 x1) (sMiddle_1 x2) * x0_8))) (tArea_0 x0_0 x0_1 x0_2 x0_3 x0_4 x0_5)
def sAt_s1 (x0_2 x0_3 x0_4 x0_5 x0_9 x1 x2 : Int) : Int := IntKind.wrap IntKind.i64 (tWeights_0 x0_2 x0_3 x0_4 x0_5 (sMiddle_0 x1) (sMiddle_1 x2) * x0_9)
def sAt_s2 (x0_0 x0_1 x0_4 x0_5 x0_10 x1 x2 : Int) : Int := IntKind.wrap IntKind.i64 (tWeights_1 x0_0 x0_1 x0_4 x0_5 (sMiddle_0 x1) (sMiddle_1 x2) * x0_10)
def sAt_s3 (x0_0 x0_1 x0_2 x0_3 x0_11 x1 x2 : Int) : Int := IntKind.wrap IntKind.i64 (tWeights_2 x0_0 x0_1 x0_2 x0_3 (sMiddle_0 x1) (sMiddle_1 x2) * x0_11)
def sAt_s4 (x0_0 x0_1 x0_2 x0_3 x0_4 x0_5 x0_9 x0_10 x0_11 x1 x2 : Int) : Int := IntKind.wrap IntKind.i64 (IntKind.wrap IntKind.i64 (IntKind.wrap IntKind.i64 ((0 : Int) + sAt_s1 x0_2 x0_3 x0_4 x0_5 x0_9 x1 x2) + sAt_s2 x0_0 x0_1 x0_4 x0_5 x0_10 x1 x2) + sAt_s3 x0_0 x0_1 x0_2 x0_3 x0_11 x1 x2)
def sAt_1 (x0_0 x0_1 x0_2 x0_3 x0_4 x0_5 x0_6 x0_7 x0_8 x0_9 x0_10 x0_11 x0_12 x0_13 x0_14 x0_15 x0_16 x0_17 x0_18 x0_19 x0_20 x0_21 x0_22 x0_23 x1 x2 : Int) : Int := bif sAt_s0 x0_0 x0_1 x0_2 x0_3 x0_4 x0_5 x0_6 x0_7 x0_8 x0_9 x0_10 x0_11 x0_12 x0_13 x0_14 x0_15 x0_16 x0_17 x0_18 x0_19 x0_20 x0_21 x0_22 x0_23 x1 x2 then (0 : Int) else fFloor_0 (IntKind.wrap IntKind.i64 (IntKind.wrap IntKind.i64 (IntKind.wrap IntKind.i64 ((0 : Int) + IntKind.wrap IntKind.i64 (sAt_s1 x0_2 x0_3 x0_4 x0_5 x0_9 x1 x2 * x0_12)) + IntKind.wrap IntKind.i64 (sAt_s2 x0_0 x0_1 x0_4 x0_5 x0_10 x1 x2 * x0_16)) + IntKind.wrap IntKind.i64 (sAt_s3 x0_0 x0_1 x0_2 x0_3 x0_11 x1 x2 * x0_20))) (sAt_s4 x0_0 x0_1 x0_2 x0_3 x0_4 x0_5 x0_9 x0_10 x0_11 x1 x2)
def sAt_2 (x0_0 x0_1 x0_2 x0_3 x0_4 x0_5 x0_6 x0_7 x0_8 x0_9 x0_10 x0_11 x0_12 x0_13 x0_14 x0_15 x0_16 x0_17 x0_18 x0_19 x0_20 x0_21 x0_22 x0_23 x1 x2 : Int) : Int := bif sAt_s0 x0_0 x0_1 x0_2 x0_3 x0_4 x0_5 x0_6 x0_7 x0_8 x0_9 x0_10 x0_11 x0_12 x0_13 x0_14 x0_15 x0_16 x0_17 x0_18 x0_19 x0_20 x0_21 x0_22 x0_23 x1 x2 then (0 : Int) else fFloor_0 (IntKind.wrap IntKind.i64 (IntKind.wrap IntKind.i64 (IntKind.wrap IntKind.i64 ((0 : Int) + IntKind.wrap IntKind.i64 (sAt_s1 x0_2 x0_3 x0_4 x0_5 x0_9 x1 x2 * x0_13)) + IntKind.wrap IntKind.i64 (sAt_s2 x0_0 x0_1 x0_4 x0_5 x0_10 x1 x2 * x0_17)) + IntKind.wrap IntKind.i64 (sAt_s3 x0_0 x0_1 x0_2 x0_3 x0_11 x1 x2 * x0_21))) (sAt_s4 x0_0 x0_1 x0_2 x0_3 x0_4 x0_5 x0_9 x0_10 x0_11 x1 x2)
def sAt_3 (x0_0 x0_1 x0_2 x0_3 x0_4 x0_5 x0_6 x0_7 x0_8 x0_9 x0_10 x0_11 x0_12 x0_13 x0_14 x0_15 x0_16 x0_17 x0_18 x0_19 x0_20 x0_21 x0_22 x0_23 x1 x2 : Int) : Int := bif sAt_s0 x0_0 x0_1 x0_2 x0_3 x0_4 x0_5 x0_6 x0_7 x0_8 x0_9 x0_10 x0_11 x0_12 x0_13 x0_14 x0_15 x0_16 x0_17 x0_18 x0_19 x0_20 x0_21 x0_22 x0_23 x1 x2 then (0 : Int) else fFloor_0 (IntKind.wrap IntKind.i64 (IntKind.wrap IntKind.i64 (IntKind.wrap IntKind.i64 ((0 : Int) + IntKind.wrap IntKind.i64 (sAt_s1 x0_2 x0_3 x0_4 x0_5 x0_9 x1 x2 * x0_14)) + IntKind.wrap IntKind.i64 (sAt_s2 x0_0 x0_1 x0_4 x0_5 x0_10 x1 x2 * x0_18)) + IntKind.wrap IntKind.i64 (sAt_s3 x0_0 x0_1 x0_2 x0_3 x0_11 x1 x2 * x0_22))) (sAt_s4 x0_0 x0_1 x0_2 x0_3 x0_4 x0_5 x0_9 x0_10 x0_11 x1 x2)
def sAt_4 (x0_0 x0_1 x0_2 x0_3 x0_4 x0_5 x0_6 x0_7 x0_8 x0_9 x0_10 x0_11 x0_12 x0_13 x0_14 x0_15 x0_16 x0_17 x0_18 x0_19 x0_20 x0_21 x0_22 x0_23 x1 x2 : Int) : Int := bif sAt_s0 x0_0 x0_1 x0_2 x0_3 x0_4 x0_5 x0_6 x0_7 x0_8 x0_9 x0_10 x0_11 x0_12 x0_13 x0_14 x0_15 x0_16 x0_17 x0_18 x0_19 x0_20 x0_21 x0_22 x0_23 x1 x2 then (0 : Int) else fFloor_0 (IntKind.wrap IntKind.i64 (IntKind.wrap IntKind.i64 (IntKind.wrap IntKind.i64 ((0 : Int) + IntKind.wrap IntKind.i64 (sAt_s1 x0_2 x0_3 x0_4 x0_5 x0_9 x1 x2 * x0_15)) + IntKind.wrap IntKind.i64 (sAt_s2 x0_0 x0_1 x0_4 x0_5 x0_10 x1 x2 * x0_19)) + IntKind.wrap IntKind.i64 (sAt_s3 x0_0 x0_1 x0_2 x0_3 x0_11 x1 x2 * x0_23))) (sAt_s4 x0_0 x0_1 x0_2 x0_3 x0_4 x0_5 x0_9 x0_10 x0_11 x1 x2)
def sAt_5 (x0_0 x0_1 x0_2 x0_3 x0_4 x0_5 x0_6 x0_7 x0_8 x0_9 x0_10 x0_11 x0_12 x0_13 x0_14 x0_15 x0_16 x0_17 x0_18 x0_19 x0_20 x0_21 x0_22 x0_23 x1 x2 : Int) : Bool := bif sAt_s0 x0_0 x0_1 x0_2 x0_3 x0_4 x0_5 x0_6 x0_7 x0_8 x0_9 x0_10 x0_11 x0_12 x0_13 x0_14 x0_15 x0_16 x0_17 x0_18 x0_19 x0_20 x0_21 x0_22 x0_23 x1 x2 then false else true
def sAt_o (x0_0 x0_1 x0_2 x0_3 x0_4 x0_5 x0_6 x0_7 x0_8 x0_9 x0_10 x0_11 x0_12 x0_13 x0_14 x0_15 x0_16 x0_17 x0_18 x0_19 x0_20 x0_21 x0_22 x0_23 x1 x2 : Int) : List Prop := [(!sAt_s0 x0_0 x0_1 x0_2 x0_3 x0_4 x0_5 x0_6 x0_7 x0_8 x0_9 x0_10 x0_11 x0_12 x0_13 x0_14 x0_15 x0_16 x0_17 x0_18 x0_19 x0_20 x0_21 x0_22 x0_23 x1 x2) = true → (!sAt_s4 x0_0 x0_1 x0_2 x0_3 x0_4 x0_5 x0_9 x0_10 x0_11 x1 x2 == (0 : Int)) = true → sAt_s4 x0_0 x0_1 x0_2 x0_3 x0_4 x0_5 x0_9 x0_10 x0_11 x1 x2 ≠ (0 : Int), (!sAt_s0 x0_0 x0_1 x0_2 x0_3 x0_4 x0_5 x0_6 x0_7 x0_8 x0_9 x0_10 x0_11 x0_12 x0_13 x0_14 x0_15 x0_16 x0_17 x0_18 x0_19 x0_20 x0_21 x0_22 x0_23 x1 x2) = true → (!sAt_s4 x0_0 x0_1 x0_2 x0_3 x0_4 x0_5 x0_9 x0_10 x0_11 x1 x2 == (0 : Int)) = true → sAt_s4 x0_0 x0_1 x0_2 x0_3 x0_4 x0_5 x0_9 x0_10 x0_11 x1 x2 ≠ (0 : Int), (!sAt_s0 x0_0 x0_1 x0_2 x0_3 x0_4 x0_5 x0_6 x0_7 x0_8 x0_9 x0_10 x0_11 x0_12 x0_13 x0_14 x0_15 x0_16 x0_17 x0_18 x0_19 x0_20 x0_21 x0_22 x0_23 x1 x2) = true → (!sAt_s4 x0_0 x0_1 x0_2 x0_3 x0_4 x0_5 x0_9 x0_10 x0_11 x1 x2 == (0 : Int)) = true → sAt_s4 x0_0 x0_1 x0_2 x0_3 x0_4 x0_5 x0_9 x0_10 x0_11 x1 x2 ≠ (0 : Int), (!sAt_s0 x0_0 x0_1 x0_2 x0_3 x0_4 x0_5 x0_6 x0_7 x0_8 x0_9 x0_10 x0_11 x0_12 x0_13 x0_14 x0_15 x0_16 x0_17 x0_18 x0_19 x0_20 x0_21 x0_22 x0_23 x1 x2) = true → (!sAt_s4 x0_0 x0_1 x0_2 x0_3 x0_4 x0_5 x0_9 x0_10 x0_11 x1 x2 == (0 : Int)) = true → sAt_s4 x0_0 x0_1 x0_2 x0_3 x0_4 x0_5 x0_9 x0_10 x0_11 x1 x2 ≠ (0 : Int), (!sAt_s0 x0_0 x0_1 x0_2 x0_3 x0_4 x0_5 x0_6 x0_7 x0_8 x0_9 x0_10 x0_11 x0_12 x0_13 x0_14 x0_15 x0_16 x0_17 x0_18 x0_19 x0_20 x0_21 x0_22 x0_23 x1 x2) = true → (!sAt_s4 x0_0 x0_1 x0_2 x0_3 x0_4 x0_5 x0_9 x0_10 x0_11 x1 x2 == (0 : Int)) = true → sAt_s4 x0_0 x0_1 x0_2 x0_3 x0_4 x0_5 x0_9 x0_10 x0_11 x1 x2 ≠ (0 : Int), (!sAt_s0 x0_0 x0_1 x0_2 x0_3 x0_4 x0_5 x0_6 x0_7 x0_8 x0_9 x0_10 x0_11 x0_12 x0_13 x0_14 x0_15 x0_16 x0_17 x0_18 x0_19 x0_20 x0_21 x0_22 x0_23 x1 x2) = true → (!sAt_s4 x0_0 x0_1 x0_2 x0_3 x0_4 x0_5 x0_9 x0_10 x0_11 x1 x2 == (0 : Int)) = true → sAt_s4 x0_0 x0_1 x0_2 x0_3 x0_4 x0_5 x0_9 x0_10 x0_11 x1 x2 ≠ (0 : Int), (!sAt_s0 x0_0 x0_1 x0_2 x0_3 x0_4 x0_5 x0_6 x0_7 x0_8 x0_9 x0_10 x0_11 x0_12 x0_13 x0_14 x0_15 x0_16 x0_17 x0_18 x0_19 x0_20 x0_21 x0_22 x0_23 x1 x2) = true → (!sAt_s4 x0_0 x0_1 x0_2 x0_3 x0_4 x0_5 x0_9 x0_10 x0_11 x1 x2 == (0 : Int)) = true → sAt_s4 x0_0 x0_1 x0_2 x0_3 x0_4 x0_5 x0_9 x0_10 x0_11 x1 x2 ≠ (0 : Int), (!sAt_s0 x0_0 x0_1 x0_2 x0_3 x0_4 x0_5 x0_6 x0_7 x0_8 x0_9 x0_10 x0_11 x0_12 x0_13 x0_14 x0_15 x0_16 x0_17 x0_18 x0_19 x0_20 x0_21 x0_22 x0_23 x1 x2) = true → (!sAt_s4 x0_0 x0_1 x0_2 x0_3 x0_4 x0_5 x0_9 x0_10 x0_11 x1 x2 == (0 : Int)) = true → sAt_s4 x0_0 x0_1 x0_2 x0_3 x0_4 x0_5 x0_9 x0_10 x0_11 x1 x2 ≠ (0 : Int), (!sAt_s0 x0_0 x0_1 x0_2 x0_3 x0_4 x0_5 x0_6 x0_7 x0_8 x0_9 x0_10 x0_11 x0_12 x0_13 x0_14 x0_15 x0_16 x0_17 x0_18 x0_19 x0_20 x0_21 x0_22 x0_23 x1 x2) = true → (!tArea_0 x0_0 x0_1 x0_2 x0_3 x0_4 x0_5 == (0 : Int)) = true → tArea_0 x0_0 x0_1 x0_2 x0_3 x0_4 x0_5 ≠ (0 : Int), (!sAt_s0 x0_0 x0_1 x0_2 x0_3 x0_4 x0_5 x0_6 x0_7 x0_8 x0_9 x0_10 x0_11 x0_12 x0_13 x0_14 x0_15 x0_16 x0_17 x0_18 x0_19 x0_20 x0_21 x0_22 x0_23 x1 x2) = true → (!tArea_0 x0_0 x0_1 x0_2 x0_3 x0_4 x0_5 == (0 : Int)) = true → tArea_0 x0_0 x0_1 x0_2 x0_3 x0_4 x0_5 ≠ (0 : Int)]
theorem sAt_p (x0_0 x0_1 x0_2 x0_3 x0_4 x0_5 x0_6 x0_7 x0_8 x0_9 x0_10 x0_11 x0_12 x0_13 x0_14 x0_15 x0_16 x0_17 x0_18 x0_19 x0_20 x0_21 x0_22 x0_23 x1 x2 : Int) : evG Try.prog tabRa5 2000 51 [0, 1, 2, 3, 6, 7, 8, 9, 10, 11, 12, 13, 14, 15, 16, 17, 30, 36, 37, 38, 57, 58, 80, 81] [] [] [.g [.int true .i64 x0_0, .int true .i64 x0_1, .int true .i64 x0_2, .int true .i64 x0_3, .int true .i64 x0_4, .int true .i64 x0_5, .int true .i64 x0_6, .int true .i64 x0_7, .int true .i64 x0_8, .int true .i64 x0_9, .int true .i64 x0_10, .int true .i64 x0_11, .int true .i64 x0_12, .int true .i64 x0_13, .int true .i64 x0_14, .int true .i64 x0_15, .int true .i64 x0_16, .int true .i64 x0_17, .int true .i64 x0_18, .int true .i64 x0_19, .int true .i64 x0_20, .int true .i64 x0_21, .int true .i64 x0_22, .int true .i64 x0_23], .a (.int true .i64 x1), .a (.int true .i64 x2)] [] = some (sAt_o x0_0 x0_1 x0_2 x0_3 x0_4 x0_5 x0_6 x0_7 x0_8 x0_9 x0_10 x0_11 x0_12 x0_13 x0_14 x0_15 x0_16 x0_17 x0_18 x0_19 x0_20 x0_21 x0_22 x0_23 x1 x2, LV.t [LV.a (At.int true IntKind.i64 (sAt_0 x0_0 x0_1 x0_2 x0_3 x0_4 x0_5 x0_6 x0_7 x0_8 x0_9 x0_10 x0_11 x0_12 x0_13 x0_14 x0_15 x0_16 x0_17 x0_18 x0_19 x0_20 x0_21 x0_22 x0_23 x1 x2)), LV.g [At.int true IntKind.i64 (sAt_1 x0_0 x0_1 x0_2 x0_3 x0_4 x0_5 x0_6 x0_7 x0_8 x0_9 x0_10 x0_11 x0_12 x0_13 x0_14 x0_15 x0_16 x0_17 x0_18 x0_19 x0_20 x0_21 x0_22 x0_23 x1 x2), At.int true IntKind.i64 (sAt_2 x0_0 x0_1 x0_2 x0_3 x0_4 x0_5 x0_6 x0_7 x0_8 x0_9 x0_10 x0_11 x0_12 x0_13 x0_14 x0_15 x0_16 x0_17 x0_18 x0_19 x0_20 x0_21 x0_22 x0_23 x1 x2), At.int true IntKind.i64 (sAt_3 x0_0 x0_1 x0_2 x0_3 x0_4 x0_5 x0_6 x0_7 x0_8 x0_9 x0_10 x0_11 x0_12 x0_13 x0_14 x0_15 x0_16 x0_17 x0_18 x0_19 x0_20 x0_21 x0_22 x0_23 x1 x2), At.int true IntKind.i64 (sAt_4 x0_0 x0_1 x0_2 x0_3 x0_4 x0_5 x0_6 x0_7 x0_8 x0_9 x0_10 x0_11 x0_12 x0_13 x0_14 x0_15 x0_16 x0_17 x0_18 x0_19 x0_20 x0_21 x0_22 x0_23 x1 x2)], LV.a (At.bool true (sAt_5 x0_0 x0_1 x0_2 x0_3 x0_4 x0_5 x0_6 x0_7 x0_8 x0_9 x0_10 x0_11 x0_12 x0_13 x0_14 x0_15 x0_16 x0_17 x0_18 x0_19 x0_20 x0_21 x0_22 x0_23 x1 x2))], []) := by kernel_rfl
def sAt_c : Con
  | [.g [.int true .i64 x0_0, .int true .i64 x0_1, .int true .i64 x0_2, .int true .i64 x0_3, .int true .i64 x0_4, .int true .i64 x0_5, .int true .i64 x0_6, .int true .i64 x0_7, .int true .i64 x0_8, .int true .i64 x0_9, .int true .i64 x0_10, .int true .i64 x0_11, .int true .i64 x0_12, .int true .i64 x0_13, .int true .i64 x0_14, .int true .i64 x0_15, .int true .i64 x0_16, .int true .i64 x0_17, .int true .i64 x0_18, .int true .i64 x0_19, .int true .i64 x0_20, .int true .i64 x0_21, .int true .i64 x0_22, .int true .i64 x0_23], .a (.int true .i64 x1), .a (.int true .i64 x2)], [] => some (sAt_o x0_0 x0_1 x0_2 x0_3 x0_4 x0_5 x0_6 x0_7 x0_8 x0_9 x0_10 x0_11 x0_12 x0_13 x0_14 x0_15 x0_16 x0_17 x0_18 x0_19 x0_20 x0_21 x0_22 x0_23 x1 x2, LV.t [LV.a (At.int true IntKind.i64 (sAt_0 x0_0 x0_1 x0_2 x0_3 x0_4 x0_5 x0_6 x0_7 x0_8 x0_9 x0_10 x0_11 x0_12 x0_13 x0_14 x0_15 x0_16 x0_17 x0_18 x0_19 x0_20 x0_21 x0_22 x0_23 x1 x2)), LV.g [At.int true IntKind.i64 (sAt_1 x0_0 x0_1 x0_2 x0_3 x0_4 x0_5 x0_6 x0_7 x0_8 x0_9 x0_10 x0_11 x0_12 x0_13 x0_14 x0_15 x0_16 x0_17 x0_18 x0_19 x0_20 x0_21 x0_22 x0_23 x1 x2), At.int true IntKind.i64 (sAt_2 x0_0 x0_1 x0_2 x0_3 x0_4 x0_5 x0_6 x0_7 x0_8 x0_9 x0_10 x0_11 x0_12 x0_13 x0_14 x0_15 x0_16 x0_17 x0_18 x0_19 x0_20 x0_21 x0_22 x0_23 x1 x2), At.int true IntKind.i64 (sAt_3 x0_0 x0_1 x0_2 x0_3 x0_4 x0_5 x0_6 x0_7 x0_8 x0_9 x0_10 x0_11 x0_12 x0_13 x0_14 x0_15 x0_16 x0_17 x0_18 x0_19 x0_20 x0_21 x0_22 x0_23 x1 x2), At.int true IntKind.i64 (sAt_4 x0_0 x0_1 x0_2 x0_3 x0_4 x0_5 x0_6 x0_7 x0_8 x0_9 x0_10 x0_11 x0_12 x0_13 x0_14 x0_15 x0_16 x0_17 x0_18 x0_19 x0_20 x0_21 x0_22 x0_23 x1 x2)], LV.a (At.bool true (sAt_5 x0_0 x0_1 x0_2 x0_3 x0_4 x0_5 x0_6 x0_7 x0_8 x0_9 x0_10 x0_11 x0_12 x0_13 x0_14 x0_15 x0_16 x0_17 x0_18 x0_19 x0_20 x0_21 x0_22 x0_23 x1 x2))], [])
  | _, _ => none
theorem sAt_ok : ConOK Try.prog 51 (normC sAt_c) := normC_ok (by
  intro args bs obs lv out h ho φ vs w may ha hM
  unfold sAt_c at h
  split at h
  · simp only [Option.some.injEq, Prod.mk.injEq] at h
    obtain ⟨rfl, rfl, rfl⟩ := h
    rename_i x0_0 x0_1 x0_2 x0_3 x0_4 x0_5 x0_6 x0_7 x0_8 x0_9 x0_10 x0_11 x0_12 x0_13 x0_14 x0_15 x0_16 x0_17 x0_18 x0_19 x0_20 x0_21 x0_22 x0_23 x1 x2
    exact evG_ok tabRa5_ok follows _ _ _ _ _ (sAt_p x0_0 x0_1 x0_2 x0_3 x0_4 x0_5 x0_6 x0_7 x0_8 x0_9 x0_10 x0_11 x0_12 x0_13 x0_14 x0_15 x0_16 x0_17 x0_18 x0_19 x0_20 x0_21 x0_22 x0_23 x1 x2) ho φ vs w may ha hM
  · cases h)
theorem sAt_en : Enters Try.prog 51 := fun args => by kernel_rfl
-- 2345 1736 36 ms

def tabRa6 : Tab := (51, normC sAt_c) :: tabRa5
theorem tabRa6_ok : TOK Try.prog tabRa6 := TOK.cons sAt_en sAt_ok (tabRa5_ok)

end Go.Proofs.Ytcdejlgophpdjaa
end

