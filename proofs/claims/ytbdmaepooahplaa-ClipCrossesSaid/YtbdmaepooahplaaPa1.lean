/-
  Contracts of functions of the program, each run on the local memory (printed by a program of this session's own: wip/tools).
-/
import Derived.Test.YtbdmaepooahplaaVL
namespace Go.Proofs.Ytbdmaepooahplaa
open Go Go.RowKit Go.Proofs.Ytbdmaepooahplaa.V
set_option linter.unusedVariables false

/-! azulejo/fix.Within -/
def fWithin_s0 (x0 : Int) (x1 : Int) : Int := if x1 < x0 then x1 else x0
def fWithin_s1 (x1 : Int) : Int := IntKind.wrap IntKind.i64 ((0 : Int) - x1)
def fWithin_0 (x0 : Int) (x1 : Int) : Int := if fWithin_s0 x0 x1 < fWithin_s1 x1 then fWithin_s1 x1 else fWithin_s0 x0 x1
theorem fWithin_p (x0 : Int) (x1 : Int) : evG Try.prog tabVL 2000 74 [0, 1, 4] [] [] [.a (.int true .i64 x0), .a (.int true .i64 x1)] [] = some ([], LV.a (At.int true IntKind.i64 (fWithin_0 x0 x1)), []) := by kernel_rfl
def fWithin_c : Con
  | [.a (.int true .i64 x0), .a (.int true .i64 x1)], [] => some ([], LV.a (At.int true IntKind.i64 (fWithin_0 x0 x1)), [])
  | _, _ => none
theorem fWithin_ok : ConOK Try.prog 74 (normC fWithin_c) := normC_ok (by
  intro args bs obs lv out h ho φ vs w may ha hM
  unfold fWithin_c at h
  split at h
  · simp only [Option.some.injEq, Prod.mk.injEq] at h
    obtain ⟨rfl, rfl, rfl⟩ := h
    rename_i x0 x1
    exact evG_ok tabVL_ok follows _ _ _ _ _ (fWithin_p x0 x1) ho φ vs w may ha hM
  · cases h)
theorem fWithin_en : Enters Try.prog 74 := fun args => by kernel_rfl
-- 48 4 3 ms

/-! azulejo/fix.Floor -/
def fFloor_0 (x0 : Int) (x1 : Int) : Int := bif x1 == (0 : Int) then (0 : Int) else bif bif Int.tmod x0 x1 != (0 : Int) then !decide (x0 < (0 : Int)) == decide (x1 < (0 : Int)) else false then IntKind.wrap IntKind.i64 (IntKind.wrap IntKind.i64 (Int.tdiv x0 x1) - (1 : Int)) else IntKind.wrap IntKind.i64 (Int.tdiv x0 x1)
def fFloor_o (x0 : Int) (x1 : Int) : List Prop := [(!x1 == (0 : Int)) = true → x1 ≠ (0 : Int), (!x1 == (0 : Int)) = true → x1 ≠ (0 : Int)]
theorem fFloor_ot (x0 : Int) (x1 : Int) : Alls (fFloor_o x0 x1) := by simp [fFloor_o,Alls]
theorem fFloor_p (x0 : Int) (x1 : Int) : evG Try.prog tabVL 2000 71 [0, 1, 4, 5, 7, 21] [] [] [.a (.int true .i64 x0), .a (.int true .i64 x1)] [] = some (fFloor_o x0 x1, LV.a (At.int true IntKind.i64 (fFloor_0 x0 x1)), []) := by kernel_rfl
def fFloor_c : Con
  | [.a (.int true .i64 x0), .a (.int true .i64 x1)], [] => some ([], LV.a (At.int true IntKind.i64 (fFloor_0 x0 x1)), [])
  | _, _ => none
theorem fFloor_ok : ConOK Try.prog 71 (normC fFloor_c) := normC_ok (by
  intro args bs obs lv out h ho φ vs w may ha hM
  unfold fFloor_c at h
  split at h
  · simp only [Option.some.injEq, Prod.mk.injEq] at h
    obtain ⟨rfl, rfl, rfl⟩ := h
    rename_i x0 x1
    exact evG_ok tabVL_ok follows _ _ _ _ _ (fFloor_p x0 x1) (fFloor_ot x0 x1) φ vs w may ha hM
  · cases h)
theorem fFloor_en : Enters Try.prog 71 := fun args => by kernel_rfl
-- 102 8 4 ms

/-! (azulejo/edge.Tri).Turned -/
theorem tTurned_p (x0_0 : Int) (x0_1 : Int) (x0_2 : Int) (x0_3 : Int) (x0_4 : Int) (x0_5 : Int) : evG Try.prog tabVL 2000 69 [0, 1, 2] [] [] [.g [.int true .i64 x0_0, .int true .i64 x0_1, .int true .i64 x0_2, .int true .i64 x0_3, .int true .i64 x0_4, .int true .i64 x0_5]] [] = some ([], LV.g [At.int true IntKind.i64 x0_0, At.int true IntKind.i64 x0_1, At.int true IntKind.i64 x0_4, At.int true IntKind.i64 x0_5, At.int true IntKind.i64 x0_2, At.int true IntKind.i64 x0_3], []) := by kernel_rfl
def tTurned_c : Con
  | [.g [.int true .i64 x0_0, .int true .i64 x0_1, .int true .i64 x0_2, .int true .i64 x0_3, .int true .i64 x0_4, .int true .i64 x0_5]], [] => some ([], LV.g [At.int true IntKind.i64 x0_0, At.int true IntKind.i64 x0_1, At.int true IntKind.i64 x0_4, At.int true IntKind.i64 x0_5, At.int true IntKind.i64 x0_2, At.int true IntKind.i64 x0_3], [])
  | _, _ => none
theorem tTurned_ok : ConOK Try.prog 69 (normC tTurned_c) := normC_ok (by
  intro args bs obs lv out h ho φ vs w may ha hM
  unfold tTurned_c at h
  split at h
  · simp only [Option.some.injEq, Prod.mk.injEq] at h
    obtain ⟨rfl, rfl, rfl⟩ := h
    rename_i x0_0 x0_1 x0_2 x0_3 x0_4 x0_5
    exact evG_ok tabVL_ok follows _ _ _ _ _ (tTurned_p x0_0 x0_1 x0_2 x0_3 x0_4 x0_5) ho φ vs w may ha hM
  · cases h)
theorem tTurned_en : Enters Try.prog 69 := fun args => by kernel_rfl
-- 83 1 0 ms

/-! (azulejo/azulejolaw03.Small).Tri -/
theorem sm3Tri_p (x0_0 : Int) (x0_1 : Int) (x0_2 : Int) (x0_3 : Int) (x0_4 : Int) (x0_5 : Int) : evG Try.prog tabVL 2000 67 [0, 1, 2, 3, 4, 5, 6, 7, 8] [] [] [.g [.int true .i8 x0_0, .int true .i8 x0_1, .int true .i8 x0_2, .int true .i8 x0_3, .int true .i8 x0_4, .int true .i8 x0_5]] [] = some ([], LV.g [At.int true IntKind.i64 (IntKind.wrap IntKind.i64 x0_0), At.int true IntKind.i64 (IntKind.wrap IntKind.i64 x0_1), At.int true IntKind.i64 (IntKind.wrap IntKind.i64 x0_2), At.int true IntKind.i64 (IntKind.wrap IntKind.i64 x0_3), At.int true IntKind.i64 (IntKind.wrap IntKind.i64 x0_4), At.int true IntKind.i64 (IntKind.wrap IntKind.i64 x0_5)], []) := by kernel_rfl
def sm3Tri_c : Con
  | [.g [.int true .i8 x0_0, .int true .i8 x0_1, .int true .i8 x0_2, .int true .i8 x0_3, .int true .i8 x0_4, .int true .i8 x0_5]], [] => some ([], LV.g [At.int true IntKind.i64 (IntKind.wrap IntKind.i64 x0_0), At.int true IntKind.i64 (IntKind.wrap IntKind.i64 x0_1), At.int true IntKind.i64 (IntKind.wrap IntKind.i64 x0_2), At.int true IntKind.i64 (IntKind.wrap IntKind.i64 x0_3), At.int true IntKind.i64 (IntKind.wrap IntKind.i64 x0_4), At.int true IntKind.i64 (IntKind.wrap IntKind.i64 x0_5)], [])
  | _, _ => none
theorem sm3Tri_ok : ConOK Try.prog 67 (normC sm3Tri_c) := normC_ok (by
  intro args bs obs lv out h ho φ vs w may ha hM
  unfold sm3Tri_c at h
  split at h
  · simp only [Option.some.injEq, Prod.mk.injEq] at h
    obtain ⟨rfl, rfl, rfl⟩ := h
    rename_i x0_0 x0_1 x0_2 x0_3 x0_4 x0_5
    exact evG_ok tabVL_ok follows _ _ _ _ _ (sm3Tri_p x0_0 x0_1 x0_2 x0_3 x0_4 x0_5) ho φ vs w may ha hM
  · cases h)
theorem sm3Tri_en : Enters Try.prog 67 := fun args => by kernel_rfl
-- 258 4 0 ms

/-! azulejo/azulejoref01.near -/
def rNear_0 (x0 : Int) : Int := bif decide ((16384 : Int) < x0) then (16384 : Int) else bif decide (x0 < (-16384 : Int)) then (-16384 : Int) else x0
theorem rNear_p (x0 : Int) : evG Try.prog tabVL 2000 92 [0, 2, 4, 6] [] [] [.a (.int true .i64 x0)] [] = some ([], LV.a (At.int true IntKind.i64 (rNear_0 x0)), []) := by kernel_rfl
def rNear_c : Con
  | [.a (.int true .i64 x0)], [] => some ([], LV.a (At.int true IntKind.i64 (rNear_0 x0)), [])
  | _, _ => none
theorem rNear_ok : ConOK Try.prog 92 (normC rNear_c) := normC_ok (by
  intro args bs obs lv out h ho φ vs w may ha hM
  unfold rNear_c at h
  split at h
  · simp only [Option.some.injEq, Prod.mk.injEq] at h
    obtain ⟨rfl, rfl, rfl⟩ := h
    rename_i x0
    exact evG_ok tabVL_ok follows _ _ _ _ _ (rNear_p x0) ho φ vs w may ha hM
  · cases h)
theorem rNear_en : Enters Try.prog 92 := fun args => by kernel_rfl
-- 35 4 2 ms

/-! azulejo/vm.Colour -/
def vmColour_s0 (x0_0 : Int) : Int := if x0_0 < (0 : Int) then (0 : Int) else x0_0
def vmColour_0 (x0_0 : Int) : Int := if (65536 : Int) < vmColour_s0 x0_0 then (65536 : Int) else vmColour_s0 x0_0
def vmColour_s1 (x0_1 : Int) : Int := if x0_1 < (0 : Int) then (0 : Int) else x0_1
def vmColour_1 (x0_1 : Int) : Int := if (65536 : Int) < vmColour_s1 x0_1 then (65536 : Int) else vmColour_s1 x0_1
def vmColour_s2 (x0_2 : Int) : Int := if x0_2 < (0 : Int) then (0 : Int) else x0_2
def vmColour_2 (x0_2 : Int) : Int := if (65536 : Int) < vmColour_s2 x0_2 then (65536 : Int) else vmColour_s2 x0_2
def vmColour_s3 (x0_3 : Int) : Int := if x0_3 < (0 : Int) then (0 : Int) else x0_3
def vmColour_3 (x0_3 : Int) : Int := if (65536 : Int) < vmColour_s3 x0_3 then (65536 : Int) else vmColour_s3 x0_3
theorem vmColour_p (x0_0 : Int) (x0_1 : Int) (x0_2 : Int) (x0_3 : Int) : evG Try.prog tabVL 2000 75 [0, 1, 2, 3, 4, 5, 6, 7] [] [] [.g [.int true .i64 x0_0, .int true .i64 x0_1, .int true .i64 x0_2, .int true .i64 x0_3]] [] = some ([], LV.g [At.int true IntKind.i64 (vmColour_0 x0_0), At.int true IntKind.i64 (vmColour_1 x0_1), At.int true IntKind.i64 (vmColour_2 x0_2), At.int true IntKind.i64 (vmColour_3 x0_3)], []) := by kernel_rfl
def vmColour_c : Con
  | [.g [.int true .i64 x0_0, .int true .i64 x0_1, .int true .i64 x0_2, .int true .i64 x0_3]], [] => some ([], LV.g [At.int true IntKind.i64 (vmColour_0 x0_0), At.int true IntKind.i64 (vmColour_1 x0_1), At.int true IntKind.i64 (vmColour_2 x0_2), At.int true IntKind.i64 (vmColour_3 x0_3)], [])
  | _, _ => none
theorem vmColour_ok : ConOK Try.prog 75 (normC vmColour_c) := normC_ok (by
  intro args bs obs lv out h ho φ vs w may ha hM
  unfold vmColour_c at h
  split at h
  · simp only [Option.some.injEq, Prod.mk.injEq] at h
    obtain ⟨rfl, rfl, rfl⟩ := h
    rename_i x0_0 x0_1 x0_2 x0_3
    exact evG_ok tabVL_ok follows _ _ _ _ _ (vmColour_p x0_0 x0_1 x0_2 x0_3) ho φ vs w may ha hM
  · cases h)
theorem vmColour_en : Enters Try.prog 75 := fun args => by kernel_rfl
-- 236 9 7 ms

/-! azulejo/state.Plain -/
def stPlain_0 : Int := (7 : Int)
def stPlain_1 : Int := (7 : Int)
def stPlain_2 : Int := (0 : Int)
def stPlain_3 : Int := (0 : Int)
def stPlain_4 : Int := (0 : Int)
def stPlain_5 : Int := (0 : Int)
def stPlain_6 : Int := (0 : Int)
def stPlain_7 : Int := (0 : Int)
def stPlain_8 : Int := (15 : Int)
def stPlain_9 : Int := (0 : Int)
def stPlain_10 : Int := (0 : Int)
def stPlain_11 : Int := (0 : Int)
def stPlain_12 : Int := (64 : Int)
def stPlain_13 : Int := (64 : Int)
theorem stPlain_p  : evG Try.prog tabVL 2000 76 [0] [] [] [] [] = some ([], LV.g [At.int false IntKind.u8 stPlain_0, At.bool false false, At.int false IntKind.u8 stPlain_1, At.int false IntKind.u8 stPlain_2, At.int false IntKind.u8 stPlain_3, At.int false IntKind.u8 stPlain_4, At.int false IntKind.u8 stPlain_5, At.int false IntKind.u8 stPlain_6, At.int false IntKind.u8 stPlain_7, At.int false IntKind.u8 stPlain_8, At.int false IntKind.u8 stPlain_9, At.int false IntKind.i64 stPlain_10, At.int false IntKind.i64 stPlain_11, At.int false IntKind.i64 stPlain_12, At.int false IntKind.i64 stPlain_13], []) := by kernel_rfl
def stPlain_c : Con
  | [], [] => some ([], LV.g [At.int false IntKind.u8 stPlain_0, At.bool false false, At.int false IntKind.u8 stPlain_1, At.int false IntKind.u8 stPlain_2, At.int false IntKind.u8 stPlain_3, At.int false IntKind.u8 stPlain_4, At.int false IntKind.u8 stPlain_5, At.int false IntKind.u8 stPlain_6, At.int false IntKind.u8 stPlain_7, At.int false IntKind.u8 stPlain_8, At.int false IntKind.u8 stPlain_9, At.int false IntKind.i64 stPlain_10, At.int false IntKind.i64 stPlain_11, At.int false IntKind.i64 stPlain_12, At.int false IntKind.i64 stPlain_13], [])
  | _, _ => none
theorem stPlain_ok : ConOK Try.prog 76 (normC stPlain_c) := normC_ok (by
  intro args bs obs lv out h ho φ vs w may ha hM
  unfold stPlain_c at h
  split at h
  · simp only [Option.some.injEq, Prod.mk.injEq] at h
    obtain ⟨rfl, rfl, rfl⟩ := h
    exact evG_ok tabVL_ok follows _ _ _ _ _ (stPlain_p ) ho φ vs w may ha hM
  · cases h)
theorem stPlain_en : Enters Try.prog 76 := fun args => by kernel_rfl
-- 129 2 5 ms

/-! (azulejo/state.Func).Holds -/
def stHolds_s0 : Int := Int.ofNat ((2 : Nat) ^ IntKind.bits IntKind.u8)
def stHolds_0 (x0 : Int) (x1 : Int) (x2 : Int) : Bool := bif bif decide (x1 < x2) then true else x1 == x2 then bif decide (x1 < x2) then IntKind.wrap IntKind.u8 (Int.ofNat (Int.toNat (x0 % stHolds_s0) &&& Int.toNat ((1 : Int) % stHolds_s0))) != (0 : Int) else IntKind.wrap IntKind.u8 (Int.ofNat (Int.toNat (x0 % stHolds_s0) &&& Int.toNat ((2 : Int) % stHolds_s0))) != (0 : Int) else IntKind.wrap IntKind.u8 (Int.ofNat (Int.toNat (x0 % stHolds_s0) &&& Int.toNat ((4 : Int) % stHolds_s0))) != (0 : Int)
theorem stHolds_p (x0 : Int) (x1 : Int) (x2 : Int) : evG Try.prog tabVL 2000 77 [0, 1, 2, 6, 7, 14] [] [] [.a (.int true .u8 x0), .a (.int true .i64 x1), .a (.int true .i64 x2)] [] = some ([], LV.a (At.bool true (stHolds_0 x0 x1 x2)), []) := by kernel_rfl
def stHolds_c : Con
  | [.a (.int true .u8 x0), .a (.int true .i64 x1), .a (.int true .i64 x2)], [] => some ([], LV.a (At.bool true (stHolds_0 x0 x1 x2)), [])
  | _, _ => none
theorem stHolds_ok : ConOK Try.prog 77 (normC stHolds_c) := normC_ok (by
  intro args bs obs lv out h ho φ vs w may ha hM
  unfold stHolds_c at h
  split at h
  · simp only [Option.some.injEq, Prod.mk.injEq] at h
    obtain ⟨rfl, rfl, rfl⟩ := h
    rename_i x0 x1 x2
    exact evG_ok tabVL_ok follows _ _ _ _ _ (stHolds_p x0 x1 x2) ho φ vs w may ha hM
  · cases h)
theorem stHolds_en : Enters Try.prog 77 := fun args => by kernel_rfl
-- 102 8 6 ms

/-! (azulejo/state.Op).Do -/
def stDo_s0 (x1 : Int) : Int := IntKind.wrap IntKind.u8 ((255 : Int) - x1)
def stDo_s1 : Int := Int.ofNat ((2 : Nat) ^ IntKind.bits IntKind.u8)
def stDo_0 (x0 : Int) (x1 : Int) (x2 : Int) : Int := bif bif x0 == (1 : Int) then true else bif x0 == (2 : Int) then true else bif x0 == (3 : Int) then true else bif x0 == (4 : Int) then true else x0 == (5 : Int) then bif x0 == (1 : Int) then (0 : Int) else bif x0 == (2 : Int) then x2 else bif x0 == (3 : Int) then IntKind.wrap IntKind.u8 (x1 + if stDo_s0 x1 < (1 : Int) then stDo_s0 x1 else (1 : Int)) else bif x0 == (4 : Int) then IntKind.wrap IntKind.u8 (x1 - if x1 < (1 : Int) then x1 else (1 : Int)) else IntKind.wrap IntKind.u8 (Int.ofNat (Int.toNat ((if false = true then (-1 : Int) else if false = true then (2 : Int) ^ (IntKind.bits IntKind.u8 - (1 : Nat)) - (1 : Int) else (2 : Int) ^ IntKind.bits IntKind.u8 - (1 : Int)) % stDo_s1) ^^^ Int.toNat (x1 % stDo_s1))) else x1
theorem stDo_p (x0 : Int) (x1 : Int) (x2 : Int) : evG Try.prog tabVL 2000 41 [0, 1, 2, 6, 7, 8, 10, 13, 20, 26] [] [] [.a (.int true .u8 x0), .a (.int true .u8 x1), .a (.int true .u8 x2)] [] = some ([], LV.a (At.int true IntKind.u8 (stDo_0 x0 x1 x2)), []) := by kernel_rfl
def stDo_c : Con
  | [.a (.int true .u8 x0), .a (.int true .u8 x1), .a (.int true .u8 x2)], [] => some ([], LV.a (At.int true IntKind.u8 (stDo_0 x0 x1 x2)), [])
  | _, _ => none
theorem stDo_ok : ConOK Try.prog 41 (normC stDo_c) := normC_ok (by
  intro args bs obs lv out h ho φ vs w may ha hM
  unfold stDo_c at h
  split at h
  · simp only [Option.some.injEq, Prod.mk.injEq] at h
    obtain ⟨rfl, rfl, rfl⟩ := h
    rename_i x0 x1 x2
    exact evG_ok tabVL_ok follows _ _ _ _ _ (stDo_p x0 x1 x2) ho φ vs w may ha hM
  · cases h)
theorem stDo_en : Enters Try.prog 41 := fun args => by kernel_rfl
-- 145 35 13 ms

/-! azulejo/azulejoref09.Holds -/
def rHolds_0 (x0 : Int) (x1 : Int) (x2 : Int) : Bool := bif decide (x1 < x2) then Int.tmod x0 (2 : Int) == (1 : Int) else bif x1 == x2 then Int.tmod (IntKind.wrap IntKind.i64 (Int.tdiv x0 (2 : Int))) (2 : Int) == (1 : Int) else Int.tmod (IntKind.wrap IntKind.i64 (Int.tdiv x0 (4 : Int))) (2 : Int) == (1 : Int)
theorem rHolds_p (x0 : Int) (x1 : Int) (x2 : Int) : evG Try.prog tabVL 2000 40 [0, 1, 2, 6, 9, 15] [] [] [.a (.int true .i64 x0), .a (.int true .i64 x1), .a (.int true .i64 x2)] [] = some ([], LV.a (At.bool true (rHolds_0 x0 x1 x2)), []) := by kernel_rfl
def rHolds_c : Con
  | [.a (.int true .i64 x0), .a (.int true .i64 x1), .a (.int true .i64 x2)], [] => some ([], LV.a (At.bool true (rHolds_0 x0 x1 x2)), [])
  | _, _ => none
theorem rHolds_ok : ConOK Try.prog 40 (normC rHolds_c) := normC_ok (by
  intro args bs obs lv out h ho φ vs w may ha hM
  unfold rHolds_c at h
  split at h
  · simp only [Option.some.injEq, Prod.mk.injEq] at h
    obtain ⟨rfl, rfl, rfl⟩ := h
    rename_i x0 x1 x2
    exact evG_ok tabVL_ok follows _ _ _ _ _ (rHolds_p x0 x1 x2) ho φ vs w may ha hM
  · cases h)
theorem rHolds_en : Enters Try.prog 40 := fun args => by kernel_rfl
-- 56 7 3 ms

/-! azulejo/azulejoref09.Do -/
def rDo_0 (x0 : Int) (x1 : Int) (x2 : Int) : Int := bif x0 == (1 : Int) then (0 : Int) else bif x0 == (2 : Int) then x2 else bif bif x0 == (3 : Int) then decide (x1 < (255 : Int)) else false then IntKind.wrap IntKind.i64 (x1 + (1 : Int)) else bif bif x0 == (4 : Int) then decide ((0 : Int) < x1) else false then IntKind.wrap IntKind.i64 (x1 - (1 : Int)) else bif x0 == (5 : Int) then IntKind.wrap IntKind.i64 ((255 : Int) - x1) else x1
theorem rDo_p (x0 : Int) (x1 : Int) (x2 : Int) : evG Try.prog tabVL 2000 78 [0, 1, 2, 6, 8, 10, 17, 25, 29] [] [] [.a (.int true .i64 x0), .a (.int true .i64 x1), .a (.int true .i64 x2)] [] = some ([], LV.a (At.int true IntKind.i64 (rDo_0 x0 x1 x2)), []) := by kernel_rfl
def rDo_c : Con
  | [.a (.int true .i64 x0), .a (.int true .i64 x1), .a (.int true .i64 x2)], [] => some ([], LV.a (At.int true IntKind.i64 (rDo_0 x0 x1 x2)), [])
  | _, _ => none
theorem rDo_ok : ConOK Try.prog 78 (normC rDo_c) := normC_ok (by
  intro args bs obs lv out h ho φ vs w may ha hM
  unfold rDo_c at h
  split at h
  · simp only [Option.some.injEq, Prod.mk.injEq] at h
    obtain ⟨rfl, rfl, rfl⟩ := h
    rename_i x0 x1 x2
    exact evG_ok tabVL_ok follows _ _ _ _ _ (rDo_p x0 x1 x2) ho φ vs w may ha hM
  · cases h)
theorem rDo_en : Enters Try.prog 78 := fun args => by kernel_rfl
-- 118 25 4 ms

/-! azulejo/azulejoref09.Byte -/
def rByte_0 (x0 : Int) : Int := IntKind.wrap IntKind.i64 (Int.tdiv (IntKind.wrap IntKind.i64 (IntKind.wrap IntKind.i64 (x0 * (255 : Int)) + (32768 : Int))) (65536 : Int))
theorem rByte_p (x0 : Int) : evG Try.prog tabVL 2000 38 [0, 2] [] [] [.a (.int true .i64 x0)] [] = some ([], LV.a (At.int true IntKind.i64 (rByte_0 x0)), []) := by kernel_rfl
def rByte_c : Con
  | [.a (.int true .i64 x0)], [] => some ([], LV.a (At.int true IntKind.i64 (rByte_0 x0)), [])
  | _, _ => none
theorem rByte_ok : ConOK Try.prog 38 (normC rByte_c) := normC_ok (by
  intro args bs obs lv out h ho φ vs w may ha hM
  unfold rByte_c at h
  split at h
  · simp only [Option.some.injEq, Prod.mk.injEq] at h
    obtain ⟨rfl, rfl, rfl⟩ := h
    rename_i x0
    exact evG_ok tabVL_ok follows _ _ _ _ _ (rByte_p x0) ho φ vs w may ha hM
  · cases h)
theorem rByte_en : Enters Try.prog 38 := fun args => by kernel_rfl
-- 19 2 2 ms

/-! azulejo/azulejoref09.Blend -/
def rBlend_s0 (x1 : Int) (x2 : Int) : Bool := decide ((255 : Int) < IntKind.wrap IntKind.i64 (x1 + x2))
def rBlend_0 (x0 : Int) (x1 : Int) (x2 : Int) (x3 : Int) : Int := bif x0 == (1 : Int) then IntKind.wrap IntKind.i64 (Int.tdiv (IntKind.wrap IntKind.i64 (IntKind.wrap IntKind.i64 (IntKind.wrap IntKind.i64 (x1 * x3) + IntKind.wrap IntKind.i64 (x2 * IntKind.wrap IntKind.i64 ((255 : Int) - x3))) + (127 : Int))) (255 : Int)) else bif x0 == (2 : Int) && (rBlend_s0 x1 x2 || !rBlend_s0 x1 x2) then bif rBlend_s0 x1 x2 then (255 : Int) else IntKind.wrap IntKind.i64 (x1 + x2) else bif x0 == (3 : Int) then IntKind.wrap IntKind.i64 (Int.tdiv (IntKind.wrap IntKind.i64 (IntKind.wrap IntKind.i64 (x1 * x2) + (127 : Int))) (255 : Int)) else x1
theorem rBlend_p (x0 : Int) (x1 : Int) (x2 : Int) (x3 : Int) : evG Try.prog tabVL 2000 37 [0, 1, 2, 3, 8, 10, 22, 26, 31] [] [] [.a (.int true .i64 x0), .a (.int true .i64 x1), .a (.int true .i64 x2), .a (.int true .i64 x3)] [] = some ([], LV.a (At.int true IntKind.i64 (rBlend_0 x0 x1 x2 x3)), []) := by kernel_rfl
def rBlend_c : Con
  | [.a (.int true .i64 x0), .a (.int true .i64 x1), .a (.int true .i64 x2), .a (.int true .i64 x3)], [] => some ([], LV.a (At.int true IntKind.i64 (rBlend_0 x0 x1 x2 x3)), [])
  | _, _ => none
theorem rBlend_ok : ConOK Try.prog 37 (normC rBlend_c) := normC_ok (by
  intro args bs obs lv out h ho φ vs w may ha hM
  unfold rBlend_c at h
  split at h
  · simp only [Option.some.injEq, Prod.mk.injEq] at h
    obtain ⟨rfl, rfl, rfl⟩ := h
    rename_i x0 x1 x2 x3
    exact evG_ok tabVL_ok follows _ _ _ _ _ (rBlend_p x0 x1 x2 x3) ho φ vs w may ha hM
  · cases h)
theorem rBlend_en : Enters Try.prog 37 := fun args => by kernel_rfl
-- 156 17 7 ms

/-! azulejo/azulejoref07.Within -/
def rWithin_s0 (x0_0 : Int) (x1 : Int) : Int := bif decide (x0_0 < x1) then x1 else x0_0
def rWithin_0 (x0_0 : Int) (x1 : Int) (x2 : Int) : Int := bif decide (x2 < rWithin_s0 x0_0 x1) then x2 else rWithin_s0 x0_0 x1
def rWithin_s1 (x0_1 : Int) (x1 : Int) : Int := bif decide (x0_1 < x1) then x1 else x0_1
def rWithin_1 (x0_1 : Int) (x1 : Int) (x2 : Int) : Int := bif decide (x2 < rWithin_s1 x0_1 x1) then x2 else rWithin_s1 x0_1 x1
def rWithin_s2 (x0_2 : Int) (x1 : Int) : Int := bif decide (x0_2 < x1) then x1 else x0_2
def rWithin_2 (x0_2 : Int) (x1 : Int) (x2 : Int) : Int := bif decide (x2 < rWithin_s2 x0_2 x1) then x2 else rWithin_s2 x0_2 x1
def rWithin_s3 (x0_3 : Int) (x1 : Int) : Int := bif decide (x0_3 < x1) then x1 else x0_3
def rWithin_3 (x0_3 : Int) (x1 : Int) (x2 : Int) : Int := bif decide (x2 < rWithin_s3 x0_3 x1) then x2 else rWithin_s3 x0_3 x1
theorem rWithin_p (x0_0 : Int) (x0_1 : Int) (x0_2 : Int) (x0_3 : Int) (x1 : Int) (x2 : Int) : evG Try.prog tabVL 2000 34 [0, 1, 2, 3, 6, 7, 9, 16, 24] [] [] [.g [.int true .i64 x0_0, .int true .i64 x0_1, .int true .i64 x0_2, .int true .i64 x0_3], .a (.int true .i64 x1), .a (.int true .i64 x2)] [] = some ([], LV.g [At.int true IntKind.i64 (rWithin_0 x0_0 x1 x2), At.int true IntKind.i64 (rWithin_1 x0_1 x1 x2), At.int true IntKind.i64 (rWithin_2 x0_2 x1 x2), At.int true IntKind.i64 (rWithin_3 x0_3 x1 x2)], []) := by kernel_rfl
def rWithin_c : Con
  | [.g [.int true .i64 x0_0, .int true .i64 x0_1, .int true .i64 x0_2, .int true .i64 x0_3], .a (.int true .i64 x1), .a (.int true .i64 x2)], [] => some ([], LV.g [At.int true IntKind.i64 (rWithin_0 x0_0 x1 x2), At.int true IntKind.i64 (rWithin_1 x0_1 x1 x2), At.int true IntKind.i64 (rWithin_2 x0_2 x1 x2), At.int true IntKind.i64 (rWithin_3 x0_3 x1 x2)], [])
  | _, _ => none
theorem rWithin_ok : ConOK Try.prog 34 (normC rWithin_c) := normC_ok (by
  intro args bs obs lv out h ho φ vs w may ha hM
  unfold rWithin_c at h
  split at h
  · simp only [Option.some.injEq, Prod.mk.injEq] at h
    obtain ⟨rfl, rfl, rfl⟩ := h
    rename_i x0_0 x0_1 x0_2 x0_3 x1 x2
    exact evG_ok tabVL_ok follows _ _ _ _ _ (rWithin_p x0_0 x0_1 x0_2 x0_3 x1 x2) ho φ vs w may ha hM
  · cases h)
theorem rWithin_en : Enters Try.prog 34 := fun args => by kernel_rfl
-- 332 33 10 ms

/-! azulejo/pixel.part -/
def pPart_0 (x0 : Int) (x1 : Int) : Int := IntKind.wrap IntKind.i64 (Int.tdiv (IntKind.wrap IntKind.i64 (IntKind.wrap IntKind.i64 (x0 * x1) + (127 : Int))) (255 : Int))
theorem pPart_p (x0 : Int) (x1 : Int) : evG Try.prog tabVL 2000 79 [0, 1, 4] [] [] [.a (.int true .i64 x0), .a (.int true .i64 x1)] [] = some ([], LV.a (At.int true IntKind.i64 (pPart_0 x0 x1)), []) := by kernel_rfl
def pPart_c : Con
  | [.a (.int true .i64 x0), .a (.int true .i64 x1)], [] => some ([], LV.a (At.int true IntKind.i64 (pPart_0 x0 x1)), [])
  | _, _ => none
theorem pPart_ok : ConOK Try.prog 79 (normC pPart_c) := normC_ok (by
  intro args bs obs lv out h ho φ vs w may ha hM
  unfold pPart_c at h
  split at h
  · simp only [Option.some.injEq, Prod.mk.injEq] at h
    obtain ⟨rfl, rfl, rfl⟩ := h
    rename_i x0 x1
    exact evG_ok tabVL_ok follows _ _ _ _ _ (pPart_p x0 x1) ho φ vs w may ha hM
  · cases h)
theorem pPart_en : Enters Try.prog 79 := fun args => by kernel_rfl
-- 23 3 2 ms

/-! (azulejo/pixel.Pixel).Clear -/
def pClear_s0 : Int := Int.ofNat ((2 : Nat) ^ IntKind.bits IntKind.u8)
def pClear_s1 (x1_6 : Int) : Bool := IntKind.wrap IntKind.u8 (Int.ofNat (Int.toNat (x1_6 % pClear_s0) &&& Int.toNat ((1 : Int) % pClear_s0))) != (0 : Int)
def pClear_0 (x0_0 : Int) (x1_0 : Int) (x1_6 : Int) : Int := bif pClear_s1 x1_6 then x1_0 else x0_0
def pClear_1 (x0_1 : Int) (x1_1 : Int) (x1_6 : Int) : Int := bif pClear_s1 x1_6 then x1_1 else x0_1
def pClear_2 (x0_2 : Int) (x1_2 : Int) (x1_6 : Int) : Int := bif pClear_s1 x1_6 then x1_2 else x0_2
def pClear_3 (x0_3 : Int) (x1_3 : Int) (x1_6 : Int) : Int := bif pClear_s1 x1_6 then x1_3 else x0_3
def pClear_4 (x0_4 : Int) (x1_4 : Int) (x1_6 : Int) : Int := bif IntKind.wrap IntKind.u8 (Int.ofNat (Int.toNat (x1_6 % pClear_s0) &&& Int.toNat ((2 : Int) % pClear_s0))) != (0 : Int) then x1_4 else x0_4
def pClear_5 (x0_5 : Int) (x1_5 : Int) (x1_6 : Int) : Int := bif IntKind.wrap IntKind.u8 (Int.ofNat (Int.toNat (x1_6 % pClear_s0) &&& Int.toNat ((4 : Int) % pClear_s0))) != (0 : Int) then x1_5 else x0_5
theorem pClear_p (x0_0 : Int) (x0_1 : Int) (x0_2 : Int) (x0_3 : Int) (x0_4 : Int) (x0_5 : Int) (x1_0 : Int) (x1_1 : Int) (x1_2 : Int) (x1_3 : Int) (x1_4 : Int) (x1_5 : Int) (x1_6 : Int) : evG Try.prog tabVL 2000 62 [0, 1, 2, 3, 4, 8, 15, 22] [] [] [.g [.int true .u8 x0_0, .int true .u8 x0_1, .int true .u8 x0_2, .int true .u8 x0_3, .int true .i64 x0_4, .int true .u8 x0_5], .g [.int true .u8 x1_0, .int true .u8 x1_1, .int true .u8 x1_2, .int true .u8 x1_3, .int true .i64 x1_4, .int true .u8 x1_5, .int true .u8 x1_6]] [] = some ([], LV.g [At.int true IntKind.u8 (pClear_0 x0_0 x1_0 x1_6), At.int true IntKind.u8 (pClear_1 x0_1 x1_1 x1_6), At.int true IntKind.u8 (pClear_2 x0_2 x1_2 x1_6), At.int true IntKind.u8 (pClear_3 x0_3 x1_3 x1_6), At.int true IntKind.i64 (pClear_4 x0_4 x1_4 x1_6), At.int true IntKind.u8 (pClear_5 x0_5 x1_5 x1_6)], []) := by kernel_rfl
def pClear_c : Con
  | [.g [.int true .u8 x0_0, .int true .u8 x0_1, .int true .u8 x0_2, .int true .u8 x0_3, .int true .i64 x0_4, .int true .u8 x0_5], .g [.int true .u8 x1_0, .int true .u8 x1_1, .int true .u8 x1_2, .int true .u8 x1_3, .int true .i64 x1_4, .int true .u8 x1_5, .int true .u8 x1_6]], [] => some ([], LV.g [At.int true IntKind.u8 (pClear_0 x0_0 x1_0 x1_6), At.int true IntKind.u8 (pClear_1 x0_1 x1_1 x1_6), At.int true IntKind.u8 (pClear_2 x0_2 x1_2 x1_6), At.int true IntKind.u8 (pClear_3 x0_3 x1_3 x1_6), At.int true IntKind.i64 (pClear_4 x0_4 x1_4 x1_6), At.int true IntKind.u8 (pClear_5 x0_5 x1_5 x1_6)], [])
  | _, _ => none
theorem pClear_ok : ConOK Try.prog 62 (normC pClear_c) := normC_ok (by
  intro args bs obs lv out h ho φ vs w may ha hM
  unfold pClear_c at h
  split at h
  · simp only [Option.some.injEq, Prod.mk.injEq] at h
    obtain ⟨rfl, rfl, rfl⟩ := h
    rename_i x0_0 x0_1 x0_2 x0_3 x0_4 x0_5 x1_0 x1_1 x1_2 x1_3 x1_4 x1_5 x1_6
    exact evG_ok tabVL_ok follows _ _ _ _ _ (pClear_p x0_0 x0_1 x0_2 x0_3 x0_4 x0_5 x1_0 x1_1 x1_2 x1_3 x1_4 x1_5 x1_6) ho φ vs w may ha hM
  · cases h)
theorem pClear_en : Enters Try.prog 62 := fun args => by kernel_rfl
-- 236 23 8 ms

/-! (azulejo/azulejolaw19.Small).Pixel -/
theorem sm19Pixel_p (x0_0 : Int) (x0_1 : Int) (x0_2 : Int) (x0_3 : Int) (x0_4 : Int) (x0_5 : Int) : evG Try.prog tabVL 2000 28 [0, 1, 2] [] [] [.g [.int true .u8 x0_0, .int true .u8 x0_1, .int true .u8 x0_2, .int true .u8 x0_3, .int true .u16 x0_4, .int true .u8 x0_5]] [] = some ([], LV.g [At.int true IntKind.u8 x0_0, At.int true IntKind.u8 x0_1, At.int true IntKind.u8 x0_2, At.int true IntKind.u8 x0_3, At.int true IntKind.i64 (IntKind.wrap IntKind.i64 x0_4), At.int true IntKind.u8 x0_5], []) := by kernel_rfl
def sm19Pixel_c : Con
  | [.g [.int true .u8 x0_0, .int true .u8 x0_1, .int true .u8 x0_2, .int true .u8 x0_3, .int true .u16 x0_4, .int true .u8 x0_5]], [] => some ([], LV.g [At.int true IntKind.u8 x0_0, At.int true IntKind.u8 x0_1, At.int true IntKind.u8 x0_2, At.int true IntKind.u8 x0_3, At.int true IntKind.i64 (IntKind.wrap IntKind.i64 x0_4), At.int true IntKind.u8 x0_5], [])
  | _, _ => none
theorem sm19Pixel_ok : ConOK Try.prog 28 (normC sm19Pixel_c) := normC_ok (by
  intro args bs obs lv out h ho φ vs w may ha hM
  unfold sm19Pixel_c at h
  split at h
  · simp only [Option.some.injEq, Prod.mk.injEq] at h
    obtain ⟨rfl, rfl, rfl⟩ := h
    rename_i x0_0 x0_1 x0_2 x0_3 x0_4 x0_5
    exact evG_ok tabVL_ok follows _ _ _ _ _ (sm19Pixel_p x0_0 x0_1 x0_2 x0_3 x0_4 x0_5) ho φ vs w may ha hM
  · cases h)
theorem sm19Pixel_en : Enters Try.prog 28 := fun args => by kernel_rfl
-- 133 2 0 ms

/-! (azulejo/azulejolaw09.Small).State -/
def sm9State_0 (x0_0 : Int) : Int := Int.tmod x0_0 (8 : Int)
def sm9State_1 (x0_1 : Int) (x0_11 : Bool) : Int := bif x0_11 then (7 : Int) else Int.tmod x0_1 (8 : Int)
def sm9State_2 (x0_4 : Int) : Int := Int.tmod x0_4 (6 : Int)
def sm9State_3 (x0_5 : Int) (x0_11 : Bool) : Int := bif x0_11 then (0 : Int) else Int.tmod x0_5 (6 : Int)
def sm9State_4 (x0_6 : Int) (x0_11 : Bool) : Int := bif x0_11 then (0 : Int) else Int.tmod x0_6 (6 : Int)
def sm9State_5 (x0_7 : Int) (x0_11 : Bool) : Int := bif x0_11 then (0 : Int) else Int.tmod x0_7 (4 : Int)
def sm9State_6 (x0_8 : Int) (x0_11 : Bool) : Int := bif x0_11 then (15 : Int) else Int.tmod x0_8 (16 : Int)
def sm9State_7 (x0_9 : Int) : Int := Int.tmod x0_9 (3 : Int)
def sm9State_s0 (x0_12 : Int) : Bool := Int.tmod x0_12 (3 : Int) == (0 : Int)
def sm9State_s1 (x0_12 : Int) : Int := IntKind.wrap IntKind.i64 (Int.tmod (IntKind.wrap IntKind.u8 (Int.tdiv x0_12 (3 : Int))) (30 : Int))
def sm9State_8 (x0_12 : Int) : Int := bif sm9State_s0 x0_12 then sm9State_s1 x0_12 else (0 : Int)
def sm9State_9 (x0_12 : Int) (x0_13 : Int) : Int := bif sm9State_s0 x0_12 then IntKind.wrap IntKind.i64 (Int.tmod x0_13 (30 : Int)) else (0 : Int)
def sm9State_10 (x0_12 : Int) (x0_14 : Int) : Int := bif sm9State_s0 x0_12 then IntKind.wrap IntKind.i64 (sm9State_s1 x0_12 + IntKind.wrap IntKind.i64 (Int.tmod x0_14 (30 : Int))) else (64 : Int)
def sm9State_11 (x0_12 : Int) (x0_13 : Int) (x0_15 : Int) : Int := bif sm9State_s0 x0_12 then IntKind.wrap IntKind.i64 (IntKind.wrap IntKind.i64 (Int.tmod x0_13 (30 : Int)) + IntKind.wrap IntKind.i64 (Int.tmod x0_15 (30 : Int))) else (64 : Int)
theorem sm9State_p (x0_0 : Int) (x0_1 : Int) (x0_2 : Int) (x0_3 : Int) (x0_4 : Int) (x0_5 : Int) (x0_6 : Int) (x0_7 : Int) (x0_8 : Int) (x0_9 : Int) (x0_10 : Bool) (x0_11 : Bool) (x0_12 : Int) (x0_13 : Int) (x0_14 : Int) (x0_15 : Int) : evG Try.prog tabVL 2000 29 [0, 1, 2, 3, 4, 38, 48] [] [] [.g [.int true .u8 x0_0, .int true .u8 x0_1, .int true .u8 x0_2, .int true .u8 x0_3, .int true .u8 x0_4, .int true .u8 x0_5, .int true .u8 x0_6, .int true .u8 x0_7, .int true .u8 x0_8, .int true .u8 x0_9, .bool true x0_10, .bool true x0_11, .int true .u8 x0_12, .int true .u8 x0_13, .int true .u8 x0_14, .int true .u8 x0_15]] [] = some ([], LV.g [At.int true IntKind.u8 (sm9State_0 x0_0), At.bool true x0_10, At.int true IntKind.u8 (sm9State_1 x0_1 x0_11), At.int true IntKind.u8 x0_2, At.int true IntKind.u8 x0_3, At.int true IntKind.u8 (sm9State_2 x0_4), At.int true IntKind.u8 (sm9State_3 x0_5 x0_11), At.int true IntKind.u8 (sm9State_4 x0_6 x0_11), At.int true IntKind.u8 (sm9State_5 x0_7 x0_11), At.int true IntKind.u8 (sm9State_6 x0_8 x0_11), At.int true IntKind.u8 (sm9State_7 x0_9), At.int true IntKind.i64 (sm9State_8 x0_12), At.int true IntKind.i64 (sm9State_9 x0_12 x0_13), At.int true IntKind.i64 (sm9State_10 x0_12 x0_14), At.int true IntKind.i64 (sm9State_11 x0_12 x0_13 x0_15)], []) := by kernel_rfl
def sm9State_c : Con
  | [.g [.int true .u8 x0_0, .int true .u8 x0_1, .int true .u8 x0_2, .int true .u8 x0_3, .int true .u8 x0_4, .int true .u8 x0_5, .int true .u8 x0_6, .int true .u8 x0_7, .int true .u8 x0_8, .int true .u8 x0_9, .bool true x0_10, .bool true x0_11, .int true .u8 x0_12, .int true .u8 x0_13, .int true .u8 x0_14, .int true .u8 x0_15]], [] => some ([], LV.g [At.int true IntKind.u8 (sm9State_0 x0_0), At.bool true x0_10, At.int true IntKind.u8 (sm9State_1 x0_1 x0_11), At.int true IntKind.u8 x0_2, At.int true IntKind.u8 x0_3, At.int true IntKind.u8 (sm9State_2 x0_4), At.int true IntKind.u8 (sm9State_3 x0_5 x0_11), At.int true IntKind.u8 (sm9State_4 x0_6 x0_11), At.int true IntKind.u8 (sm9State_5 x0_7 x0_11), At.int true IntKind.u8 (sm9State_6 x0_8 x0_11), At.int true IntKind.u8 (sm9State_7 x0_9), At.int true IntKind.i64 (sm9State_8 x0_12), At.int true IntKind.i64 (sm9State_9 x0_12 x0_13), At.int true IntKind.i64 (sm9State_10 x0_12 x0_14), At.int true IntKind.i64 (sm9State_11 x0_12 x0_13 x0_15)], [])
  | _, _ => none
theorem sm9State_ok : ConOK Try.prog 29 (normC sm9State_c) := normC_ok (by
  intro args bs obs lv out h ho φ vs w may ha hM
  unfold sm9State_c at h
  split at h
  · simp only [Option.some.injEq, Prod.mk.injEq] at h
    obtain ⟨rfl, rfl, rfl⟩ := h
    rename_i x0_0 x0_1 x0_2 x0_3 x0_4 x0_5 x0_6 x0_7 x0_8 x0_9 x0_10 x0_11 x0_12 x0_13 x0_14 x0_15
    exact evG_ok tabVL_ok follows _ _ _ _ _ (sm9State_p x0_0 x0_1 x0_2 x0_3 x0_4 x0_5 x0_6 x0_7 x0_8 x0_9 x0_10 x0_11 x0_12 x0_13 x0_14 x0_15) ho φ vs w may ha hM
  · cases h)
theorem sm9State_en : Enters Try.prog 29 := fun args => by kernel_rfl
-- 537 168 12 ms

/-! azulejo/azulejolaw19.Ref -/
theorem l19Ref_p (x0_0 : Int) (x0_1 : Int) (x0_2 : Int) (x0_3 : Int) (x0_4 : Int) (x0_5 : Int) : evG Try.prog tabVL 2000 32 [0, 1, 2, 3, 4, 5, 13, 14, 15] [] [] [.g [.int true .u8 x0_0, .int true .u8 x0_1, .int true .u8 x0_2, .int true .u8 x0_3, .int true .i64 x0_4, .int true .u8 x0_5]] [] = some ([], LV.g [At.int true IntKind.i64 (IntKind.wrap IntKind.i64 x0_0), At.int true IntKind.i64 (IntKind.wrap IntKind.i64 x0_1), At.int true IntKind.i64 (IntKind.wrap IntKind.i64 x0_2), At.int true IntKind.i64 (IntKind.wrap IntKind.i64 x0_3), At.int true IntKind.i64 x0_4, At.int true IntKind.i64 (IntKind.wrap IntKind.i64 x0_5)], []) := by kernel_rfl
def l19Ref_c : Con
  | [.g [.int true .u8 x0_0, .int true .u8 x0_1, .int true .u8 x0_2, .int true .u8 x0_3, .int true .i64 x0_4, .int true .u8 x0_5]], [] => some ([], LV.g [At.int true IntKind.i64 (IntKind.wrap IntKind.i64 x0_0), At.int true IntKind.i64 (IntKind.wrap IntKind.i64 x0_1), At.int true IntKind.i64 (IntKind.wrap IntKind.i64 x0_2), At.int true IntKind.i64 (IntKind.wrap IntKind.i64 x0_3), At.int true IntKind.i64 x0_4, At.int true IntKind.i64 (IntKind.wrap IntKind.i64 x0_5)], [])
  | _, _ => none
theorem l19Ref_ok : ConOK Try.prog 32 (normC l19Ref_c) := normC_ok (by
  intro args bs obs lv out h ho φ vs w may ha hM
  unfold l19Ref_c at h
  split at h
  · simp only [Option.some.injEq, Prod.mk.injEq] at h
    obtain ⟨rfl, rfl, rfl⟩ := h
    rename_i x0_0 x0_1 x0_2 x0_3 x0_4 x0_5
    exact evG_ok tabVL_ok follows _ _ _ _ _ (l19Ref_p x0_0 x0_1 x0_2 x0_3 x0_4 x0_5) ho φ vs w may ha hM
  · cases h)
theorem l19Ref_en : Enters Try.prog 32 := fun args => by kernel_rfl
-- 213 4 0 ms

/-! azulejo/azulejolaw09.Ref -/
theorem l9Ref_p (x0_0 : Int) (x0_1 : Bool) (x0_2 : Int) (x0_3 : Int) (x0_4 : Int) (x0_5 : Int) (x0_6 : Int) (x0_7 : Int) (x0_8 : Int) (x0_9 : Int) (x0_10 : Int) (x0_11 : Int) (x0_12 : Int) (x0_13 : Int) (x0_14 : Int) : evG Try.prog tabVL 2000 33 [0, 1, 2] [] [] [.g [.int true .u8 x0_0, .bool true x0_1, .int true .u8 x0_2, .int true .u8 x0_3, .int true .u8 x0_4, .int true .u8 x0_5, .int true .u8 x0_6, .int true .u8 x0_7, .int true .u8 x0_8, .int true .u8 x0_9, .int true .u8 x0_10, .int true .i64 x0_11, .int true .i64 x0_12, .int true .i64 x0_13, .int true .i64 x0_14]] [] = some ([], LV.g [At.int true IntKind.i64 (IntKind.wrap IntKind.i64 x0_0), At.int true IntKind.i64 (IntKind.wrap IntKind.i64 x0_2), At.int true IntKind.i64 (IntKind.wrap IntKind.i64 x0_3), At.int true IntKind.i64 (IntKind.wrap IntKind.i64 x0_4), At.int true IntKind.i64 (IntKind.wrap IntKind.i64 x0_5), At.int true IntKind.i64 (IntKind.wrap IntKind.i64 x0_6), At.int true IntKind.i64 (IntKind.wrap IntKind.i64 x0_7), At.int true IntKind.i64 (IntKind.wrap IntKind.i64 x0_8), At.int true IntKind.i64 (IntKind.wrap IntKind.i64 x0_9), At.bool true x0_1], []) := by kernel_rfl
def l9Ref_c : Con
  | [.g [.int true .u8 x0_0, .bool true x0_1, .int true .u8 x0_2, .int true .u8 x0_3, .int true .u8 x0_4, .int true .u8 x0_5, .int true .u8 x0_6, .int true .u8 x0_7, .int true .u8 x0_8, .int true .u8 x0_9, .int true .u8 x0_10, .int true .i64 x0_11, .int true .i64 x0_12, .int true .i64 x0_13, .int true .i64 x0_14]], [] => some ([], LV.g [At.int true IntKind.i64 (IntKind.wrap IntKind.i64 x0_0), At.int true IntKind.i64 (IntKind.wrap IntKind.i64 x0_2), At.int true IntKind.i64 (IntKind.wrap IntKind.i64 x0_3), At.int true IntKind.i64 (IntKind.wrap IntKind.i64 x0_4), At.int true IntKind.i64 (IntKind.wrap IntKind.i64 x0_5), At.int true IntKind.i64 (IntKind.wrap IntKind.i64 x0_6), At.int true IntKind.i64 (IntKind.wrap IntKind.i64 x0_7), At.int true IntKind.i64 (IntKind.wrap IntKind.i64 x0_8), At.int true IntKind.i64 (IntKind.wrap IntKind.i64 x0_9), At.bool true x0_1], [])
  | _, _ => none
theorem l9Ref_ok : ConOK Try.prog 33 (normC l9Ref_c) := normC_ok (by
  intro args bs obs lv out h ho φ vs w may ha hM
  unfold l9Ref_c at h
  split at h
  · simp only [Option.some.injEq, Prod.mk.injEq] at h
    obtain ⟨rfl, rfl, rfl⟩ := h
    rename_i x0_0 x0_1 x0_2 x0_3 x0_4 x0_5 x0_6 x0_7 x0_8 x0_9 x0_10 x0_11 x0_12 x0_13 x0_14
    exact evG_ok tabVL_ok follows _ _ _ _ _ (l9Ref_p x0_0 x0_1 x0_2 x0_3 x0_4 x0_5 x0_6 x0_7 x0_8 x0_9 x0_10 x0_11 x0_12 x0_13 x0_14) ho φ vs w may ha hM
  · cases h)
theorem l9Ref_en : Enters Try.prog 33 := fun args => by kernel_rfl
-- 288 5 0 ms

def tabPa1 : Tab := (74, normC fWithin_c) :: (71, normC fFloor_c) :: (69, normC tTurned_c) :: (67, normC sm3Tri_c) :: (92, normC rNear_c) :: (75, normC vmColour_c) :: (76, normC stPlain_c) :: (77, normC stHolds_c) :: (41, normC stDo_c) :: (40, normC rHolds_c) :: (78, normC rDo_c) :: (38, normC rByte_c) :: (37, normC rBlend_c) :: (34, normC rWithin_c) :: (79, normC pPart_c) :: (62, normC pClear_c) :: (28, normC sm19Pixel_c) :: (29, normC sm9State_c) :: (32, normC l19Ref_c) :: (33, normC l9Ref_c) :: tabVL
theorem tabPa1_ok : TOK Try.prog tabPa1 := TOK.cons fWithin_en fWithin_ok (TOK.cons fFloor_en fFloor_ok (TOK.cons tTurned_en tTurned_ok (TOK.cons sm3Tri_en sm3Tri_ok (TOK.cons rNear_en rNear_ok (TOK.cons vmColour_en vmColour_ok (TOK.cons stPlain_en stPlain_ok (TOK.cons stHolds_en stHolds_ok (TOK.cons stDo_en stDo_ok (TOK.cons rHolds_en rHolds_ok (TOK.cons rDo_en rDo_ok (TOK.cons rByte_en rByte_ok (TOK.cons rBlend_en rBlend_ok (TOK.cons rWithin_en rWithin_ok (TOK.cons pPart_en pPart_ok (TOK.cons pClear_en pClear_ok (TOK.cons sm19Pixel_en sm19Pixel_ok (TOK.cons sm9State_en sm9State_ok (TOK.cons l19Ref_en l19Ref_ok (TOK.cons l9Ref_en l9Ref_ok (tabVL_ok))))))))))))))))))))

end Go.Proofs.Ytbdmaepooahplaa
