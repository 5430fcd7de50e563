/-
  Contracts of functions of the program, each run on the local memory (printed by a program of this session's own: wip/tools).
-/
import Derived.Test.YtbdmaepooahplaaVL
namespace Go.Proofs.Ytbdmaepooahplaa
open Go Go.RowKit Go.Proofs.Ytbdmaepooahplaa.V
set_option linter.unusedVariables false

/-! azulejo/fix.Within -/
def fWithin_s0 (x0 : Int) (x1 : Int) : Int := if x1 < x0 then x1 else x0
def fWithin_s1 (x1 : Int) : Int := IntKind.wrap IntKind.i64 ((0 : Int) - x1)
def fWithin_0 (x0 : Int) (x1 : Int) : Int := if fWithin_s0 x0 x1 < fWithin_s1 x1 then fWithin_s1 x1 else fWithin_s0 x0 x1
theorem fWithin_p (x0 : Int) (x1 : Int) : evG Try.prog tabVL 2000 74 [0, 1, 4] [] [] [.a (.int true .i64 x0), .a (.int true .i64 x1)] [] = some ([], LV.a (At.int true IntKind.i64 (fWithin_0 x0 x1)), []) := by kernel_rfl
def fWithin_c : Con
  | [.a (.int true .i64 x0), .a (.int true .i64 x1)], [] => some ([], LV.a (At.int true IntKind.i64 (fWithin_0 x0 x1)), [])
  | _, _ => none
theorem fWithin_ok : ConOK Try.prog 74 (normC fWithin_c) := normC_ok (by
  intro args bs obs lv out h ho φ vs w may ha hM
  unfold fWithin_c at h
  split at h
  · simp only [Option.some.injEq, Prod.mk.injEq] at h
    obtain ⟨rfl, rfl, rfl⟩ := h
    rename_i x0 x1
    exact evG_ok tabVL_ok follows _ _ _ _ _ (fWithin_p x0 x1) ho φ vs w may ha hM
  · cases h)
theorem fWithin_en : Enters Try.prog 74 := fun args => by kernel_rfl
-- 48 4 3 ms

/-! azulejo/fix.Floor -/
def fFloor_0 (x0 : Int) (x1 : Int) : Int := bif x1 == (0 : Int) then (0 : Int) else bif bif Int.tmod x0 x1 != (0 : Int) then !decide (x0 < (0 : Int)) == decide (x1 < (0 : Int)) else false then IntKind.wrap IntKind.i64 (IntKind.wrap IntKind.i64 (Int.tdiv x0 x1) - (1 : Int)) else IntKind.wrap IntKind.i64 (Int.tdiv x0 x1)
def fFloor_o (x0 : Int) (x1 : Int) : List Prop := [(!x1 == (0 : Int)) = true → x1 ≠ (0 : Int), (!x1 == (0 : Int)) = true → x1 ≠ (0 : Int)]
theorem fFloor_ot (x0 : Int) (x1 : Int) : Alls (fFloor_o x0 x1) := by simp [fFloor_o,Alls]
theorem fFloor_p (x0 : Int) (x1 : Int) : evG Try.prog tabVL 2000 71 [0, 1, 4, 5, 7, 21] [] [] [.a (.int true .i64 x0), .a (.int true .i64 x1)] [] = some (fFloor_o x0 x1, LV.a (At.int true IntKind.i64 (fFloor_0 x0 x1)), []) := by kernel_rfl
def fFloor_c : Con
  | [.a (.int true .i64 x0), .a (.int true .i64 x1)], [] => some ([], LV.a (At.int true IntKind.i64 (fFloor_0 x0 x1)), [])
  | _, _ => none
theorem fFloor_ok : ConOK Try.prog 71 (normC fFloor_c) := normC_ok (by
  intro args bs obs lv out h ho φ vs w may ha hM
  unfold fFloor_c at h
  split at h
  · simp only [Option.some.injEq, Prod.mk.injEq] at h
    obtain ⟨rfl, rfl, rfl⟩ := h
    rename_i x0 x1
    exact evG_ok tabVL_ok follows _ _ _ _ _ (fFloor_p x0 x1) (fFloor_ot x0 x1) φ vs w may ha hM
  · cases h)
theorem fFloor_en : Enters Try.prog 71 := fun args => by kernel_rfl
-- 102 8 4 ms

/-! (azulejo/edge.Tri).Turned -/
theorem tTurned_p (x0_0 : Int) (x0_1 : Int) (x0_2 : Int) (x0_3 : Int) (x0_4 : Int) (x0_5 : Int) : evG Try.prog tabVL 2000 69 [0, 1, 2] [] [] [.g [.int true .i64 x0_0, .int true .i64 x0_1, .int true .i64 x0_2, .int true .i64 x0_3, .int true .i64 x0_4, .int true .i64 x0_5]] [] = some ([], LV.g [At.int true IntKind.i64 x0_0, At.int true IntKind.i64 x0_1, At.int true IntKind.i64 x0_4, At.int true IntKind.i64 x0_5, At.int true IntKind.i64 x0_2, At.int true IntKind.i64 x0_3], []) := by kernel_rfl
def tTurned_c : Con
  | [.g [.int true .i64 x0_0, .int true .i64 x0_1, .int true .i64 x0_2, .int true .i64 x0_3, .int true .i64 x0_4, .int true .i64 x0_5]], [] => some ([], LV.g [At.int true IntKind.i64 x0_0, At.int true IntKind.i64 x0_1, At.int true IntKind.i64 x0_4, At.int true IntKind.i64 x0_5, At.int true IntKind.i64 x0_2, At.int true IntKind.i64 x0_3], [])
  | _, _ => none
theorem tTurned_ok : ConOK Try.prog 69 (normC tTurned_c) := normC_ok (by
  intro args bs obs lv out h ho φ vs w may ha hM
  unfold tTurned_c at h
  split at h
  · simp only [Option.some.injEq, Prod.mk.injEq] at h
    obtain ⟨rfl, rfl, rfl⟩ := h
    rename_i x0_0 x0_1 x0_2 x0_3 x0_4 x0_5
    exact evG_ok tabVL_ok follows _ _ _ _ _ (tTurned_p x0_0 x0_1 x0_2 x0_3 x0_4 x0_5) ho φ vs w may ha hM
  · cases h)
theorem tTurned_en : Enters Try.prog 69 := fun args => by kernel_rfl
-- 83 1 0 ms

/-! (azulejo/azulejolaw03.Small).Tri -/
theorem sm3Tri_p (x0_0 : Int) (x0_1 : Int) (x0_2 : Int) (x0_3 : Int) (x0_4 : Int) (x0_5 : Int) : evG Try.prog tabVL 2000 67 [0, 1, 2, 3, 4, 5, 6, 7, 8] [] [] [.g [.int true .i8 x0_0, .int true .i8 x0_1, .int true .i8 x0_2, .int true .i8 x0_3, .int true .i8 x0_4, .int true .i8 x0_5]] [] = some ([], LV.g [At.int true IntKind.i64 (IntKind.wrap IntKind.i64 x0_0), At.int true IntKind.i64 (IntKind.wrap IntKind.i64 x0_1), At.int true IntKind.i64 (IntKind.wrap IntKind.i64 x0_2), At.int true IntKind.i64 (IntKind.wrap IntKind.i64 x0_3), At.int true IntKind.i64 (IntKind.wrap IntKind.i64 x0_4), At.int true IntKind.i64 (IntKind.wrap IntKind.i64 x0_5)], []) := by kernel_rfl
def sm3Tri_c : Con
  | [.g [.int true .i8 x0_0, .int true .i8 x0_1, .int true .i8 x0_2, .int true .i8 x0_3, .int true .i8 x0_4, .int true .i8 x0_5]], [] => some ([], LV.g [At.int true IntKind.i64 (IntKind.wrap IntKind.i64 x0_0), At.int true IntKind.i64 (IntKind.wrap IntKind.i64 x0_1), At.int true IntKind.i64 (IntKind.wrap IntKind.i64 x0_2), At.int true IntKind.i64 (IntKind.wrap IntKind.i64 x0_3), At.int true IntKind.i64 (IntKind.wrap IntKind.i64 x0_4), At.int true IntKind.i64 (IntKind.wrap IntKind.i64 x0_5)], [])
  | _, _ => none
theorem sm3Tri_ok : ConOK Try.prog 67 (normC sm3Tri_c) := normC_ok (by
  intro args bs obs lv out h ho φ vs w may ha hM
  unfold sm3Tri_c at h
  split at h
  · simp only [Option.some.injEq, Prod.mk.injEq] at h
    obtain ⟨rfl, rfl, rfl⟩ := h
    rename_i x0_0 x0_1 x0_2 x0_3 x0_4 x0_5
    exact evG_ok tabVL_ok follows _ _ _ _ _ (sm3Tri_p x0_0 x0_1 x0_2 x0_3 x0_4 x0_5) ho φ vs w may ha hM
  · cases h)
theorem sm3Tri_en : Enters Try.prog 67 := fun args => by kernel_rfl
-- 258 4 0 ms

/-! azulejo/azulejoref01.near -/
def rNear_0 (x0 : Int) : Int := bif decide ((16384 : Int) < x0) then (16384 : Int) else bif decide (x0 < (-16384 : Int)) then (-16384 : Int) else x0
theorem rNear_p (x0 : Int) : evG Try.prog tabVL 2000 92 [0, 2, 4, 6] [] [] [.a (.int true .i64 x0)] [] = some ([], LV.a (At.int true IntKind.i64 (rNear_0 x0)), []) := by kernel_rfl
def rNear_c : Con
  | [.a (.int true .i64 x0)], [] => some ([], LV.a (At.int true IntKind.i64 (rNear_0 x0)), [])
  | _, _ => none
theorem rNear_ok : ConOK Try.prog 92 (normC rNear_c) := normC_ok (by
  intro args bs obs lv out h ho φ vs w may ha hM
  unfold rNear_c at h
  split at h
  · simp only [Option.some.injEq, Prod.mk.injEq] at h
    obtain ⟨rfl, rfl, rfl⟩ := h
    rename_i x0
    exact evG_ok tabVL_ok follows _ _ _ _ _ (rNear_p x0) ho φ vs w may ha hM
  · cases h)
theorem rNear_en : Enters Try.prog 92 := fun args => by kernel_rfl
-- 35 4 2 ms

/-! azulejo/vm.Colour -/
def vmColour_s0 (x0_0 : Int) : Int := if x0_0 < (0 : Int) then (0 : Int) else x0_0
def vmColour_0 (x0_0 : Int) : Int := if (65536 : Int) < vmColour_s0 x0_0 then (65536 : Int) else vmColour_s0 x0_0
def vmColour_s1 (x0_1 : Int) : Int := if x0_1 < (0 : Int) then (0 : Int) else x0_1
def vmColour_1 (x0_1 : Int) : Int := if (65536 : Int) < vmColour_s1 x0_1 then (65536 : Int) else vmColour_s1 x0_1
def vmColour_s2 (x0_2 : Int) : Int := if x0_2 < (0 : Int) then (0 : Int) else x0_2
def vmColour_2 (x0_2 : Int) : Int := if (65536 : Int) < vmColour_s2 x0_2 then (65536 : Int) else vmColour_s2 x0_2
def vmColour_s3 (x0_3 : Int) : Int := if x0_3 < (0 : Int) then (0 : Int) else x0_3
def vmColour_3 (x0_3 : Int) : Int := if (65536 : Int) < vmColour_s3 x0_3 then (65536 : Int) else vmColour_s3 x0_3
theorem vmColour_p (x0_0 : Int) (x0_1 : Int) (x0_2 : Int) (x0_3 : Int) : evG Try.prog tabVL 2000 75 [0, 1, 2, 3, 4, 5, 6, 7] [] [] [.g [.int true .i64 x0_0, .int true .i64 x0_1, .int true .i64 x0_2, .int true .i64 x0_3]] [] = some ([], LV.g [At.int true IntKind.i64 (vmColour_0 x0_0), At.int true IntKind.i64 (vmColour_1 x0_1), At.int true IntKind.i64 (vmColour_2 x0_2), At.int true IntKind.i64 (vmColour_3 x0_3)], []) := by kernel_rfl
def vmColour_c : Con
  | [.g [.int true .i64 x0_0, .int true .i64 x0_1, .int true .i64 x0_2, .int true .i64 x0_3]], [] => some ([], LV.g [At.int true IntKind.i64 (vmColour_0 x0_0), At.int true IntKind.i64 (vmColour_1 x0_1), At.int true IntKind.i64 (vmColour_2 x0_2), At.int true IntKind.i64 (vmColour_3 x0_3)], [])
  | _, _ => none
theorem vmColour_ok : ConOK Try.prog 75 (normC vmColour_c) := normC_ok (by
  intro args bs obs lv out h ho φ vs w may ha hM
  unfold vmColour_c at h
  split at h
  · simp only [Option.some.injEq, Prod.mk.injEq] at h
    obtain ⟨rfl, rfl, rfl⟩ := h
    rename_i x0_0 x0_1 x0_2 x0_3
    exact evG_ok tabVL_ok follows _ _ _ _ _ (vmColour_p x0_0 x0_1 x0_2 x0_3) ho φ vs w may ha hM
  · cases h)
theorem vmColour_en : Enters Try.prog 75 := fun args => by kernel_rfl
-- 236 9 7 ms

/-! azulejo/state.Plain -/
def stPlain_0 : Int := (7 : Int)
def stPlain_1 : Int := (7 : Int)
def stPlain_2 : Int := (0 : Int)
def stPlain_3 : Int := (0 : Int)
def stPlain_4 : Int := (0 : Int)
def stPlain_5 : Int := (0 : Int)
def stPlain_6 : Int := (0 : Int)
def stPlain_7 : Int := (0 : Int)
def stPlain_8 : Int := (15 : Int)
def stPlain_9 : Int := (0 : Int)
def stPlain_10 : Int := (0 : Int)
def stPlain_11 : Int := (0 : Int)
def stPlain_12 : Int := (64 : Int)
def stPlain_13 : Int := (64 : Int)
theorem stPlain_p  : evG Try.prog tabVL 2000 76 [0] [] [] [] [] = some ([], LV.g [At.int false IntKind.u8 stPlain_0, At.bool false false, At.int false IntKind.u8 stPlain_1, At.int false IntKind.u8 stPlain_2, At.int false IntKind.u8 stPlain_3, At.int false IntKind.u8 stPlain_4, At.int false IntKind.u8 stPlain_5, At.int false IntKind.u8 stPlain_6, At.int false IntKind.u8 stPlain_7, At.int false IntKind.u8 stPlain_8, At.int false IntKind.u8 stPlain_9, At.int false IntKind.i64 stPlain_10, At.int false IntKind.i64 stPlain_11, At.int false IntKind.i64 stPlain_12, At.int false IntKind.i64 stPlain_13], []) := by kernel_rfl
def stPlain_c : Con
  | [], [] => some ([], LV.g [At.int false IntKind.u8 stPlain_0, At.bool false false, At.int false IntKind.u8 stPlain_1, At.int false IntKind.u8 stPlain_2, At.int false IntKind.u8 stPlain_3, At.int false IntKind.u8 stPlain_4, At.int false IntKind.u8 stPlain_5, At.int false IntKind.u8 stPlain_6, At.int false IntKind.u8 stPlain_7, At.int false IntKind.u8 stPlain_8, At.int false IntKind.u8 stPlain_9, At.int false IntKind.i64 stPlain_10, At.int false IntKind.i64 stPlain_11, At.int false IntKind.i64 stPlain_12, At.int false IntKind.i64 stPlain_13], [])
  | _, _ => none
theorem stPlain_ok : ConOK Try.prog 76 (normC stPlain_c) := normC_ok (by
  intro args bs obs lv out h ho φ vs w may ha hM
  unfold stPlain_c at h
  split at h
  · simp only [Option.some.injEq, Prod.mk.injEq] at h
    obtain ⟨rfl, rfl, rfl⟩ := h
    exact evG_ok tabVL_ok follows _ _ _ _ _ (stPlain_p ) ho φ vs w may ha hM
  · cases h)
theorem stPlain_en : Enters Try.prog 76 := fun args => by kernel_rfl
-- 129 2 5 ms

/-! (azulejo/state.Func).Holds -/
def stHolds_s0 : Int := Int.ofNat ((2 : Nat) ^ IntKind.bits IntKind.u8)
def stHolds_0 (x0 : Int) (x1 : Int) (x2 : Int) : Bool := bif bif decide (x1 < x2) then true else x1 == x2 then bif decide (x1 < x2) then IntKind.wrap IntKind.u8 (Int.ofNat (Int.toNat (x0 % stHolds_s0) &&& Int.toNat ((1 : Int) % stHolds_s0))) != (0 : Int) else IntKind.wrap IntKind.u8 (Int.ofNat (Int.toNat (x0 % stHolds_s0) &&& Int.toNat ((2 : Int) % stHolds_s0))) != (0 : Int) else IntKind.wrap IntKind.u8 (Int.ofNat (Int.toNat (x0 % stHolds_s0) &&& Int.toNat ((4 : Int) % stHolds_s0))) != (0 : Int)
theorem stHolds_p (x0 : Int) (x1 : Int) (x2 : Int) : evG Try.prog tabVL 2000 77 [0, 1, 2, 6, 7, 14] [] [] [.a (.int true .u8 x0), .a (.int true .i64 x1), .a (.int true .i64 x2)] [] = some ([], LV.a (At.bool true (stHolds_0 x0 x1 x2)), []) := by kernel_rfl
def stHolds_c : Con
  | [.a (.int true .u8 x0), .a (.int true .i64 x1), .a (.int true .i64 x2)], [] => some ([], LV.a (At.bool true (stHolds_0 x0 x1 x2)), [])
  | _, _ => none
theorem stHolds_ok : ConOK Try.prog 77 (normC stHolds_c) := normC_ok (by
  intro args bs obs lv out h ho φ vs w may ha hM
  unfold stHolds_c at h
  split at h
  · simp only [Option.some.injEq, Prod.mk.injEq] at h
    obtain ⟨rfl, rfl, rfl⟩ := h
    rename_i x0 x1 x2
    exact evG_ok tabVL_ok follows _ _ _ _ _ (stHolds_p x0 x1 x2) ho φ vs w may ha hM
  · cases h)
theorem stHolds_en : Enters Try.prog 77 := fun args => by kernel_rfl
-- 102 8 6 ms

/-! (azulejo/state.Op).Do -/
def stDo_s0 (x1 : Int) : Int := IntKind.wrap IntKind.u8 ((255 : Int) - x1)
def stDo_s1 : Int := Int.ofNat ((2 : Nat) ^ IntKind.bits IntKind.u8)
def stDo_0 (x0 : Int) (x1 : Int) (x2 : Int) : Int := bif bif x0 == (1 : Int) then true else bif x0 == (2 : Int) then true else bif x0 == (3 : Int) then true else bif x0 == (4 : Int) then true else x0 == (5 : Int) then bif x0 == (1 : Int) then (0 : Int) else bif x0 == (2 : Int) then x2 else bif x0 == (3 : Int) then IntKind.wrap IntKind.u8 (x1 + if stDo_s0 x1 < (1 : Int) then stDo_s0 x1 else (1 : Int)) else bif x0 == (4 : Int) then IntKind.wrap IntKind.u8 (x1 - if x1 < (1 : Int) then x1 else (1 : Int)) else IntKind.wrap IntKind.u8 (Int.ofNat (Int.toNat ((if false = true then (-1 : Int) else if false = true then (2 : Int) ^ (IntKind.bits IntKind.u8 - (1 : Nat)) - (1 : Int) else (2 : Int) ^ IntKind.bits IntKind.u8 - (1 : Int)) % stDo_s1) ^^^ Int.toNat (x1 % stDo_s1))) else x1
theorem stDo_p (x0 : Int) (x1 : Int) (x2 : Int) : evG Try.prog tabVL 2000 41 [0, 1, 2, 6, 7, 8, 10, 13, 20, 26] [] [] [.a (.int true .u8 x0), .a (.int true .u8 x1), .a (.int true .u8 x2)] [] = some ([], LV.a (At.int true IntKind.u8 (stDo_0 x0 x1 x2)), []) := by kernel_rfl
def stDo_c : Con
  | [.a (.int true .u8 x0), .a (.int true .u8 x1), .a (.int true .u8 x2)], [] => some ([], LV.a (At.int true IntKind.u8 (stDo_0 x0 x1 x2)), [])
  | _, _ => none
theorem stDo_ok : ConOK Try.prog 41 (normC stDo_c) := normC_ok (by
  intro args bs obs lv out h ho φ vs w may ha hM
  unfold stDo_c at h
  split at h
  · simp only [Option.some.injEq, Prod.mk.injEq] at h
    obtain ⟨rfl, rfl, rfl⟩ := h
    rename_i x0 x1 x2
    exact evG_ok tabVL_ok follows _ _ _ _ _ (stDo_p x0 x1 x2) ho φ vs w may ha hM
  · cases h)
theorem stDo_en : Enters Try.prog 41 := fun args => by kernel_rfl
-- 145 35 13 ms

/-! azulejo/azulejoref09.Holds -/
def rHolds_0 (x0 : Int) (x1 : Int) (x2 : Int) : Bool := bif decide (x1 < x2) then Int.tmod x0 (2 : Int) == (1 : Int) else bif x1 == x2 then Int.tmod (IntKind.wrap IntKind.i64 (Int.tdiv x0 (2 : Int))) (2 : Int) == (1 : Int) else Int.tmod (IntKind.wrap IntKind.i64 (Int.tdiv x0 (4 : Int))) (2 : Int) == (1 : Int)
theorem rHolds_p (x0 : Int) (x1 : Int) (x2 : Int) : evG Try.prog tabVL 2000 40 [0, 1, 2, 6, 9, 15] [] [] [.a (.int true .i64 x0), .a (.int true .i64 x1), .a (.int true .i64 x2)] [] = some ([], LV.a (At.bool true (rHolds_0 x0 x1 x2)), []) := by kernel_rfl
def rHolds_c : Con
  | [.a (.int true .i64 x0), .a (.int true .i64 x1), .a (.int true .i64 x2)], [] => some ([], LV.a (At.bool true (rHolds_0 x0 x1 x2)), [])
  | _, _ => none
theorem rHolds_ok : ConOK Try.prog 40 (normC rHolds_c) := normC_ok (by
  intro args bs obs lv out h ho φ vs w may ha hM
  unfold rHolds_c at h
  split at h
  · simp only [Option.some.injEq, Prod.mk.injEq] at h
    obtain ⟨rfl, rfl, rfl⟩ := h
    rename_i x0 x1 x2
    exact evG_ok tabVL_ok follows _ _ _ _ _ (rHolds_p x0 x1 x2) ho φ vs w may ha hM
  · cases h)
theorem rHolds_en : Enters Try.prog 40 := fun args => by kernel_rfl
-- 56 7 3 ms

/-! azulejo/azulejoref09.Do -/
def rDo_0 (x0 : Int) (x1 : Int) (x2 : Int) : Int := bif x0 == (1 : Int) then (0 : Int) else bif x0 == (2 : Int) then x2 else bif bif x0 == (3 : Int) then decide (x1 < (255 : Int)) else false then IntKind.wrap IntKind.i64 (x1 + (1 : Int)) else bif bif x0 == (4 : Int) then decide ((0 : Int) < x1) else false then IntKind.wrap IntKind.i64 (x1 - (1 : Int)) else bif x0 == (5 : Int) then IntKind.wrap IntKind.i64 ((255 : Int) - x1) else x1
theorem rDo_p (x0 : Int) (x1 : Int) (x2 : Int) : evG Try.prog tabVL 2000 78 [0, 1, 2, 6, 8, 10, 17, 25, 29] [] [] [.a (.int true .i64 x0), .a (.int true .i64 x1), .a (.int true .i64 x2)] [] = some ([], LV.a (At.int true IntKind.i64 (rDo_0 x0 x1 x2)), []) := by kernel_rfl
def rDo_c : Con
  | [.a (.int true .i64 x0), .a (.int true .i64 x1), .a (.int true .i64 x2)], [] => some ([], LV.a (At.int true IntKind.i64 (rDo_0 x0 x1 x2)), [])
  | _, _ => none
theorem rDo_ok : ConOK Try.prog 78 (normC rDo_c) := normC_ok (by
  intro args bs obs lv out h ho φ vs w may ha hM
  unfold rDo_c at h
  split at h
  · simp only [Option.some.injEq, Prod.mk.injEq] at h
    obtain ⟨rfl, rfl, rfl⟩ := h
    rename_i x0 x1 x2
    exact evG_ok tabVL_ok follows _ _ _ _ _ (rDo_p x0 x1 x2) ho φ vs w may ha hM
  · cases h)
theorem rDo_en : Enters Try.prog 78 := fun args => by kernel_rfl
-- 118 25 4 ms

/-! azulejo/azulejoref09.Byte -/
def rByte_0 (x0 : Int) : Int := IntKind.wrap IntKind.i64 (Int.tdiv (IntKind.wrap IntKind.i64 (IntKind.wrap IntKind.i64 (x0 * (255 : Int)) + (32768 : Int))) (65536 : Int))
theorem rByte_p (x0 : Int) : evG Try.prog tabVL 2000 38 [0, 2] [] [] [.a (.int true .i64 x0)] [] = some ([], LV.a (At.int true IntKind.i64 (rByte_0 x0)), []) := by kernel_rfl
def rByte_c : Con
  | [.a (.int true .i64 x0)], [] => some ([], LV.a (At.int true IntKind.i64 (rByte_0 x0)), [])
  | _, _ => none
theorem rByte_ok : ConOK Try.prog 38 (normC rByte_c) := normC_ok (by
  intro args bs obs lv out h ho φ vs w may ha hM
  unfold rByte_c at h
  split at h
  · simp only [Option.some.injEq, Prod.mk.injEq] at h
    obtain ⟨rfl, rfl, rfl⟩ := h
    rename_i x0
    exact evG_ok tabVL_ok follows _ _ _ _ _ (rByte_p x0) ho φ vs w may ha hM
  · cases h)
theorem rByte_en : Enters Try.prog 38 := fun args => by kernel_rfl
-- 19 2 2 ms

/-! azulejo/azulejoref09.Blend -/
def rBlend_s0 (x1 : Int) (x2 : Int) : Bool := decide ((255 : Int) < IntKind.wrap IntKind.i64 (x1 + x2))
def rBlend_0 (x0 : Int) (x1 : Int) (x2 : Int) (x3 : Int) : Int := bif x0 == (1 : Int) then IntKind.wrap IntKind.i64 (Int.tdiv (IntKind.wrap IntKind.i64 (IntKind.wrap IntKind.i64 (IntKind.wrap IntKind.i64 (x1 * x3) + IntKind.wrap IntKind.i64 (x2 * IntKind.wrap IntKind.i64 ((255 : Int) - x3))) + (127 : Int))) (255 : Int)) else bif x0 == (2 : Int) && (rBlend_s0 x1 x2 || !rBlend_s0 x1 x2) then bif rBlend_s0 x1 x2 then (255 : Int) else IntKind.wrap IntKind.i64 (x1 + x2) else bif x0 == (3 : Int) then IntKind.wrap IntKind.i64 (Int.tdiv (IntKind.wrap IntKind.i64 (IntKind.wrap IntKind.i64 (x1 * x2) + (127 : Int))) (255 : Int)) else x1
theorem rBlend_p (x0 : Int) (x1 : Int) (x2 : Int) (x3 : Int) : evG Try.prog tabVL 2000 37 [0, 1, 2, 3, 8, 10, 22, 26, 31] [] [] [.a (.int true .i64 x0), .a (.int true .i64 x1), .a (.int true .i64 x2), .a (.int true .i64 x3)] [] = some ([], LV.a (At.int true IntKind.i64 (rBlend_0 x0 x1 x2 x3)), []) := by kernel_rfl
def rBlend_c : Con
  | [.a (.int true .i64 x0), .a (.int true .i64 x1), .a (.int true .i64 x2), .a (.int true .i64 x3)], [] => some ([], LV.a (At.int true IntKind.i64 (rBlend_0 x0 x1 x2 x3)), [])
  | _, _ => none
theorem rBlend_ok : ConOK Try.prog 37 (normC rBlend_c) := normC_ok (by
  intro args bs obs lv out h ho φ vs w may ha hM
  unfold rBlend_c at h
  split at h
  · simp only [Option.some.injEq, Prod.mk.injEq] at h
    obtain ⟨rfl, rfl, rfl⟩ := h
    rename_i x0 x1 x2 x3
    exact evG_ok tabVL_ok follows _ _ _ _ _ (rBlend_p x0 x1 x2 x3) ho φ vs w may ha hM
  · cases h)
theorem rBlend_en : Enters Try.prog 37 := fun args => by kernel_rfl
-- 156 17 7 ms

/-! azulejo/azulejoref07.Within -/
def rWithin_s0 (x0_0 : Int) (x1 : Int) : Int := bif decide (x0_0 < x1) then x1 else x0_0
def rWithin_0 (x0_0 : Int) (x1 : Int) (x2 : Int) : Int := bif decide (x2 < rWithin_s0 x0_0 x1) then x2 else rWithin_s0 x0_0 x1
def rWithin_s1 (x0_1 : Int) (x1 : Int) : Int := bif decide (x0_1 < x1) then x1 else x0_1
def rWithin_1 (x0_1 : Int) (x1 : Int) (x2 : Int) : Int := bif decide (x2 < rWithin_s1 x0_1 x1) then x2 else rWithin_s1 x0_1 x1
def rWithin_s2 (x0_2 : Int) (x1 : Int) : Int := bif decide (x0_2 < x1) then x1 else x0_2
def rWithin_2 (x0_2 : Int) (x1 : Int) (x2 : Int) : Int := bif decide (x2 < rWithin_s2 x0_2 x1) then x2 else rWithin_s2 x0_2 x1
def rWithin_s3 (x0_3 : Int) (x1 : Int) : Int := bif decide (x0_3 < x1) then x1 else x0_3
def rWithin_3 (x0_3 : Int) (x1 : Int) (x2 : Int) : Int := bif decide (x2 < rWithin_s3 x0_3 x1) then x2 else rWithin_s3 x0_3 x1
theorem rWithin_p (x0_0 : Int) (x0_1 : Int) (x0_2 : Int) (x0_3 : Int) (x1 : Int) (x2 : Int) : evG Try.prog tabVL 2000 34 [0, 1, 2, 3, 6, 7, 9, 16, 24] [] [] [.g [.int true .i64 x0_0, .int true .i64 x0_1, .int true .i64 x0_2, .int true .i64 x0_3], .a (.int true .i64 x1), .a (.int true .i64 x2)] [] = some ([], LV.g [At.int true IntKind.i64 (rWithin_0 x0_0 x1 x2), At.int true IntKind.i64 (rWithin_1 x0_1 x1 x2), At.int true IntKind.i64 (rWithin_2 x0_2 x1 x2), At.int true IntKind.i64 (rWithin_3 x0_3 x1 x2)], []) := by kernel_rfl
def rWithin_c : Con
  | [.g [.int true .i64 x0_0, .int true .i64 x0_1, .int true .i64 x0_2, .int true .i64 x0_3], .a (.int true .i64 x1), .a (.int true .i64 x2)], [] => some ([], LV.g [At.int true IntKind.i64 (rWithin_0 x0_0 x1 x2), At.int true IntKind.i64 (rWithin_1 x0_1 x1 x2), At.int true IntKind.i64 (rWithin_2 x0_2 x1 x2), At.int true IntKind.i64 (rWithin_3 x0_3 x1 x2)], [])
  | _, _ => none
theorem rWithin_ok : ConOK Try.prog 34 (normC rWithin_c) := normC_ok (by
  intro args bs obs lv out h ho φ vs w may ha hM
  unfold rWithin_c at h
  split at h
  · simp only [Option.some.injEq, Prod.mk.injEq] at h
    obtain ⟨rfl, rfl, rfl⟩ := h
    rename_i x0_0 x0_1 x0_2 x0_3 x1 x2
    exact evG_ok tabVL_ok follows _ _ _ _ _ (rWithin_p x0_0 x0_1 x0_2 x0_3 x1 x2) ho φ vs w may ha hM
  · cases h)
theorem rWithin_en : Enters Try.prog 34 := fun args => by kernel_rfl
-- 332 33 10 ms

/-! azulejo/pixel.part -/
def pPart_0 (x0 : Int) (x1 : Int) : Int := IntKind.wrap IntKind.i64 (Int.tdiv (IntKind.wrap IntKind.i64 (IntKind.wrap IntKind.i64 (x0 * x1) + (127 : Int))) (255 : Int))
theorem pPart_p (x0 : Int) (x1 : Int) : evG Try.prog tabVL 2000 79 [0, 1, 4] [] [] [.a (.int true .i64 x0), .a (.int true .i64 x1)] [] = some ([], LV.a (At.int true IntKind.i64 (pPart_0 x0 x1)), []) := by kernel_rfl
def pPart_c : Con
  | [.a (.int true .i64 x0), .a (.int true .i64 x1)], [] => some ([], LV.a (At.int true IntKind.i64 (pPart_0 x0 x1)), [])
  | _, _ => none
theorem pPart_ok : ConOK Try.prog 79 (normC pPart_c) := normC_ok (by
  intro args bs obs lv out h ho φ vs w may ha hM
  unfold pPart_c at h
  split at h
  · simp only [Option.some.injEq, Prod.mk.injEq] at h
    obtain ⟨rfl, rfl, rfl⟩ := h
    rename_i x0 x1
    exact evG_ok tabVL_ok follows _ _ _ _ _ (pPart_p x0 x1) ho φ vs w may ha hM
  · cases h)
theorem pPart_en : Enters Try.prog 79 := fun args => by kernel_rfl
-- 23 3 2 ms

/-! (azulejo/pixel.Pixel).Clear -/
def pClear_s0 : Int := Int.ofNat ((2 : Nat) ^ IntKind.bits IntKind.u8)
def pClear_s1 (x1_6 : Int) : Bool := IntKind.wrap IntKind.u8 (Int.ofNat (Int.toNat (x1_6 % pClear_s0) &&& Int.toNat ((1 : Int) % pClear_s0))) != (0 : Int)
def pClear_0 (x0_0 : Int) (x1_0 : Int) (x1_6 : Int) : Int := bif pClear_s1 x1_6 then x1_0 else x0_0
def pClear_1 (x0_1 : Int) (x1_1 : Int) (x1_6 : Int) : Int := bif pClear_s1 x1_6 then x1_1 else x0_1
def pClear_2 (x0_2 : Int) (x1_2 : Int) (x1_6 : Int) : Int := bif pClear_s1 x1_6 then x1_2 else x0_2
def pClear_3 (x0_3 : Int) (x1_3 : Int) (x1_6 : Int) : Int := bif pClear_s1 x1_6 then x1_3 else x0_3
def pClear_4 (x0_4 : Int) (x1_4 : Int) (x1_6 : Int) : Int := bif IntKind.wrap IntKind.u8 (Int.ofNat (Int.toNat (x1_6 % pClear_s0) &&& Int.toNat ((2 : Int) % pClear_s0))) != (0 : Int) then x1_4 else x0_4
def pClear_5 (x0_5 : Int) (x1_5 : Int) (x1_6 : Int) : Int := bif IntKind.wrap IntKind.u8 (Int.ofNat (Int.toNat (x1_6 % pClear_s0) &&& Int.toNat ((4 : Int) % pClear_s0))) != (0 : Int) then x1_5 else x0_5
theorem pClear_p (x0_0 : Int) (x0_1 : Int) (x0_2 : Int) (x0_3 : Int) (x0_4 : Int) (x0_5 : Int) (x1_0 : Int) (x1_1 : Int) (x1_2 : Int) (x1_3 : Int) (x1_4 : Int) (x1_5 : Int) (x1_6 : Int) : evG Try.prog tabVL 2000 62 [0, 1, 2, 3, 4, 8, 15, 22] [] [] [.g [.int true .u8 x0_0, .int true .u8 x0_1, .int true .u8 x0_2, .int true .u8 x0_3, .int true .i64 x0_4, .int true .u8 x0_5], .g [.int true .u8 x1_0, .int true .u8 x1_1, .int true .u8 x1_2, .int true .u8 x1_3, .int true .i64 x1_4, .int true .u8 x1_5, .int true .u8 x1_6]] [] = some ([], LV.g [At.int true IntKind.u8 (pClear_0 x0_0 x1_0 x1_6), At.int true IntKind.u8 (pClear_1 x0_1 x1_1 x1_6), At.int true IntKind.u8 (pClear_2 x0_2 x1_2 x1_6), At.int true IntKind.u8 (pClear_3 x0_3 x1_3 x1_6), At.int true IntKind.i64 (pClear_4 x0_4 x1_4 x1_6), At.int true IntKind.u8 (pClear_5 x0_5 x1_5 x1_6)], []) := by kernel_rfl
def pClear_c : Con
  | [.g [.int true .u8 x0_0, .int true .u8 x0_1, .int true .u8 x0_2, .int true .u8 x0_3, .int true .i64 x0_4, .int true .u8 x0_5], .g [.int true .u8 x1_0, .int true .u8 x1_1, .int true .u8 x1_2, .int true .u8 x1_3, .int true .i64 x1_4, .int true .u8 x1_5, .int true .u8 x1_6]], [] => some ([], LV.g [At.int true IntKind.u8 (pClear_0 x0_0 x1_0 x1_6), At.int true IntKind.u8 (pClear_1 x0_1 x1_1 x1_6), At.int true IntKind.u8 (pClear_2 x0_2 x1_2 x1_6), At.int true IntKind.u8 (pClear_3 x0_3 x1_3 x1_6), At.int true IntKind.i64 (pClear_4 x0_4 x1_4 x1_6), At.int true IntKind.u8 (pClear_5 x0_5 x1_5 x1_6)], [])
  | _, _ => none
theorem pClear_ok : ConOK Try.prog 62 (normC pClear_c) := normC_ok (by
  intro args bs obs lv out h ho φ vs w may ha hM
  unfold pClear_c at h
  split at h
  · simp only [Option.some.injEq, Prod.mk.injEq] at h
    obtain ⟨rfl, rfl, rfl⟩ := h
    rename_i x0_0 x0_1 x0_2 x0_3 x0_4 x0_5 x1_0 x1_1 x1_2 x1_3 x1_4 x1_5 x1_6
    exact evG_ok tabVL_ok follows _ _ _ _ _ (pClear_p x0_0 x0_1 x0_2 x0_3 x0_4 x0_5 x1_0 x1_1 x1_2 x1_3 x1_4 x1_5 x1_6) ho φ vs w may ha hM
  · cases h)
theorem pClear_en : Enters Try.prog 62 := fun args => by kernel_rfl
-- 236 23 8 ms

/-! (azulejo/azulejolaw19.Small).Pixel -/
theorem sm19Pixel_p (x0_0 : Int) (x0_1 : Int) (x0_2 : Int) (x0_3 : Int) (x0_4 : Int) (x0_5 : Int) : evG Try.prog tabVL 2000 28 [0, 1, 2] [] [] [.g [.int true .u8 x0_0, .int true .u8 x0_1, .int true .u8 x0_2, .int true .u8 x0_3, .int true .u16 x0_4, .int true .u8 x0_5]] [] = some ([], LV.g [At.int true IntKind.u8 x0_0, At.int true IntKind.u8 x0_1, At.int true IntKind.u8 x0_2, At.int true IntKind.u8 x0_3, At.int true IntKind.i64 (IntKind.wrap IntKind.i64 x0_4), At.int true IntKind.u8 x0_5], []) := by kernel_rfl
def sm19Pixel_c : Con
  | [.g [.int true .u8 x0_0, .int true .u8 x0_1, .int true .u8 x0_2, .int true .u8 x0_3, .int true .u16 x0_4, .int true .u8 x0_5]], [] => some ([], LV.g [At.int true IntKind.u8 x0_0, At.int true IntKind.u8 x0_1, At.int true IntKind.u8 x0_2, At.int true IntKind.u8 x0_3, At.int true IntKind.i64 (IntKind.wrap IntKind.i64 x0_4), At.int true IntKind.u8 x0_5], [])
  | _, _ => none
theorem sm19Pixel_ok : ConOK Try.prog 28 (normC sm19Pixel_c) := normC_ok (by
  intro args bs obs lv out h ho φ vs w may ha hM
  unfold sm19Pixel_c at h
  split at h
  · simp only [Option.some.injEq, Prod.mk.injEq] at h
    obtain ⟨rfl, rfl, rfl⟩ := h
    rename_i x0_0 x0_1 x0_2 x0_3 x0_4 x0_5
    exact evG_ok tabVL_ok follows _ _ _ _ _ (sm19Pixel_p x0_0 x0_1 x0_2 x0_3 x0_4 x0_5) ho φ vs w may ha hM
  · cases h)
theorem sm19Pixel_en : Enters Try.prog 28 := fun args => by kernel_rfl
-- 133 2 0 ms

/-! (azulejo/azulejolaw09.Small).State -/
def sm9State_0 (x0_0 : Int) : Int := Int.tmod x0_0 (8 : Int)
def sm9State_1 (x0_1 : Int) (x0_11 : Bool) : Int := bif x0_11 then (7 : Int) else Int.tmod x0_1 (8 : Int)
def sm9State_2 (x0_4 : Int) : Int := Int.tmod x0_4 (6 : Int)
def sm9State_3 (x0_5 : Int) (x0_11 : Bool) : Int := bif x0_11 then (0 : Int) else Int.tmod x0_5 (6 : Int)
def sm9State_4 (x0_6 : Int) (x0_11 : Bool) : Int := bif x0_11 then (0 : Int) else Int.tmod x0_6 (6 : Int)
def sm9State_5 (x0_7 : Int) (x0_11 : Bool) : Int := bif x0_11 then (0 : Int) else Int.tmod x0_7 (4 : Int)
def sm9State_6 (x0_8 : Int) (x0_11 : Bool) : Int := bif x0_11 then (15 : Int) else Int.tmod x0_8 (16 : Int)
def sm9State_7 (x0_9 : Int) : Int := Int.tmod x0_9 (3 : Int)
def sm9State_s0 (x0_12 : Int) : Bool := Int.tmod x0_12 (3 : Int) == (0 : Int)
def sm9State_s1 (x0_12 : Int) : Int := IntKind.wrap IntKind.i64 (Int.tmod (IntKind.wrap IntKind.u8 (Int.tdiv x0_12 (3 : Int))) (30 : Int))
def sm9State_8 (x0_12 : Int) : Int := bif sm9State_s0 x0_12 then sm9State_s1 x0_12 else (0 : Int)
def sm9State_9 (x0_12 : Int) (x0_13 : Int) : Int := bif sm9State_s0 x0_12 then IntKind.wrap IntKind.i64 (Int.tmod x0_13 (30 : Int)) else (0 : Int)
def sm9State_10 (x0_12 : Int) (x0_14 : Int) : Int := bif sm9State_s0 x0_12 then IntKind.wrap IntKind.i64 (sm9State_s1 x0_12 + IntKind.wrap IntKind.i64 (Int.tmod x0_14 (30 : Int))) else (64 : Int)
def sm9State_11 (x0_12 : Int) (x0_13 : Int) (x0_15 : Int) : Int := bif sm9State_s0 x0_12 then IntKind.wrap IntKind.i64 (IntKind.wrap IntKind.i64 (Int.tmod x0_13 (30 : Int)) + IntKind.wrap IntKind.i64 (Int.tmod x0_15 (30 : Int))) else (64 : Int)
theorem sm9State_p (x0_0 : Int) (x0_1 : Int) (x0_2 : Int) (x0_3 : Int) (x0_4 : Int) (x0_5 : Int) (x0_6 : Int) (x0_7 : Int) (x0_8 : Int) (x0_9 : Int) (x0_10 : Bool) (x0_11 : Bool) (x0_12 : Int) (x0_13 : Int) (x0_14 : Int) (x0_15 : Int) : evG Try.prog tabVL 2000 29 [0, 1, 2, 3, 4, 38, 48] [] [] [.g [.int true .u8 x0_0, .int true .u8 x0_1, .int true .u8 x0_2, .int true .u8 x0_3, .int true .u8 x0_4, .int true .u8 x0_5, .int true .u8 x0_6, .int true .u8 x0_7, .int true .u8 x0_8, .int true .u8 x0_9, .bool true x0_10, .bool true x0_11, .int true .u8 x0_12, .int true .u8 x0_13, .int true .u8 x0_14, .int true .u8 x0_15]] [] = some ([], LV.g [At.int true IntKind.u8 (sm9State_0 x0_0), At.bool true x0_10, At.int true IntKind.u8 (sm9State_1 x0_1 x0_11), At.int true IntKind.u8 x0_2, At.int true IntKind.u8 x0_3, At.int true IntKind.u8 (sm9State_2 x0_4), At.int true IntKind.u8 (sm9State_3 x0_5 x0_11), At.int true IntKind.u8 (sm9State_4 x0_6 x0_11), At.int true IntKind.u8 (sm9State_5 x0_7 x0_11), At.int true IntKind.u8 (sm9State_6 x0_8 x0_11), At.int true IntKind.u8 (sm9State_7 x0_9), At.int true IntKind.i64 (sm9State_8 x0_12), At.int true IntKind.i64 (sm9State_9 x0_12 x0_13), At.int true IntKind.i64 (sm9State_10 x0_12 x0_14), At.int true IntKind.i64 (sm9State_11 x0_12 x0_13 x0_15)], []) := by kernel_rfl
def sm9State_c : Con
  | [.g [.int true .u8 x0_0, .int true .u8 x0_1, .int true .u8 x0_2, .int true .u8 x0_3, .int true .u8 x0_4, .int true .u8 x0_5, .int true .u8 x0_6, .int true .u8 x0_7, .int true .u8 x0_8, .int true .u8 x0_9, .bool true x0_10, .bool true x0_11, .int true .u8 x0_12, .int true .u8 x0_13, .int true .u8 x0_14, .int true .u8 x0_15]], [] => some ([], LV.g [At.int true IntKind.u8 (sm9State_0 x0_0), At.bool true x0_10, At.int true IntKind.u8 (sm9State_1 x0_1 x0_11), At.int true IntKind.u8 x0_2, At.int true IntKind.u8 x0_3, At.int true IntKind.u8 (sm9State_2 x0_4), At.int true IntKind.u8 (sm9State_3 x0_5 x0_11), At.int true IntKind.u8 (sm9State_4 x0_6 x0_11), At.int true IntKind.u8 (sm9State_5 x0_7 x0_11), At.int true IntKind.u8 (sm9State_6 x0_8 x0_11), At.int true IntKind.u8 (sm9State_7 x0_9), At.int true IntKind.i64 (sm9State_8 x0_12), At.int true IntKind.i64 (sm9State_9 x0_12 x0_13), At.int true IntKind.i64 (sm9State_10 x0_12 x0_14), At.int true IntKind.i64 (sm9State_11 x0_12 x0_13 x0_15)], [])
  | _, _ => none
theorem sm9State_ok : ConOK Try.prog 29 (normC sm9State_c) := normC_ok (by
  intro args bs obs lv out h ho φ vs w may ha hM
  unfold sm9State_c at h
  split at h
  · simp only [Option.some.injEq, Prod.mk.injEq] at h
    obtain ⟨rfl, rfl, rfl⟩ := h
    rename_i x0_0 x0_1 x0_2 x0_3 x0_4 x0_5 x0_6 x0_7 x0_8 x0_9 x0_10 x0_11 x0_12 x0_13 x0_14 x0_15
    exact evG_ok tabVL_ok follows _ _ _ _ _ (sm9State_p x0_0 x0_1 x0_2 x0_3 x0_4 x0_5 x0_6 x0_7 x0_8 x0_9 x0_10 x0_11 x0_12 x0_13 x0_14 x0_15) ho φ vs w may ha hM
  · cases h)
theorem sm9State_en : Enters Try.prog 29 := fun args => by kernel_rfl
-- 537 168 12 ms

/-! azulejo/azulejolaw19.Ref -/
theorem l19Ref_p (x0_0 : Int) (x0_1 : Int) (x0_2 : Int) (x0_3 : Int) (x0_4 : Int) (x0_5 : Int) : evG Try.prog tabVL 2000 32 [0, 1, 2, 3, 4, 5, 13, 14, 15] [] [] [.g [.int true .u8 x0_0, .int true .u8 x0_1, .int true .u8 x0_2, .int true .u8 x0_3, .int true .i64 x0_4, .int true .u8 x0_5]] [] = some ([], LV.g [At.int true IntKind.i64 (IntKind.wrap IntKind.i64 x0_0), At.int true IntKind.i64 (IntKind.wrap IntKind.i64 x0_1), At.int true IntKind.i64 (IntKind.wrap IntKind.i64 x0_2), At.int true IntKind.i64 (IntKind.wrap IntKind.i64 x0_3), At.int true IntKind.i64 x0_4, At.int true IntKind.i64 (IntKind.wrap IntKind.i64 x0_5)], []) := by kernel_rfl
def l19Ref_c : Con
  | [.g [.int true .u8 x0_0, .int true .u8 x0_1, .int true .u8 x0_2, .int true .u8 x0_3, .int true .i64 x0_4, .int true .u8 x0_5]], [] => some ([], LV.g [At.int true IntKind.i64 (IntKind.wrap IntKind.i64 x0_0), At.int true IntKind.i64 (IntKind.wrap IntKind.i64 x0_1), At.int true IntKind.i64 (IntKind.wrap IntKind.i64 x0_2), At.int true IntKind.i64 (IntKind.wrap IntKind.i64 x0_3), At.int true IntKind.i64 x0_4, At.int true IntKind.i64 (IntKind.wrap IntKind.i64 x0_5)], [])
  | _, _ => none
theorem l19Ref_ok : ConOK Try.prog 32 (normC l19Ref_c) := normC_ok (by
  intro args bs obs lv out h ho φ vs w may ha hM
  unfold l19Ref_c at h
  split at h
  · simp only [Option.some.injEq, Prod.mk.injEq] at h
    obtain ⟨rfl, rfl, rfl⟩ := h
    rename_i x0_0 x0_1 x0_2 x0_3 x0_4 x0_5
    exact evG_ok tabVL_ok follows _ _ _ _ _ (l19Ref_p x0_0 x0_1 x0_2 x0_3 x0_4 x0_5) ho φ vs w may ha hM
  · cases h)
theorem l19Ref_en : Enters Try.prog 32 := fun args => by kernel_rfl
-- 213 4 0 ms

/-! azulejo/azulejolaw09.Ref -/
theorem l9Ref_p (x0_0 : Int) (x0_1 : Bool) (x0_2 : Int) (x0_3 : Int) (x0_4 : Int) (x0_5 : Int) (x0_6 : Int) (x0_7 : Int) (x0_8 : Int) (x0_9 : Int) (x0_10 : Int) (x0_11 : Int) (x0_12 : Int) (x0_13 : Int) (x0_14 : Int) : evG Try.prog tabVL 2000 33 [0, 1, 2] [] [] [.g [.int true .u8 x0_0, .bool true x0_1, .int true .u8 x0_2, .int true .u8 x0_3, .int true .u8 x0_4, .int true .u8 x0_5, .int true .u8 x0_6, .int true .u8 x0_7, .int true .u8 x0_8, .int true .u8 x0_9, .int true .u8 x0_10, .int true .i64 x0_11, .int true .i64 x0_12, .int true .i64 x0_13, .int true .i64 x0_14]] [] = some ([], LV.g [At.int true IntKind.i64 (IntKind.wrap IntKind.i64 x0_0), At.int true IntKind.i64 (IntKind.wrap IntKind.i64 x0_2), At.int true IntKind.i64 (IntKind.wrap IntKind.i64 x0_3), At.int true IntKind.i64 (IntKind.wrap IntKind.i64 x0_4), At.int true IntKind.i64 (IntKind.wrap IntKind.i64 x0_5), At.int true IntKind.i64 (IntKind.wrap IntKind.i64 x0_6), At.int true IntKind.i64 (IntKind.wrap IntKind.i64 x0_7), At.int true IntKind.i64 (IntKind.wrap IntKind.i64 x0_8), At.int true IntKind.i64 (IntKind.wrap IntKind.i64 x0_9), At.bool true x0_1], []) := by kernel_rfl
def l9Ref_c : Con
  | [.g [.int true .u8 x0_0, .bool true x0_1, .int true .u8 x0_2, .int true .u8 x0_3, .int true .u8 x0_4, .int true .u8 x0_5, .int true .u8 x0_6, .int true .u8 x0_7, .int true .u8 x0_8, .int true .u8 x0_9, .int true .u8 x0_10, .int true .i64 x0_11, .int true .i64 x0_12, .int true .i64 x0_13, .int true .i64 x0_14]], [] => some ([], LV.g [At.int true IntKind.i64 (IntKind.wrap IntKind.i64 x0_0), At.int true IntKind.i64 (IntKind.wrap IntKind.i64 x0_2), At.int true IntKind.i64 (IntKind.wrap IntKind.i64 x0_3), At.int true IntKind.i64 (IntKind.wrap IntKind.i64 x0_4), At.int true IntKind.i64 (IntKind.wrap IntKind.i64 x0_5), At.int true IntKind.i64 (IntKind.wrap IntKind.i64 x0_6), At.int true IntKind.i64 (IntKind.wrap IntKind.i64 x0_7), At.int true IntKind.i64 (IntKind.wrap IntKind.i64 x0_8), At.int true IntKind.i64 (IntKind.wrap IntKind.i64 x0_9), At.bool true x0_1], [])
  | _, _ => none
theorem l9Ref_ok : ConOK Try.prog 33 (normC l9Ref_c) := normC_ok (by
  intro args bs obs lv out h ho φ vs w may ha hM
  unfold l9Ref_c at h
  split at h
  · simp only [Option.some.injEq, Prod.mk.injEq] at h
    obtain ⟨rfl, rfl, rfl⟩ := h
    rename_i x0_0 x0_1 x0_2 x0_3 x0_4 x0_5 x0_6 x0_7 x0_8 x0_9 x0_10 x0_11 x0_12 x0_13 x0_14
    exact evG_ok tabVL_ok follows _ _ _ _ _ (l9Ref_p x0_0 x0_1 x0_2 x0_3 x0_4 x0_5 x0_6 x0_7 x0_8 x0_9 x0_10 x0_11 x0_12 x0_13 x0_14) ho φ vs w may ha hM
  · cases h)
theorem l9Ref_en : Enters Try.prog 33 := fun args => by kernel_rfl
-- 288 5 0 ms

def tabPa1 : Tab := (74, normC fWithin_c) :: (71, normC fFloor_c) :: (69, normC tTurned_c) :: (67, normC sm3Tri_c) :: (92, normC rNear_c) :: (75, normC vmColour_c) :: (76, normC stPlain_c) :: (77, normC stHolds_c) :: (41, normC stDo_c) :: (40, normC rHolds_c) :: (78, normC rDo_c) :: (38, normC rByte_c) :: (37, normC rBlend_c) :: (34, normC rWithin_c) :: (79, normC pPart_c) :: (62, normC pClear_c) :: (28, normC sm19Pixel_c) :: (29, normC sm9State_c) :: (32, normC l19Ref_c) :: (33, normC l9Ref_c) :: tabVL
theorem tabPa1_ok : TOK Try.prog tabPa1 := TOK.cons fWithin_en fWithin_ok (TOK.cons fFloor_en fFloor_ok (TOK.cons tTurned_en tTurned_ok (TOK.cons sm3Tri_en sm3Tri_ok (TOK.cons rNear_en rNear_ok (TOK.cons vmColour_en vmColour_ok (TOK.cons stPlain_en stPlain_ok (TOK.cons stHolds_en stHolds_ok (TOK.cons stDo_en stDo_ok (TOK.cons rHolds_en rHolds_ok (TOK.cons rDo_en rDo_ok (TOK.cons rByte_en rByte_ok (TOK.cons rBlend_en rBlend_ok (TOK.cons rWithin_en rWithin_ok (TOK.cons pPart_en pPart_ok (TOK.cons pClear_en pClear_ok (TOK.cons sm19Pixel_en sm19Pixel_ok (TOK.cons sm9State_en sm9State_ok (TOK.cons l19Ref_en l19Ref_ok (TOK.cons l9Ref_en l9Ref_ok (tabVL_ok))))))))))))))))))))

end Go.Proofs.Ytbdmaepooahplaa

namespace Go.Proofs.Ytbdmaepooahplaa
open Go Go.RowKit Go.Proofs.Ytbdmaepooahplaa.V
set_option linter.unusedVariables false

/-! (azulejo/edge.Point).near -/
def eNear_0 (x0_0 : Int) : Int := fWithin_0 x0_0 (16384 : Int)
def eNear_1 (x0_1 : Int) : Int := fWithin_0 x0_1 (16384 : Int)
theorem eNear_p (x0_0 : Int) (x0_1 : Int) : evG Try.prog tabPa1 2000 93 [0, 1, 2] [] [] [.g [.int true .i64 x0_0, .int true .i64 x0_1]] [] = some ([], LV.g [At.int true IntKind.i64 (eNear_0 x0_0), At.int true IntKind.i64 (eNear_1 x0_1)], []) := by kernel_rfl
def eNear_c : Con
  | [.g [.int true .i64 x0_0, .int true .i64 x0_1]], [] => some ([], LV.g [At.int true IntKind.i64 (eNear_0 x0_0), At.int true IntKind.i64 (eNear_1 x0_1)], [])
  | _, _ => none
theorem eNear_ok : ConOK Try.prog 93 (normC eNear_c) := normC_ok (by
  intro args bs obs lv out h ho φ vs w may ha hM
  unfold eNear_c at h
  split at h
  · simp only [Option.some.injEq, Prod.mk.injEq] at h
    obtain ⟨rfl, rfl, rfl⟩ := h
    rename_i x0_0 x0_1
    exact evG_ok tabPa1_ok follows _ _ _ _ _ (eNear_p x0_0 x0_1) ho φ vs w may ha hM
  · cases h)
theorem eNear_en : Enters Try.prog 93 := fun args => by kernel_rfl
-- 103 2 1 ms

/-! azulejo/azulejoref01.Side -/
def rSide_0 (x0_0 : Int) (x0_1 : Int) (x1_0 : Int) (x1_1 : Int) (x2_0 : Int) (x2_1 : Int) : Int := IntKind.wrap IntKind.i64 (IntKind.wrap IntKind.i64 (IntKind.wrap IntKind.i64 (rNear_0 x1_0 - rNear_0 x0_0) * IntKind.wrap IntKind.i64 (rNear_0 x2_1 - rNear_0 x0_1)) - IntKind.wrap IntKind.i64 (IntKind.wrap IntKind.i64 (rNear_0 x1_1 - rNear_0 x0_1) * IntKind.wrap IntKind.i64 (rNear_0 x2_0 - rNear_0 x0_0)))
theorem rSide_p (x0_0 : Int) (x0_1 : Int) (x1_0 : Int) (x1_1 : Int) (x2_0 : Int) (x2_1 : Int) : evG Try.prog tabPa1 2000 73 [0, 1, 2, 3, 4, 5, 6, 7, 8] [] [] [.g [.int true .i64 x0_0, .int true .i64 x0_1], .g [.int true .i64 x1_0, .int true .i64 x1_1], .g [.int true .i64 x2_0, .int true .i64 x2_1]] [] = some ([], LV.a (At.int true IntKind.i64 (rSide_0 x0_0 x0_1 x1_0 x1_1 x2_0 x2_1)), []) := by kernel_rfl
def rSide_c : Con
  | [.g [.int true .i64 x0_0, .int true .i64 x0_1], .g [.int true .i64 x1_0, .int true .i64 x1_1], .g [.int true .i64 x2_0, .int true .i64 x2_1]], [] => some ([], LV.a (At.int true IntKind.i64 (rSide_0 x0_0 x0_1 x1_0 x1_1 x2_0 x2_1)), [])
  | _, _ => none
theorem rSide_ok : ConOK Try.prog 73 (normC rSide_c) := normC_ok (by
  intro args bs obs lv out h ho φ vs w may ha hM
  unfold rSide_c at h
  split at h
  · simp only [Option.some.injEq, Prod.mk.injEq] at h
    obtain ⟨rfl, rfl, rfl⟩ := h
    rename_i x0_0 x0_1 x1_0 x1_1 x2_0 x2_1
    exact evG_ok tabPa1_ok follows _ _ _ _ _ (rSide_p x0_0 x0_1 x1_0 x1_1 x2_0 x2_1) ho φ vs w may ha hM
  · cases h)
theorem rSide_en : Enters Try.prog 73 := fun args => by kernel_rfl
-- 357 4 4 ms

/-! (azulejo/vec.Vec).Within -/
theorem vWithin_p (x0_0 : Int) (x0_1 : Int) (x0_2 : Int) (x0_3 : Int) (x1 : Int) : evG Try.prog tabPa1 2000 58 [0, 1, 2, 4, 5, 6, 7, 8, 9] [] [] [.g [.int true .i64 x0_0, .int true .i64 x0_1, .int true .i64 x0_2, .int true .i64 x0_3], .a (.int true .i64 x1)] [] = some ([], LV.g [At.int true IntKind.i64 (fWithin_0 x0_0 x1), At.int true IntKind.i64 (fWithin_0 x0_1 x1), At.int true IntKind.i64 (fWithin_0 x0_2 x1), At.int true IntKind.i64 (fWithin_0 x0_3 x1)], []) := by kernel_rfl
def vWithin_c : Con
  | [.g [.int true .i64 x0_0, .int true .i64 x0_1, .int true .i64 x0_2, .int true .i64 x0_3], .a (.int true .i64 x1)], [] => some ([], LV.g [At.int true IntKind.i64 (fWithin_0 x0_0 x1), At.int true IntKind.i64 (fWithin_0 x0_1 x1), At.int true IntKind.i64 (fWithin_0 x0_2 x1), At.int true IntKind.i64 (fWithin_0 x0_3 x1)], [])
  | _, _ => none
theorem vWithin_ok : ConOK Try.prog 58 (normC vWithin_c) := normC_ok (by
  intro args bs obs lv out h ho φ vs w may ha hM
  unfold vWithin_c at h
  split at h
  · simp only [Option.some.injEq, Prod.mk.injEq] at h
    obtain ⟨rfl, rfl, rfl⟩ := h
    rename_i x0_0 x0_1 x0_2 x0_3 x1
    exact evG_ok tabPa1_ok follows _ _ _ _ _ (vWithin_p x0_0 x0_1 x0_2 x0_3 x1) ho φ vs w may ha hM
  · cases h)
theorem vWithin_en : Enters Try.prog 58 := fun args => by kernel_rfl
-- 213 1 1 ms

/-! azulejo/azulejoref09.Put -/
def rPut_s0 : Int := Int.ofNat ((2 : Nat) ^ IntKind.bits IntKind.i64)
def rPut_s1 (x0_5 : Int) (x1_1 : Int) (x1_2 : Int) (x1_3 : Int) : Bool := !rHolds_0 x1_1 (IntKind.wrap IntKind.i64 (Int.ofNat (Int.toNat (x1_2 % rPut_s0) &&& Int.toNat (x1_3 % rPut_s0)))) (IntKind.wrap IntKind.i64 (Int.ofNat (Int.toNat (x0_5 % rPut_s0) &&& Int.toNat (x1_3 % rPut_s0))))
def rPut_0 (x0_0 : Int) (x0_4 : Int) (x0_5 : Int) (x1_0 : Int) (x1_1 : Int) (x1_2 : Int) (x1_3 : Int) (x1_7 : Int) (x1_8 : Int) (x2 : Int) (x3_0 : Int) (x3_3 : Int) : Int := bif rPut_s1 x0_5 x1_1 x1_2 x1_3 then x0_0 else bif !rHolds_0 x1_0 x2 x0_4 then x0_0 else bif Int.tmod (Int.fdiv x1_8 ((2 : Int) ^ min (Int.toNat (0 : Int)) (IntKind.bits IntKind.i64))) (2 : Int) == (1 : Int) then rBlend_0 x1_7 (rByte_0 x3_0) x0_0 (rByte_0 x3_3) else x0_0
def rPut_s2 : Int := IntKind.wrap IntKind.i64 ((0 : Int) + (1 : Int))
def rPut_1 (x0_1 : Int) (x0_4 : Int) (x0_5 : Int) (x1_0 : Int) (x1_1 : Int) (x1_2 : Int) (x1_3 : Int) (x1_7 : Int) (x1_8 : Int) (x2 : Int) (x3_1 : Int) (x3_3 : Int) : Int := bif rPut_s1 x0_5 x1_1 x1_2 x1_3 then x0_1 else bif !rHolds_0 x1_0 x2 x0_4 then x0_1 else bif Int.tmod (Int.fdiv x1_8 ((2 : Int) ^ min (Int.toNat rPut_s2) (IntKind.bits IntKind.i64))) (2 : Int) == (1 : Int) then rBlend_0 x1_7 (rByte_0 x3_1) x0_1 (rByte_0 x3_3) else x0_1
def rPut_s3 : Int := IntKind.wrap IntKind.i64 (rPut_s2 + (1 : Int))
def rPut_2 (x0_2 : Int) (x0_4 : Int) (x0_5 : Int) (x1_0 : Int) (x1_1 : Int) (x1_2 : Int) (x1_3 : Int) (x1_7 : Int) (x1_8 : Int) (x2 : Int) (x3_2 : Int) (x3_3 : Int) : Int := bif rPut_s1 x0_5 x1_1 x1_2 x1_3 then x0_2 else bif !rHolds_0 x1_0 x2 x0_4 then x0_2 else bif Int.tmod (Int.fdiv x1_8 ((2 : Int) ^ min (Int.toNat rPut_s3) (IntKind.bits IntKind.i64))) (2 : Int) == (1 : Int) then rBlend_0 x1_7 (rByte_0 x3_2) x0_2 (rByte_0 x3_3) else x0_2
def rPut_3 (x0_3 : Int) (x0_4 : Int) (x0_5 : Int) (x1_0 : Int) (x1_1 : Int) (x1_2 : Int) (x1_3 : Int) (x1_7 : Int) (x1_8 : Int) (x2 : Int) (x3_3 : Int) : Int := bif rPut_s1 x0_5 x1_1 x1_2 x1_3 then x0_3 else bif !rHolds_0 x1_0 x2 x0_4 then x0_3 else bif Int.tmod (Int.fdiv x1_8 ((2 : Int) ^ min (Int.toNat (IntKind.wrap IntKind.i64 (rPut_s3 + (1 : Int)))) (IntKind.bits IntKind.i64))) (2 : Int) == (1 : Int) then rBlend_0 x1_7 (rByte_0 x3_3) x0_3 (rByte_0 x3_3) else x0_3
def rPut_4 (x0_4 : Int) (x0_5 : Int) (x1_0 : Int) (x1_1 : Int) (x1_2 : Int) (x1_3 : Int) (x1_9 : Bool) (x2 : Int) : Int := bif rPut_s1 x0_5 x1_1 x1_2 x1_3 then x0_4 else bif !rHolds_0 x1_0 x2 x0_4 then x0_4 else bif x1_9 then x2 else x0_4
def rPut_5 (x0_4 : Int) (x0_5 : Int) (x1_0 : Int) (x1_1 : Int) (x1_2 : Int) (x1_3 : Int) (x1_4 : Int) (x1_5 : Int) (x1_6 : Int) (x2 : Int) : Int := bif rPut_s1 x0_5 x1_1 x1_2 x1_3 then rDo_0 x1_4 x0_5 x1_2 else bif !rHolds_0 x1_0 x2 x0_4 then rDo_0 x1_5 x0_5 x1_2 else rDo_0 x1_6 x0_5 x1_2
theorem rPut_p (x0_0 : Int) (x0_1 : Int) (x0_2 : Int) (x0_3 : Int) (x0_4 : Int) (x0_5 : Int) (x1_0 : Int) (x1_1 : Int) (x1_2 : Int) (x1_3 : Int) (x1_4 : Int) (x1_5 : Int) (x1_6 : Int) (x1_7 : Int) (x1_8 : Int) (x1_9 : Bool) (x2 : Int) (x3_0 : Int) (x3_1 : Int) (x3_2 : Int) (x3_3 : Int) : evG Try.prog tabPa1 2000 31 [0, 1, 2, 3, 4, 5, 7, 8, 9, 10, 24, 40, 59, 66, 74] [] [] [.g [.int true .i64 x0_0, .int true .i64 x0_1, .int true .i64 x0_2, .int true .i64 x0_3, .int true .i64 x0_4, .int true .i64 x0_5], .g [.int true .i64 x1_0, .int true .i64 x1_1, .int true .i64 x1_2, .int true .i64 x1_3, .int true .i64 x1_4, .int true .i64 x1_5, .int true .i64 x1_6, .int true .i64 x1_7, .int true .i64 x1_8, .bool true x1_9], .a (.int true .i64 x2), .g [.int true .i64 x3_0, .int true .i64 x3_1, .int true .i64 x3_2, .int true .i64 x3_3]] [] = some ([], LV.g [At.int true IntKind.i64 (rPut_0 x0_0 x0_4 x0_5 x1_0 x1_1 x1_2 x1_3 x1_7 x1_8 x2 x3_0 x3_3), At.int true IntKind.i64 (rPut_1 x0_1 x0_4 x0_5 x1_0 x1_1 x1_2 x1_3 x1_7 x1_8 x2 x3_1 x3_3), At.int true IntKind.i64 (rPut_2 x0_2 x0_4 x0_5 x1_0 x1_1 x1_2 x1_3 x1_7 x1_8 x2 x3_2 x3_3), At.int true IntKind.i64 (rPut_3 x0_3 x0_4 x0_5 x1_0 x1_1 x1_2 x1_3 x1_7 x1_8 x2 x3_3), At.int true IntKind.i64 (rPut_4 x0_4 x0_5 x1_0 x1_1 x1_2 x1_3 x1_9 x2), At.int true IntKind.i64 (rPut_5 x0_4 x0_5 x1_0 x1_1 x1_2 x1_3 x1_4 x1_5 x1_6 x2)], []) := by kernel_rfl
def rPut_c : Con
  | [.g [.int true .i64 x0_0, .int true .i64 x0_1, .int true .i64 x0_2, .int true .i64 x0_3, .int true .i64 x0_4, .int true .i64 x0_5], .g [.int true .i64 x1_0, .int true .i64 x1_1, .int true .i64 x1_2, .int true .i64 x1_3, .int true .i64 x1_4, .int true .i64 x1_5, .int true .i64 x1_6, .int true .i64 x1_7, .int true .i64 x1_8, .bool true x1_9], .a (.int true .i64 x2), .g [.int true .i64 x3_0, .int true .i64 x3_1, .int true .i64 x3_2, .int true .i64 x3_3]], [] => some ([], LV.g [At.int true IntKind.i64 (rPut_0 x0_0 x0_4 x0_5 x1_0 x1_1 x1_2 x1_3 x1_7 x1_8 x2 x3_0 x3_3), At.int true IntKind.i64 (rPut_1 x0_1 x0_4 x0_5 x1_0 x1_1 x1_2 x1_3 x1_7 x1_8 x2 x3_1 x3_3), At.int true IntKind.i64 (rPut_2 x0_2 x0_4 x0_5 x1_0 x1_1 x1_2 x1_3 x1_7 x1_8 x2 x3_2 x3_3), At.int true IntKind.i64 (rPut_3 x0_3 x0_4 x0_5 x1_0 x1_1 x1_2 x1_3 x1_7 x1_8 x2 x3_3), At.int true IntKind.i64 (rPut_4 x0_4 x0_5 x1_0 x1_1 x1_2 x1_3 x1_9 x2), At.int true IntKind.i64 (rPut_5 x0_4 x0_5 x1_0 x1_1 x1_2 x1_3 x1_4 x1_5 x1_6 x2)], [])
  | _, _ => none
theorem rPut_ok : ConOK Try.prog 31 (normC rPut_c) := normC_ok (by
  intro args bs obs lv out h ho φ vs w may ha hM
  unfold rPut_c at h
  split at h
  · simp only [Option.some.injEq, Prod.mk.injEq] at h
    obtain ⟨rfl, rfl, rfl⟩ := h
    rename_i x0_0 x0_1 x0_2 x0_3 x0_4 x0_5 x1_0 x1_1 x1_2 x1_3 x1_4 x1_5 x1_6 x1_7 x1_8 x1_9 x2 x3_0 x3_1 x3_2 x3_3
    exact evG_ok tabPa1_ok follows _ _ _ _ _ (rPut_p x0_0 x0_1 x0_2 x0_3 x0_4 x0_5 x1_0 x1_1 x1_2 x1_3 x1_4 x1_5 x1_6 x1_7 x1_8 x1_9 x2 x3_0 x3_1 x3_2 x3_3) ho φ vs w may ha hM
  · cases h)
theorem rPut_en : Enters Try.prog 31 := fun args => by kernel_rfl
-- 813 129 20 ms

/-! azulejo/pixel.Blend -/
def pBlend_s0 : Int := Int.ofNat ((2 : Nat) ^ IntKind.bits IntKind.u8)
def pBlend_s1 : Nat := Int.toNat ((1 : Int) % pBlend_s0)
def pBlend_s2 (x2_3 : Int) : Int := IntKind.wrap IntKind.i64 ((255 : Int) - IntKind.wrap IntKind.i64 x2_3)
def pBlend_s3 (x2_0 : Int) (x3_0 : Int) : Int := IntKind.wrap IntKind.i64 (IntKind.wrap IntKind.i64 x2_0 + IntKind.wrap IntKind.i64 x3_0)
def pBlend_0 (x0 : Int) (x1 : Int) (x2_0 : Int) (x2_3 : Int) (x3_0 : Int) : Int := bif IntKind.wrap IntKind.u8 (Int.ofNat (Int.toNat (Int.fdiv x1 ((2 : Int) ^ min (Int.toNat (0 : Int)) (IntKind.bits IntKind.u8)) % pBlend_s0) &&& pBlend_s1)) == (0 : Int) then x3_0 else IntKind.wrap IntKind.u8 (bif x0 == (1 : Int) then IntKind.wrap IntKind.i64 (Int.tdiv (IntKind.wrap IntKind.i64 (IntKind.wrap IntKind.i64 (IntKind.wrap IntKind.i64 (IntKind.wrap IntKind.i64 x2_0 * IntKind.wrap IntKind.i64 x2_3) + IntKind.wrap IntKind.i64 (IntKind.wrap IntKind.i64 x3_0 * pBlend_s2 x2_3)) + (127 : Int))) (255 : Int)) else bif x0 == (2 : Int) then if (255 : Int) < pBlend_s3 x2_0 x3_0 then (255 : Int) else pBlend_s3 x2_0 x3_0 else bif x0 == (3 : Int) then pPart_0 (IntKind.wrap IntKind.i64 x2_0) (IntKind.wrap IntKind.i64 x3_0) else IntKind.wrap IntKind.i64 x2_0)
def pBlend_s4 : Int := IntKind.wrap IntKind.i64 ((0 : Int) + (1 : Int))
def pBlend_s5 (x2_1 : Int) (x3_1 : Int) : Int := IntKind.wrap IntKind.i64 (IntKind.wrap IntKind.i64 x2_1 + IntKind.wrap IntKind.i64 x3_1)
def pBlend_1 (x0 : Int) (x1 : Int) (x2_1 : Int) (x2_3 : Int) (x3_1 : Int) : Int := bif IntKind.wrap IntKind.u8 (Int.ofNat (Int.toNat (Int.fdiv x1 ((2 : Int) ^ min (Int.toNat pBlend_s4) (IntKind.bits IntKind.u8)) % pBlend_s0) &&& pBlend_s1)) == (0 : Int) then x3_1 else IntKind.wrap IntKind.u8 (bif x0 == (1 : Int) then IntKind.wrap IntKind.i64 (Int.tdiv (IntKind.wrap IntKind.i64 (IntKind.wrap IntKind.i64 (IntKind.wrap IntKind.i64 (IntKind.wrap IntKind.i64 x2_1 * IntKind.wrap IntKind.i64 x2_3) + IntKind.wrap IntKind.i64 (IntKind.wrap IntKind.i64 x3_1 * pBlend_s2 x2_3)) + (127 : Int))) (255 : Int)) else bif x0 == (2 : Int) then if (255 : Int) < pBlend_s5 x2_1 x3_1 then (255 : Int) else pBlend_s5 x2_1 x3_1 else bif x0 == (3 : Int) then pPart_0 (IntKind.wrap IntKind.i64 x2_1) (IntKind.wrap IntKind.i64 x3_1) else IntKind.wrap IntKind.i64 x2_1)
def pBlend_s6 : Int := IntKind.wrap IntKind.i64 (pBlend_s4 + (1 : Int))
def pBlend_s7 (x2_2 : Int) (x3_2 : Int) : Int := IntKind.wrap IntKind.i64 (IntKind.wrap IntKind.i64 x2_2 + IntKind.wrap IntKind.i64 x3_2)
def pBlend_2 (x0 : Int) (x1 : Int) (x2_2 : Int) (x2_3 : Int) (x3_2 : Int) : Int := bif IntKind.wrap IntKind.u8 (Int.ofNat (Int.toNat (Int.fdiv x1 ((2 : Int) ^ min (Int.toNat pBlend_s6) (IntKind.bits IntKind.u8)) % pBlend_s0) &&& pBlend_s1)) == (0 : Int) then x3_2 else IntKind.wrap IntKind.u8 (bif x0 == (1 : Int) then IntKind.wrap IntKind.i64 (Int.tdiv (IntKind.wrap IntKind.i64 (IntKind.wrap IntKind.i64 (IntKind.wrap IntKind.i64 (IntKind.wrap IntKind.i64 x2_2 * IntKind.wrap IntKind.i64 x2_3) + IntKind.wrap IntKind.i64 (IntKind.wrap IntKind.i64 x3_2 * pBlend_s2 x2_3)) + (127 : Int))) (255 : Int)) else bif x0 == (2 : Int) then if (255 : Int) < pBlend_s7 x2_2 x3_2 then (255 : Int) else pBlend_s7 x2_2 x3_2 else bif x0 == (3 : Int) then pPart_0 (IntKind.wrap IntKind.i64 x2_2) (IntKind.wrap IntKind.i64 x3_2) else IntKind.wrap IntKind.i64 x2_2)
def pBlend_s8 (x2_3 : Int) (x3_3 : Int) : Int := IntKind.wrap IntKind.i64 (IntKind.wrap IntKind.i64 x2_3 + IntKind.wrap IntKind.i64 x3_3)
def pBlend_3 (x0 : Int) (x1 : Int) (x2_3 : Int) (x3_3 : Int) : Int := bif IntKind.wrap IntKind.u8 (Int.ofNat (Int.toNat (Int.fdiv x1 ((2 : Int) ^ min (Int.toNat (IntKind.wrap IntKind.i64 (pBlend_s6 + (1 : Int)))) (IntKind.bits IntKind.u8)) % pBlend_s0) &&& pBlend_s1)) == (0 : Int) then x3_3 else IntKind.wrap IntKind.u8 (bif x0 == (1 : Int) then IntKind.wrap IntKind.i64 (Int.tdiv (IntKind.wrap IntKind.i64 (IntKind.wrap IntKind.i64 (IntKind.wrap IntKind.i64 (IntKind.wrap IntKind.i64 x2_3 * IntKind.wrap IntKind.i64 x2_3) + IntKind.wrap IntKind.i64 (IntKind.wrap IntKind.i64 x3_3 * pBlend_s2 x2_3)) + (127 : Int))) (255 : Int)) else bif x0 == (2 : Int) then if (255 : Int) < pBlend_s8 x2_3 x3_3 then (255 : Int) else pBlend_s8 x2_3 x3_3 else bif x0 == (3 : Int) then pPart_0 (IntKind.wrap IntKind.i64 x2_3) (IntKind.wrap IntKind.i64 x3_3) else IntKind.wrap IntKind.i64 x2_3)
theorem pBlend_p (x0 : Int) (x1 : Int) (x2_0 : Int) (x2_1 : Int) (x2_2 : Int) (x2_3 : Int) (x3_0 : Int) (x3_1 : Int) (x3_2 : Int) (x3_3 : Int) : evG Try.prog tabPa1 2000 35 [0, 1, 2, 3, 6, 7, 8, 9, 10, 11, 12, 13, 18, 19, 25, 34, 35, 47, 53] [] [] [.a (.int true .u8 x0), .a (.int true .u8 x1), .g [.int true .u8 x2_0, .int true .u8 x2_1, .int true .u8 x2_2, .int true .u8 x2_3], .g [.int true .u8 x3_0, .int true .u8 x3_1, .int true .u8 x3_2, .int true .u8 x3_3]] [] = some ([], LV.g [At.int true IntKind.u8 (pBlend_0 x0 x1 x2_0 x2_3 x3_0), At.int true IntKind.u8 (pBlend_1 x0 x1 x2_1 x2_3 x3_1), At.int true IntKind.u8 (pBlend_2 x0 x1 x2_2 x2_3 x3_2), At.int true IntKind.u8 (pBlend_3 x0 x1 x2_3 x3_3)], []) := by kernel_rfl
def pBlend_c : Con
  | [.a (.int true .u8 x0), .a (.int true .u8 x1), .g [.int true .u8 x2_0, .int true .u8 x2_1, .int true .u8 x2_2, .int true .u8 x2_3], .g [.int true .u8 x3_0, .int true .u8 x3_1, .int true .u8 x3_2, .int true .u8 x3_3]], [] => some ([], LV.g [At.int true IntKind.u8 (pBlend_0 x0 x1 x2_0 x2_3 x3_0), At.int true IntKind.u8 (pBlend_1 x0 x1 x2_1 x2_3 x3_1), At.int true IntKind.u8 (pBlend_2 x0 x1 x2_2 x2_3 x3_2), At.int true IntKind.u8 (pBlend_3 x0 x1 x2_3 x3_3)], [])
  | _, _ => none
theorem pBlend_ok : ConOK Try.prog 35 (normC pBlend_c) := normC_ok (by
  intro args bs obs lv out h ho φ vs w may ha hM
  unfold pBlend_c at h
  split at h
  · simp only [Option.some.injEq, Prod.mk.injEq] at h
    obtain ⟨rfl, rfl, rfl⟩ := h
    rename_i x0 x1 x2_0 x2_1 x2_2 x2_3 x3_0 x3_1 x3_2 x3_3
    exact evG_ok tabPa1_ok follows _ _ _ _ _ (pBlend_p x0 x1 x2_0 x2_1 x2_2 x2_3 x3_0 x3_1 x3_2 x3_3) ho φ vs w may ha hM
  · cases h)
theorem pBlend_en : Enters Try.prog 35 := fun args => by kernel_rfl
-- 758 25 30 ms

/-! azulejo/pixel.Bytes -/
def pBytes_s0 : Int := (2 : Int) ^ min (Int.toNat (16 : Int)) (IntKind.bits IntKind.i64)
def pBytes_0 (x0_0 : Int) : Int := IntKind.wrap IntKind.u8 (Int.fdiv (IntKind.wrap IntKind.i64 (IntKind.wrap IntKind.i64 (vmColour_0 x0_0 * (255 : Int)) + (32768 : Int))) pBytes_s0)
def pBytes_1 (x0_1 : Int) : Int := IntKind.wrap IntKind.u8 (Int.fdiv (IntKind.wrap IntKind.i64 (IntKind.wrap IntKind.i64 (vmColour_1 x0_1 * (255 : Int)) + (32768 : Int))) pBytes_s0)
def pBytes_2 (x0_2 : Int) : Int := IntKind.wrap IntKind.u8 (Int.fdiv (IntKind.wrap IntKind.i64 (IntKind.wrap IntKind.i64 (vmColour_2 x0_2 * (255 : Int)) + (32768 : Int))) pBytes_s0)
def pBytes_3 (x0_3 : Int) : Int := IntKind.wrap IntKind.u8 (Int.fdiv (IntKind.wrap IntKind.i64 (IntKind.wrap IntKind.i64 (vmColour_3 x0_3 * (255 : Int)) + (32768 : Int))) pBytes_s0)
theorem pBytes_p (x0_0 : Int) (x0_1 : Int) (x0_2 : Int) (x0_3 : Int) : evG Try.prog tabPa1 2000 36 [0, 1, 2, 3, 4, 5, 7, 8, 9] [] [] [.g [.int true .i64 x0_0, .int true .i64 x0_1, .int true .i64 x0_2, .int true .i64 x0_3]] [] = some ([], LV.g [At.int true IntKind.u8 (pBytes_0 x0_0), At.int true IntKind.u8 (pBytes_1 x0_1), At.int true IntKind.u8 (pBytes_2 x0_2), At.int true IntKind.u8 (pBytes_3 x0_3)], []) := by kernel_rfl
def pBytes_c : Con
  | [.g [.int true .i64 x0_0, .int true .i64 x0_1, .int true .i64 x0_2, .int true .i64 x0_3]], [] => some ([], LV.g [At.int true IntKind.u8 (pBytes_0 x0_0), At.int true IntKind.u8 (pBytes_1 x0_1), At.int true IntKind.u8 (pBytes_2 x0_2), At.int true IntKind.u8 (pBytes_3 x0_3)], [])
  | _, _ => none
theorem pBytes_ok : ConOK Try.prog 36 (normC pBytes_c) := normC_ok (by
  intro args bs obs lv out h ho φ vs w may ha hM
  unfold pBytes_c at h
  split at h
  · simp only [Option.some.injEq, Prod.mk.injEq] at h
    obtain ⟨rfl, rfl, rfl⟩ := h
    rename_i x0_0 x0_1 x0_2 x0_3
    exact evG_ok tabPa1_ok follows _ _ _ _ _ (pBytes_p x0_0 x0_1 x0_2 x0_3) ho φ vs w may ha hM
  · cases h)
theorem pBytes_en : Enters Try.prog 36 := fun args => by kernel_rfl
-- 194 5 8 ms

/-! (azulejo/pixel.Pixel).Sees -/
def pSees_0 (x0_0 : Int) (x0_4 : Int) (x1_0 : Int) (x2 : Int) : Int := bif !stHolds_0 x1_0 x2 x0_4 then x0_0 else x0_0
def pSees_1 (x0_1 : Int) (x0_4 : Int) (x1_0 : Int) (x2 : Int) : Int := bif !stHolds_0 x1_0 x2 x0_4 then x0_1 else x0_1
def pSees_2 (x0_2 : Int) (x0_4 : Int) (x1_0 : Int) (x2 : Int) : Int := bif !stHolds_0 x1_0 x2 x0_4 then x0_2 else x0_2
def pSees_3 (x0_3 : Int) (x0_4 : Int) (x1_0 : Int) (x2 : Int) : Int := bif !stHolds_0 x1_0 x2 x0_4 then x0_3 else x0_3
def pSees_s0 (x2 : Int) : Int := if x2 < (0 : Int) then (0 : Int) else x2
def pSees_4 (x0_4 : Int) (x1_0 : Int) (x1_1 : Bool) (x2 : Int) : Int := bif !stHolds_0 x1_0 x2 x0_4 then x0_4 else bif x1_1 then if (65535 : Int) < pSees_s0 x2 then (65535 : Int) else pSees_s0 x2 else x0_4
def pSees_5 (x0_4 : Int) (x0_5 : Int) (x1_0 : Int) (x2 : Int) : Int := bif !stHolds_0 x1_0 x2 x0_4 then x0_5 else x0_5
def pSees_6 (x0_4 : Int) (x1_0 : Int) (x2 : Int) : Bool := bif !stHolds_0 x1_0 x2 x0_4 then false else true
theorem pSees_p (x0_0 : Int) (x0_1 : Int) (x0_2 : Int) (x0_3 : Int) (x0_4 : Int) (x0_5 : Int) (x1_0 : Int) (x1_1 : Bool) (x1_2 : Int) (x1_3 : Int) (x1_4 : Int) (x1_5 : Int) (x1_6 : Int) (x1_7 : Int) (x1_8 : Int) (x1_9 : Int) (x1_10 : Int) (x1_11 : Int) (x1_12 : Int) (x1_13 : Int) (x1_14 : Int) (x2 : Int) : evG Try.prog tabPa1 2000 39 [0, 1, 2, 3, 4, 6, 7, 14, 17] [] [] [.g [.int true .u8 x0_0, .int true .u8 x0_1, .int true .u8 x0_2, .int true .u8 x0_3, .int true .i64 x0_4, .int true .u8 x0_5], .g [.int true .u8 x1_0, .bool true x1_1, .int true .u8 x1_2, .int true .u8 x1_3, .int true .u8 x1_4, .int true .u8 x1_5, .int true .u8 x1_6, .int true .u8 x1_7, .int true .u8 x1_8, .int true .u8 x1_9, .int true .u8 x1_10, .int true .i64 x1_11, .int true .i64 x1_12, .int true .i64 x1_13, .int true .i64 x1_14], .a (.int true .i64 x2)] [] = some ([], LV.t [LV.g [At.int true IntKind.u8 (pSees_0 x0_0 x0_4 x1_0 x2), At.int true IntKind.u8 (pSees_1 x0_1 x0_4 x1_0 x2), At.int true IntKind.u8 (pSees_2 x0_2 x0_4 x1_0 x2), At.int true IntKind.u8 (pSees_3 x0_3 x0_4 x1_0 x2), At.int true IntKind.i64 (pSees_4 x0_4 x1_0 x1_1 x2), At.int true IntKind.u8 (pSees_5 x0_4 x0_5 x1_0 x2)], LV.a (At.bool true (pSees_6 x0_4 x1_0 x2))], []) := by kernel_rfl
def pSees_c : Con
  | [.g [.int true .u8 x0_0, .int true .u8 x0_1, .int true .u8 x0_2, .int true .u8 x0_3, .int true .i64 x0_4, .int true .u8 x0_5], .g [.int true .u8 x1_0, .bool true x1_1, .int true .u8 x1_2, .int true .u8 x1_3, .int true .u8 x1_4, .int true .u8 x1_5, .int true .u8 x1_6, .int true .u8 x1_7, .int true .u8 x1_8, .int true .u8 x1_9, .int true .u8 x1_10, .int true .i64 x1_11, .int true .i64 x1_12, .int true .i64 x1_13, .int true .i64 x1_14], .a (.int true .i64 x2)], [] => some ([], LV.t [LV.g [At.int true IntKind.u8 (pSees_0 x0_0 x0_4 x1_0 x2), At.int true IntKind.u8 (pSees_1 x0_1 x0_4 x1_0 x2), At.int true IntKind.u8 (pSees_2 x0_2 x0_4 x1_0 x2), At.int true IntKind.u8 (pSees_3 x0_3 x0_4 x1_0 x2), At.int true IntKind.i64 (pSees_4 x0_4 x1_0 x1_1 x2), At.int true IntKind.u8 (pSees_5 x0_4 x0_5 x1_0 x2)], LV.a (At.bool true (pSees_6 x0_4 x1_0 x2))], [])
  | _, _ => none
theorem pSees_ok : ConOK Try.prog 39 (normC pSees_c) := normC_ok (by
  intro args bs obs lv out h ho φ vs w may ha hM
  unfold pSees_c at h
  split at h
  · simp only [Option.some.injEq, Prod.mk.injEq] at h
    obtain ⟨rfl, rfl, rfl⟩ := h
    rename_i x0_0 x0_1 x0_2 x0_3 x0_4 x0_5 x1_0 x1_1 x1_2 x1_3 x1_4 x1_5 x1_6 x1_7 x1_8 x1_9 x1_10 x1_11 x1_12 x1_13 x1_14 x2
    exact evG_ok tabPa1_ok follows _ _ _ _ _ (pSees_p x0_0 x0_1 x0_2 x0_3 x0_4 x0_5 x1_0 x1_1 x1_2 x1_3 x1_4 x1_5 x1_6 x1_7 x1_8 x1_9 x1_10 x1_11 x1_12 x1_13 x1_14 x2) ho φ vs w may ha hM
  · cases h)
theorem pSees_en : Enters Try.prog 39 := fun args => by kernel_rfl
-- 163 18 10 ms

def tabPa2 : Tab := (93, normC eNear_c) :: (73, normC rSide_c) :: (58, normC vWithin_c) :: (31, normC rPut_c) :: (35, normC pBlend_c) :: (36, normC pBytes_c) :: (39, normC pSees_c) :: tabPa1
theorem tabPa2_ok : TOK Try.prog tabPa2 := TOK.cons eNear_en eNear_ok (TOK.cons rSide_en rSide_ok (TOK.cons vWithin_en vWithin_ok (TOK.cons rPut_en rPut_ok (TOK.cons pBlend_en pBlend_ok (TOK.cons pBytes_en pBytes_ok (TOK.cons pSees_en pSees_ok (tabPa1_ok)))))))

end Go.Proofs.Ytbdmaepooahplaa

namespace Go.Proofs.Ytbdmaepooahplaa
open Go Go.RowKit Go.Proofs.Ytbdmaepooahplaa.V
set_option linter.unusedVariables false

/-! azulejo/edge.Side -/
def eSide_0 (x0_0 : Int) (x0_1 : Int) (x1_0 : Int) (x1_1 : Int) (x2_0 : Int) (x2_1 : Int) : Int := IntKind.wrap IntKind.i64 (IntKind.wrap IntKind.i64 (IntKind.wrap IntKind.i64 (eNear_0 x1_0 - eNear_0 x0_0) * IntKind.wrap IntKind.i64 (eNear_1 x2_1 - eNear_1 x0_1)) - IntKind.wrap IntKind.i64 (IntKind.wrap IntKind.i64 (eNear_1 x1_1 - eNear_1 x0_1) * IntKind.wrap IntKind.i64 (eNear_0 x2_0 - eNear_0 x0_0)))
theorem eSide_p (x0_0 : Int) (x0_1 : Int) (x1_0 : Int) (x1_1 : Int) (x2_0 : Int) (x2_1 : Int) : evG Try.prog tabPa2 2000 89 [0, 1, 2, 3, 4, 5, 6] [] [] [.g [.int true .i64 x0_0, .int true .i64 x0_1], .g [.int true .i64 x1_0, .int true .i64 x1_1], .g [.int true .i64 x2_0, .int true .i64 x2_1]] [] = some ([], LV.a (At.int true IntKind.i64 (eSide_0 x0_0 x0_1 x1_0 x1_1 x2_0 x2_1)), []) := by kernel_rfl
def eSide_c : Con
  | [.g [.int true .i64 x0_0, .int true .i64 x0_1], .g [.int true .i64 x1_0, .int true .i64 x1_1], .g [.int true .i64 x2_0, .int true .i64 x2_1]], [] => some ([], LV.a (At.int true IntKind.i64 (eSide_0 x0_0 x0_1 x1_0 x1_1 x2_0 x2_1)), [])
  | _, _ => none
theorem eSide_ok : ConOK Try.prog 89 (normC eSide_c) := normC_ok (by
  intro args bs obs lv out h ho φ vs w may ha hM
  unfold eSide_c at h
  split at h
  · simp only [Option.some.injEq, Prod.mk.injEq] at h
    obtain ⟨rfl, rfl, rfl⟩ := h
    rename_i x0_0 x0_1 x1_0 x1_1 x2_0 x2_1
    exact evG_ok tabPa2_ok follows _ _ _ _ _ (eSide_p x0_0 x0_1 x1_0 x1_1 x2_0 x2_1) ho φ vs w may ha hM
  · cases h)
theorem eSide_en : Enters Try.prog 89 := fun args => by kernel_rfl
-- 127 5 3 ms

/-! azulejo/edge.Owns -/
def eOwns_0 (x0_0 : Int) (x0_1 : Int) (x1_0 : Int) (x1_1 : Int) : Bool := bif decide (eNear_1 x1_1 < eNear_1 x0_1) then true else bif eNear_1 x0_1 == eNear_1 x1_1 then decide (eNear_0 x0_0 < eNear_0 x1_0) else false
theorem eOwns_p (x0_0 : Int) (x0_1 : Int) (x1_0 : Int) (x1_1 : Int) : evG Try.prog tabPa2 2000 83 [0, 1, 2, 3, 4] [] [] [.g [.int true .i64 x0_0, .int true .i64 x0_1], .g [.int true .i64 x1_0, .int true .i64 x1_1]] [] = some ([], LV.a (At.bool true (eOwns_0 x0_0 x0_1 x1_0 x1_1)), []) := by kernel_rfl
def eOwns_c : Con
  | [.g [.int true .i64 x0_0, .int true .i64 x0_1], .g [.int true .i64 x1_0, .int true .i64 x1_1]], [] => some ([], LV.a (At.bool true (eOwns_0 x0_0 x0_1 x1_0 x1_1)), [])
  | _, _ => none
theorem eOwns_ok : ConOK Try.prog 83 (normC eOwns_c) := normC_ok (by
  intro args bs obs lv out h ho φ vs w may ha hM
  unfold eOwns_c at h
  split at h
  · simp only [Option.some.injEq, Prod.mk.injEq] at h
    obtain ⟨rfl, rfl, rfl⟩ := h
    rename_i x0_0 x0_1 x1_0 x1_1
    exact evG_ok tabPa2_ok follows _ _ _ _ _ (eOwns_p x0_0 x0_1 x1_0 x1_1) ho φ vs w may ha hM
  · cases h)
theorem eOwns_en : Enters Try.prog 83 := fun args => by kernel_rfl
-- 115 9 2 ms

/-! azulejo/azulejoref01.Covers -/
def rCovers_s0 (x0_0 : Int) (x0_1 : Int) (x0_2 : Int) (x0_3 : Int) (x1_0 : Int) (x1_1 : Int) : Bool := decide (rSide_0 x0_0 x0_1 x0_2 x0_3 x1_0 x1_1 < (0 : Int))
def rCovers_s1 (x0_0 : Int) (x0_1 : Int) (x0_2 : Int) (x0_3 : Int) (x1_0 : Int) (x1_1 : Int) : Bool := bif rSide_0 x0_0 x0_1 x0_2 x0_3 x1_0 x1_1 == (0 : Int) then bif !decide (rNear_0 x0_3 < rNear_0 x0_1) then !bif rNear_0 x0_3 == rNear_0 x0_1 then decide (rNear_0 x0_0 < rNear_0 x0_2) else false else false else false
def rCovers_s2 (x0_2 : Int) (x0_3 : Int) (x0_4 : Int) (x0_5 : Int) (x1_0 : Int) (x1_1 : Int) : Bool := decide (rSide_0 x0_2 x0_3 x0_4 x0_5 x1_0 x1_1 < (0 : Int))
def rCovers_s3 (x0_2 : Int) (x0_3 : Int) (x0_4 : Int) (x0_5 : Int) (x1_0 : Int) (x1_1 : Int) : Bool := bif rSide_0 x0_2 x0_3 x0_4 x0_5 x1_0 x1_1 == (0 : Int) then bif !decide (rNear_0 x0_5 < rNear_0 x0_3) then !bif rNear_0 x0_5 == rNear_0 x0_3 then decide (rNear_0 x0_2 < rNear_0 x0_4) else false else false else false
def rCovers_s4 (x0_0 : Int) (x0_1 : Int) (x0_4 : Int) (x0_5 : Int) (x1_0 : Int) (x1_1 : Int) : Bool := decide (rSide_0 x0_4 x0_5 x0_0 x0_1 x1_0 x1_1 < (0 : Int))
def rCovers_0 (x0_0 : Int) (x0_1 : Int) (x0_2 : Int) (x0_3 : Int) (x0_4 : Int) (x0_5 : Int) (x1_0 : Int) (x1_1 : Int) : Bool := bif decide (rSide_0 x0_0 x0_1 x0_2 x0_3 x0_4 x0_5 ≤ (0 : Int)) then false else bif rCovers_s0 x0_0 x0_1 x0_2 x0_3 x1_0 x1_1 || !rCovers_s0 x0_0 x0_1 x0_2 x0_3 x1_0 x1_1 && rCovers_s1 x0_0 x0_1 x0_2 x0_3 x1_0 x1_1 || !rCovers_s0 x0_0 x0_1 x0_2 x0_3 x1_0 x1_1 && !rCovers_s1 x0_0 x0_1 x0_2 x0_3 x1_0 x1_1 && (rCovers_s2 x0_2 x0_3 x0_4 x0_5 x1_0 x1_1 || !rCovers_s2 x0_2 x0_3 x0_4 x0_5 x1_0 x1_1 && rCovers_s3 x0_2 x0_3 x0_4 x0_5 x1_0 x1_1 || !rCovers_s2 x0_2 x0_3 x0_4 x0_5 x1_0 x1_1 && !rCovers_s3 x0_2 x0_3 x0_4 x0_5 x1_0 x1_1 && (rCovers_s4 x0_0 x0_1 x0_4 x0_5 x1_0 x1_1 || !rCovers_s4 x0_0 x0_1 x0_4 x0_5 x1_0 x1_1 && bif rSide_0 x0_4 x0_5 x0_0 x0_1 x1_0 x1_1 == (0 : Int) then bif !decide (rNear_0 x0_1 < rNear_0 x0_5) then !bif rNear_0 x0_1 == rNear_0 x0_5 then decide (rNear_0 x0_4 < rNear_0 x0_0) else false else false else false)) then false else true
theorem rCovers_p (x0_0 : Int) (x0_1 : Int) (x0_2 : Int) (x0_3 : Int) (x0_4 : Int) (x0_5 : Int) (x1_0 : Int) (x1_1 : Int) : evG Try.prog tabPa2 2000 72 [0, 1, 2, 3, 4, 5, 6, 7, 8, 9, 10, 18, 20, 36, 69] [] [] [.g [.int true .i64 x0_0, .int true .i64 x0_1, .int true .i64 x0_2, .int true .i64 x0_3, .int true .i64 x0_4, .int true .i64 x0_5], .g [.int true .i64 x1_0, .int true .i64 x1_1]] [] = some ([], LV.a (At.bool true (rCovers_0 x0_0 x0_1 x0_2 x0_3 x0_4 x0_5 x1_0 x1_1)), []) := by kernel_rfl
def rCovers_c : Con
  | [.g [.int true .i64 x0_0, .int true .i64 x0_1, .int true .i64 x0_2, .int true .i64 x0_3, .int true .i64 x0_4, .int true .i64 x0_5], .g [.int true .i64 x1_0, .int true .i64 x1_1]], [] => some ([], LV.a (At.bool true (rCovers_0 x0_0 x0_1 x0_2 x0_3 x0_4 x0_5 x1_0 x1_1)), [])
  | _, _ => none
theorem rCovers_ok : ConOK Try.prog 72 (normC rCovers_c) := normC_ok (by
  intro args bs obs lv out h ho φ vs w may ha hM
  unfold rCovers_c at h
  split at h
  · simp only [Option.some.injEq, Prod.mk.injEq] at h
    obtain ⟨rfl, rfl, rfl⟩ := h
    rename_i x0_0 x0_1 x0_2 x0_3 x0_4 x0_5 x1_0 x1_1
    exact evG_ok tabPa2_ok follows _ _ _ _ _ (rCovers_p x0_0 x0_1 x0_2 x0_3 x0_4 x0_5 x1_0 x1_1) ho φ vs w may ha hM
  · cases h)
theorem rCovers_en : Enters Try.prog 72 := fun args => by kernel_rfl
-- 1016 138 13 ms

/-! (azulejo/pixel.Pixel).Put -/
def pPut_s0 : Int := Int.ofNat ((2 : Nat) ^ IntKind.bits IntKind.u8)
def pPut_s1 (x0_5 : Int) (x1_2 : Int) (x1_3 : Int) (x1_4 : Int) : Bool := !stHolds_0 x1_2 (IntKind.wrap IntKind.i64 (IntKind.wrap IntKind.u8 (Int.ofNat (Int.toNat (x1_3 % pPut_s0) &&& Int.toNat (x1_4 % pPut_s0))))) (IntKind.wrap IntKind.i64 (IntKind.wrap IntKind.u8 (Int.ofNat (Int.toNat (x0_5 % pPut_s0) &&& Int.toNat (x1_4 % pPut_s0)))))
def pPut_0 (x0_0 : Int) (x0_4 : Int) (x0_5 : Int) (x1_0 : Int) (x1_2 : Int) (x1_3 : Int) (x1_4 : Int) (x1_8 : Int) (x1_9 : Int) (x2 : Int) (x3_0 : Int) (x3_3 : Int) : Int := bif pPut_s1 x0_5 x1_2 x1_3 x1_4 then x0_0 else bif !pSees_6 x0_4 x1_0 x2 then x0_0 else pBlend_0 x1_8 x1_9 (pBytes_0 x3_0) (pBytes_3 x3_3) x0_0
def pPut_1 (x0_1 : Int) (x0_4 : Int) (x0_5 : Int) (x1_0 : Int) (x1_2 : Int) (x1_3 : Int) (x1_4 : Int) (x1_8 : Int) (x1_9 : Int) (x2 : Int) (x3_1 : Int) (x3_3 : Int) : Int := bif pPut_s1 x0_5 x1_2 x1_3 x1_4 then x0_1 else bif !pSees_6 x0_4 x1_0 x2 then x0_1 else pBlend_1 x1_8 x1_9 (pBytes_1 x3_1) (pBytes_3 x3_3) x0_1
def pPut_2 (x0_2 : Int) (x0_4 : Int) (x0_5 : Int) (x1_0 : Int) (x1_2 : Int) (x1_3 : Int) (x1_4 : Int) (x1_8 : Int) (x1_9 : Int) (x2 : Int) (x3_2 : Int) (x3_3 : Int) : Int := bif pPut_s1 x0_5 x1_2 x1_3 x1_4 then x0_2 else bif !pSees_6 x0_4 x1_0 x2 then x0_2 else pBlend_2 x1_8 x1_9 (pBytes_2 x3_2) (pBytes_3 x3_3) x0_2
def pPut_3 (x0_3 : Int) (x0_4 : Int) (x0_5 : Int) (x1_0 : Int) (x1_2 : Int) (x1_3 : Int) (x1_4 : Int) (x1_8 : Int) (x1_9 : Int) (x2 : Int) (x3_3 : Int) : Int := bif pPut_s1 x0_5 x1_2 x1_3 x1_4 then x0_3 else bif !pSees_6 x0_4 x1_0 x2 then x0_3 else pBlend_3 x1_8 x1_9 (pBytes_3 x3_3) x0_3
def pPut_4 (x0_4 : Int) (x0_5 : Int) (x1_0 : Int) (x1_1 : Bool) (x1_2 : Int) (x1_3 : Int) (x1_4 : Int) (x2 : Int) : Int := bif pPut_s1 x0_5 x1_2 x1_3 x1_4 then x0_4 else bif !pSees_6 x0_4 x1_0 x2 then x0_4 else pSees_4 x0_4 x1_0 x1_1 x2
def pPut_5 (x0_4 : Int) (x0_5 : Int) (x1_0 : Int) (x1_2 : Int) (x1_3 : Int) (x1_4 : Int) (x1_5 : Int) (x1_6 : Int) (x1_7 : Int) (x2 : Int) : Int := bif pPut_s1 x0_5 x1_2 x1_3 x1_4 then stDo_0 x1_5 x0_5 x1_3 else bif !pSees_6 x0_4 x1_0 x2 then stDo_0 x1_6 x0_5 x1_3 else stDo_0 x1_7 x0_5 x1_3
theorem pPut_p (x0_0 : Int) (x0_1 : Int) (x0_2 : Int) (x0_3 : Int) (x0_4 : Int) (x0_5 : Int) (x1_0 : Int) (x1_1 : Bool) (x1_2 : Int) (x1_3 : Int) (x1_4 : Int) (x1_5 : Int) (x1_6 : Int) (x1_7 : Int) (x1_8 : Int) (x1_9 : Int) (x1_10 : Int) (x1_11 : Int) (x1_12 : Int) (x1_13 : Int) (x1_14 : Int) (x2 : Int) (x3_0 : Int) (x3_1 : Int) (x3_2 : Int) (x3_3 : Int) : evG Try.prog tabPa2 2000 30 [0, 1, 2, 3, 4, 5, 7, 8, 9, 10, 26, 44] [] [] [.g [.int true .u8 x0_0, .int true .u8 x0_1, .int true .u8 x0_2, .int true .u8 x0_3, .int true .i64 x0_4, .int true .u8 x0_5], .g [.int true .u8 x1_0, .bool true x1_1, .int true .u8 x1_2, .int true .u8 x1_3, .int true .u8 x1_4, .int true .u8 x1_5, .int true .u8 x1_6, .int true .u8 x1_7, .int true .u8 x1_8, .int true .u8 x1_9, .int true .u8 x1_10, .int true .i64 x1_11, .int true .i64 x1_12, .int true .i64 x1_13, .int true .i64 x1_14], .a (.int true .i64 x2), .g [.int true .i64 x3_0, .int true .i64 x3_1, .int true .i64 x3_2, .int true .i64 x3_3]] [] = some ([], LV.g [At.int true IntKind.u8 (pPut_0 x0_0 x0_4 x0_5 x1_0 x1_2 x1_3 x1_4 x1_8 x1_9 x2 x3_0 x3_3), At.int true IntKind.u8 (pPut_1 x0_1 x0_4 x0_5 x1_0 x1_2 x1_3 x1_4 x1_8 x1_9 x2 x3_1 x3_3), At.int true IntKind.u8 (pPut_2 x0_2 x0_4 x0_5 x1_0 x1_2 x1_3 x1_4 x1_8 x1_9 x2 x3_2 x3_3), At.int true IntKind.u8 (pPut_3 x0_3 x0_4 x0_5 x1_0 x1_2 x1_3 x1_4 x1_8 x1_9 x2 x3_3), At.int true IntKind.i64 (pPut_4 x0_4 x0_5 x1_0 x1_1 x1_2 x1_3 x1_4 x2), At.int true IntKind.u8 (pPut_5 x0_4 x0_5 x1_0 x1_2 x1_3 x1_4 x1_5 x1_6 x1_7 x2)], []) := by kernel_rfl
def pPut_c : Con
  | [.g [.int true .u8 x0_0, .int true .u8 x0_1, .int true .u8 x0_2, .int true .u8 x0_3, .int true .i64 x0_4, .int true .u8 x0_5], .g [.int true .u8 x1_0, .bool true x1_1, .int true .u8 x1_2, .int true .u8 x1_3, .int true .u8 x1_4, .int true .u8 x1_5, .int true .u8 x1_6, .int true .u8 x1_7, .int true .u8 x1_8, .int true .u8 x1_9, .int true .u8 x1_10, .int true .i64 x1_11, .int true .i64 x1_12, .int true .i64 x1_13, .int true .i64 x1_14], .a (.int true .i64 x2), .g [.int true .i64 x3_0, .int true .i64 x3_1, .int true .i64 x3_2, .int true .i64 x3_3]], [] => some ([], LV.g [At.int true IntKind.u8 (pPut_0 x0_0 x0_4 x0_5 x1_0 x1_2 x1_3 x1_4 x1_8 x1_9 x2 x3_0 x3_3), At.int true IntKind.u8 (pPut_1 x0_1 x0_4 x0_5 x1_0 x1_2 x1_3 x1_4 x1_8 x1_9 x2 x3_1 x3_3), At.int true IntKind.u8 (pPut_2 x0_2 x0_4 x0_5 x1_0 x1_2 x1_3 x1_4 x1_8 x1_9 x2 x3_2 x3_3), At.int true IntKind.u8 (pPut_3 x0_3 x0_4 x0_5 x1_0 x1_2 x1_3 x1_4 x1_8 x1_9 x2 x3_3), At.int true IntKind.i64 (pPut_4 x0_4 x0_5 x1_0 x1_1 x1_2 x1_3 x1_4 x2), At.int true IntKind.u8 (pPut_5 x0_4 x0_5 x1_0 x1_2 x1_3 x1_4 x1_5 x1_6 x1_7 x2)], [])
  | _, _ => none
theorem pPut_ok : ConOK Try.prog 30 (normC pPut_c) := normC_ok (by
  intro args bs obs lv out h ho φ vs w may ha hM
  unfold pPut_c at h
  split at h
  · simp only [Option.some.injEq, Prod.mk.injEq] at h
    obtain ⟨rfl, rfl, rfl⟩ := h
    rename_i x0_0 x0_1 x0_2 x0_3 x0_4 x0_5 x1_0 x1_1 x1_2 x1_3 x1_4 x1_5 x1_6 x1_7 x1_8 x1_9 x1_10 x1_11 x1_12 x1_13 x1_14 x2 x3_0 x3_1 x3_2 x3_3
    exact evG_ok tabPa2_ok follows _ _ _ _ _ (pPut_p x0_0 x0_1 x0_2 x0_3 x0_4 x0_5 x1_0 x1_1 x1_2 x1_3 x1_4 x1_5 x1_6 x1_7 x1_8 x1_9 x1_10 x1_11 x1_12 x1_13 x1_14 x2 x3_0 x3_1 x3_2 x3_3) ho φ vs w may ha hM
  · cases h)
theorem pPut_en : Enters Try.prog 30 := fun args => by kernel_rfl
-- 495 63 13 ms

def tabPa3 : Tab := (89, normC eSide_c) :: (83, normC eOwns_c) :: (72, normC rCovers_c) :: (30, normC pPut_c) :: tabPa2
theorem tabPa3_ok : TOK Try.prog tabPa3 := TOK.cons eSide_en eSide_ok (TOK.cons eOwns_en eOwns_ok (TOK.cons rCovers_en rCovers_ok (TOK.cons pPut_en pPut_ok (tabPa2_ok))))

end Go.Proofs.Ytbdmaepooahplaa

namespace Go.Proofs.Ytbdmaepooahplaa
open Go Go.RowKit Go.Proofs.Ytbdmaepooahplaa.V
set_option linter.unusedVariables false

/-! (azulejo/edge.Tri).Area -/
def tArea_0 (x0_0 : Int) (x0_1 : Int) (x0_2 : Int) (x0_3 : Int) (x0_4 : Int) (x0_5 : Int) : Int := eSide_0 x0_0 x0_1 x0_2 x0_3 x0_4 x0_5
theorem tArea_p (x0_0 : Int) (x0_1 : Int) (x0_2 : Int) (x0_3 : Int) (x0_4 : Int) (x0_5 : Int) : evG Try.prog tabPa3 2000 68 [0, 1, 2] [] [] [.g [.int true .i64 x0_0, .int true .i64 x0_1, .int true .i64 x0_2, .int true .i64 x0_3, .int true .i64 x0_4, .int true .i64 x0_5]] [] = some ([], LV.a (At.int true IntKind.i64 (tArea_0 x0_0 x0_1 x0_2 x0_3 x0_4 x0_5)), []) := by kernel_rfl
def tArea_c : Con
  | [.g [.int true .i64 x0_0, .int true .i64 x0_1, .int true .i64 x0_2, .int true .i64 x0_3, .int true .i64 x0_4, .int true .i64 x0_5]], [] => some ([], LV.a (At.int true IntKind.i64 (tArea_0 x0_0 x0_1 x0_2 x0_3 x0_4 x0_5)), [])
  | _, _ => none
theorem tArea_ok : ConOK Try.prog 68 (normC tArea_c) := normC_ok (by
  intro args bs obs lv out h ho φ vs w may ha hM
  unfold tArea_c at h
  split at h
  · simp only [Option.some.injEq, Prod.mk.injEq] at h
    obtain ⟨rfl, rfl, rfl⟩ := h
    rename_i x0_0 x0_1 x0_2 x0_3 x0_4 x0_5
    exact evG_ok tabPa3_ok follows _ _ _ _ _ (tArea_p x0_0 x0_1 x0_2 x0_3 x0_4 x0_5) ho φ vs w may ha hM
  · cases h)
theorem tArea_en : Enters Try.prog 68 := fun args => by kernel_rfl
-- 63 1 2 ms

/-! (azulejo/edge.Tri).Weights -/
def tWeights_0 (x0_2 : Int) (x0_3 : Int) (x0_4 : Int) (x0_5 : Int) (x1_0 : Int) (x1_1 : Int) : Int := eSide_0 x0_2 x0_3 x0_4 x0_5 x1_0 x1_1
def tWeights_1 (x0_0 : Int) (x0_1 : Int) (x0_4 : Int) (x0_5 : Int) (x1_0 : Int) (x1_1 : Int) : Int := eSide_0 x0_4 x0_5 x0_0 x0_1 x1_0 x1_1
def tWeights_2 (x0_0 : Int) (x0_1 : Int) (x0_2 : Int) (x0_3 : Int) (x1_0 : Int) (x1_1 : Int) : Int := eSide_0 x0_0 x0_1 x0_2 x0_3 x1_0 x1_1
theorem tWeights_p (x0_0 : Int) (x0_1 : Int) (x0_2 : Int) (x0_3 : Int) (x0_4 : Int) (x0_5 : Int) (x1_0 : Int) (x1_1 : Int) : evG Try.prog tabPa3 2000 70 [0, 1, 2, 3, 4] [] [] [.g [.int true .i64 x0_0, .int true .i64 x0_1, .int true .i64 x0_2, .int true .i64 x0_3, .int true .i64 x0_4, .int true .i64 x0_5], .g [.int true .i64 x1_0, .int true .i64 x1_1]] [] = some ([], LV.g [At.int true IntKind.i64 (tWeights_0 x0_2 x0_3 x0_4 x0_5 x1_0 x1_1), At.int true IntKind.i64 (tWeights_1 x0_0 x0_1 x0_4 x0_5 x1_0 x1_1), At.int true IntKind.i64 (tWeights_2 x0_0 x0_1 x0_2 x0_3 x1_0 x1_1)], []) := by kernel_rfl
def tWeights_c : Con
  | [.g [.int true .i64 x0_0, .int true .i64 x0_1, .int true .i64 x0_2, .int true .i64 x0_3, .int true .i64 x0_4, .int true .i64 x0_5], .g [.int true .i64 x1_0, .int true .i64 x1_1]], [] => some ([], LV.g [At.int true IntKind.i64 (tWeights_0 x0_2 x0_3 x0_4 x0_5 x1_0 x1_1), At.int true IntKind.i64 (tWeights_1 x0_0 x0_1 x0_4 x0_5 x1_0 x1_1), At.int true IntKind.i64 (tWeights_2 x0_0 x0_1 x0_2 x0_3 x1_0 x1_1)], [])
  | _, _ => none
theorem tWeights_ok : ConOK Try.prog 70 (normC tWeights_c) := normC_ok (by
  intro args bs obs lv out h ho φ vs w may ha hM
  unfold tWeights_c at h
  split at h
  · simp only [Option.some.injEq, Prod.mk.injEq] at h
    obtain ⟨rfl, rfl, rfl⟩ := h
    rename_i x0_0 x0_1 x0_2 x0_3 x0_4 x0_5 x1_0 x1_1
    exact evG_ok tabPa3_ok follows _ _ _ _ _ (tWeights_p x0_0 x0_1 x0_2 x0_3 x0_4 x0_5 x1_0 x1_1) ho φ vs w may ha hM
  · cases h)
theorem tWeights_en : Enters Try.prog 70 := fun args => by kernel_rfl
-- 210 1 3 ms

/-! azulejo/azulejolaw19.Awake -/
def aw19_0 : Bool := bif pPut_0 (0 : Int) (0 : Int) (0 : Int) stPlain_0 stPlain_1 stPlain_2 stPlain_3 stPlain_7 stPlain_8 (9 : Int) (65536 : Int) (65536 : Int) == (255 : Int) && (pPut_1 (0 : Int) (0 : Int) (0 : Int) stPlain_0 stPlain_1 stPlain_2 stPlain_3 stPlain_7 stPlain_8 (9 : Int) (0 : Int) (65536 : Int) == (0 : Int) && (pPut_2 (0 : Int) (0 : Int) (0 : Int) stPlain_0 stPlain_1 stPlain_2 stPlain_3 stPlain_7 stPlain_8 (9 : Int) (32768 : Int) (65536 : Int) == (128 : Int) && pPut_3 (0 : Int) (0 : Int) (0 : Int) stPlain_0 stPlain_1 stPlain_2 stPlain_3 stPlain_7 stPlain_8 (9 : Int) (65536 : Int) == (255 : Int))) then pPut_4 (0 : Int) (0 : Int) stPlain_0 false stPlain_1 stPlain_2 stPlain_3 (9 : Int) == (0 : Int) else false
theorem aw19_p  : evG Try.prog tabPa3 2000 27 [0, 1] [] [] [] [] = some ([], LV.a (At.bool true aw19_0), []) := by kernel_rfl
def aw19_c : Con
  | [], [] => some ([], LV.a (At.bool true aw19_0), [])
  | _, _ => none
theorem aw19_ok : ConOK Try.prog 27 (normC aw19_c) := normC_ok (by
  intro args bs obs lv out h ho φ vs w may ha hM
  unfold aw19_c at h
  split at h
  · simp only [Option.some.injEq, Prod.mk.injEq] at h
    obtain ⟨rfl, rfl, rfl⟩ := h
    exact evG_ok tabPa3_ok follows _ _ _ _ _ (aw19_p ) ho φ vs w may ha hM
  · cases h)
theorem aw19_en : Enters Try.prog 27 := fun args => by kernel_rfl
-- 120 3 5 ms

def tabPa4 : Tab := (68, normC tArea_c) :: (70, normC tWeights_c) :: (27, normC aw19_c) :: tabPa3
theorem tabPa4_ok : TOK Try.prog tabPa4 := TOK.cons tArea_en tArea_ok (TOK.cons tWeights_en tWeights_ok (TOK.cons aw19_en aw19_ok (tabPa3_ok)))

end Go.Proofs.Ytbdmaepooahplaa

namespace Go.Proofs.Ytbdmaepooahplaa
open Go Go.RowKit Go.Proofs.Ytbdmaepooahplaa.V
set_option linter.unusedVariables false

/-! (azulejo/edge.Tri).Covers -/
def tCovers_s0 (x0_2 : Int) (x0_3 : Int) (x0_4 : Int) (x0_5 : Int) (x1_0 : Int) (x1_1 : Int) : Bool := bif decide (tWeights_0 x0_2 x0_3 x0_4 x0_5 x1_0 x1_1 < (0 : Int)) then true else bif tWeights_0 x0_2 x0_3 x0_4 x0_5 x1_0 x1_1 == (0 : Int) then !eOwns_0 x0_2 x0_3 x0_4 x0_5 else false
def tCovers_s1 (x0_0 : Int) (x0_1 : Int) (x0_4 : Int) (x0_5 : Int) (x1_0 : Int) (x1_1 : Int) : Bool := bif decide (tWeights_1 x0_0 x0_1 x0_4 x0_5 x1_0 x1_1 < (0 : Int)) then true else bif tWeights_1 x0_0 x0_1 x0_4 x0_5 x1_0 x1_1 == (0 : Int) then !eOwns_0 x0_4 x0_5 x0_0 x0_1 else false
def tCovers_0 (x0_0 : Int) (x0_1 : Int) (x0_2 : Int) (x0_3 : Int) (x0_4 : Int) (x0_5 : Int) (x1_0 : Int) (x1_1 : Int) : Bool := bif decide (tArea_0 x0_0 x0_1 x0_2 x0_3 x0_4 x0_5 ≤ (0 : Int)) then false else bif tCovers_s0 x0_2 x0_3 x0_4 x0_5 x1_0 x1_1 || !tCovers_s0 x0_2 x0_3 x0_4 x0_5 x1_0 x1_1 && (tCovers_s1 x0_0 x0_1 x0_4 x0_5 x1_0 x1_1 || !tCovers_s1 x0_0 x0_1 x0_4 x0_5 x1_0 x1_1 && bif decide (tWeights_2 x0_0 x0_1 x0_2 x0_3 x1_0 x1_1 < (0 : Int)) then true else bif tWeights_2 x0_0 x0_1 x0_2 x0_3 x1_0 x1_1 == (0 : Int) then !eOwns_0 x0_0 x0_1 x0_2 x0_3 else false) then false else true
theorem tCovers_p (x0_0 : Int) (x0_1 : Int) (x0_2 : Int) (x0_3 : Int) (x0_4 : Int) (x0_5 : Int) (x1_0 : Int) (x1_1 : Int) : evG Try.prog tabPa4 2000 49 [0, 1, 2, 3, 4, 5, 6, 9, 12, 13, 14, 36] [] [] [.g [.int true .i64 x0_0, .int true .i64 x0_1, .int true .i64 x0_2, .int true .i64 x0_3, .int true .i64 x0_4, .int true .i64 x0_5], .g [.int true .i64 x1_0, .int true .i64 x1_1]] [] = some ([], LV.a (At.bool true (tCovers_0 x0_0 x0_1 x0_2 x0_3 x0_4 x0_5 x1_0 x1_1)), []) := by kernel_rfl
def tCovers_c : Con
  | [.g [.int true .i64 x0_0, .int true .i64 x0_1, .int true .i64 x0_2, .int true .i64 x0_3, .int true .i64 x0_4, .int true .i64 x0_5], .g [.int true .i64 x1_0, .int true .i64 x1_1]], [] => some ([], LV.a (At.bool true (tCovers_0 x0_0 x0_1 x0_2 x0_3 x0_4 x0_5 x1_0 x1_1)), [])
  | _, _ => none
theorem tCovers_ok : ConOK Try.prog 49 (normC tCovers_c) := normC_ok (by
  intro args bs obs lv out h ho φ vs w may ha hM
  unfold tCovers_c at h
  split at h
  · simp only [Option.some.injEq, Prod.mk.injEq] at h
    obtain ⟨rfl, rfl, rfl⟩ := h
    rename_i x0_0 x0_1 x0_2 x0_3 x0_4 x0_5 x1_0 x1_1
    exact evG_ok tabPa4_ok follows _ _ _ _ _ (tCovers_p x0_0 x0_1 x0_2 x0_3 x0_4 x0_5 x1_0 x1_1) ho φ vs w may ha hM
  · cases h)
theorem tCovers_en : Enters Try.prog 49 := fun args => by kernel_rfl
-- 602 75 8 ms

def tabPa5 : Tab := (49, normC tCovers_c) :: tabPa4
theorem tabPa5_ok : TOK Try.prog tabPa5 := TOK.cons tCovers_en tCovers_ok (tabPa4_ok)

end Go.Proofs.Ytbdmaepooahplaa
