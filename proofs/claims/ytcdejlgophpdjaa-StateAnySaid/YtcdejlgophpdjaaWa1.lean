/-
  Contracts of functions of the program, each run on the local memory (printed by a program of this session's own: wip/tools).
-/
import Derived.Test.YtcdejlgophpdjaaVL
namespace Go.Proofs.Ytcdejlgophpdjaa
open Go Go.RowKit Go.Proofs.Ytcdejlgophpdjaa.V
set_option linter.unusedVariables false

/-! (azulejo/state.Func).Holds -/
def sHolds_s0 : Int := Int.ofNat ((2 : Nat) ^ IntKind.bits IntKind.u8)
def sHolds_0 (x0 : Int) (x1 : Int) (x2 : Int) : Bool := bif bif decide (x1 < x2) then true else x1 == x2 then bif decide (x1 < x2) then IntKind.wrap IntKind.u8 (Int.ofNat (Int.toNat (x0 % sHolds_s0) &&& Int.toNat ((1 : Int) % sHolds_s0))) != (0 : Int) else IntKind.wrap IntKind.u8 (Int.ofNat (Int.toNat (x0 % sHolds_s0) &&& Int.toNat ((2 : Int) % sHolds_s0))) != (0 : Int) else IntKind.wrap IntKind.u8 (Int.ofNat (Int.toNat (x0 % sHolds_s0) &&& Int.toNat ((4 : Int) % sHolds_s0))) != (0 : Int)
theorem sHolds_p (x0 : Int) (x1 : Int) (x2 : Int) : evG Try.prog tabVL 2000 112 [0, 1, 2, 6, 7, 14] [] [] [.a (.int true .u8 x0), .a (.int true .i64 x1), .a (.int true .i64 x2)] [] = some ([], LV.a (At.bool true (sHolds_0 x0 x1 x2)), []) := by kernel_rfl
def sHolds_c : Con
  | [.a (.int true .u8 x0), .a (.int true .i64 x1), .a (.int true .i64 x2)], [] => some ([], LV.a (At.bool true (sHolds_0 x0 x1 x2)), [])
  | _, _ => none
theorem sHolds_ok : ConOK Try.prog 112 (normC sHolds_c) := normC_ok (by
  intro args bs obs lv out h ho φ vs w may ha hM
  unfold sHolds_c at h
  split at h
  · simp only [Option.some.injEq, Prod.mk.injEq] at h
    obtain ⟨rfl, rfl, rfl⟩ := h
    rename_i x0 x1 x2
    exact evG_ok tabVL_ok follows _ _ _ _ _ (sHolds_p x0 x1 x2) ho φ vs w may ha hM
  · cases h)
theorem sHolds_en : Enters Try.prog 112 := fun args => by kernel_rfl
-- 125 17 7 ms

/-! azulejo/state.Plain -/
def sPlain_0 : Int := (7 : Int)
def sPlain_1 : Int := (7 : Int)
def sPlain_2 : Int := (0 : Int)
def sPlain_3 : Int := (0 : Int)
def sPlain_4 : Int := (0 : Int)
def sPlain_5 : Int := (0 : Int)
def sPlain_6 : Int := (0 : Int)
def sPlain_7 : Int := (0 : Int)
def sPlain_8 : Int := (15 : Int)
def sPlain_9 : Int := (0 : Int)
def sPlain_10 : Int := (0 : Int)
def sPlain_11 : Int := (0 : Int)
def sPlain_12 : Int := (64 : Int)
def sPlain_13 : Int := (64 : Int)
theorem sPlain_p  : evG Try.prog tabVL 2000 113 [0] [] [] [] [] = some ([], LV.g [At.int false IntKind.u8 sPlain_0, At.bool false false, At.int false IntKind.u8 sPlain_1, At.int false IntKind.u8 sPlain_2, At.int false IntKind.u8 sPlain_3, At.int false IntKind.u8 sPlain_4, At.int false IntKind.u8 sPlain_5, At.int false IntKind.u8 sPlain_6, At.int false IntKind.u8 sPlain_7, At.int false IntKind.u8 sPlain_8, At.int false IntKind.u8 sPlain_9, At.int false IntKind.i64 sPlain_10, At.int false IntKind.i64 sPlain_11, At.int false IntKind.i64 sPlain_12, At.int false IntKind.i64 sPlain_13], []) := by kernel_rfl
def sPlain_c : Con
  | [], [] => some ([], LV.g [At.int false IntKind.u8 sPlain_0, At.bool false false, At.int false IntKind.u8 sPlain_1, At.int false IntKind.u8 sPlain_2, At.int false IntKind.u8 sPlain_3, At.int false IntKind.u8 sPlain_4, At.int false IntKind.u8 sPlain_5, At.int false IntKind.u8 sPlain_6, At.int false IntKind.u8 sPlain_7, At.int false IntKind.u8 sPlain_8, At.int false IntKind.u8 sPlain_9, At.int false IntKind.i64 sPlain_10, At.int false IntKind.i64 sPlain_11, At.int false IntKind.i64 sPlain_12, At.int false IntKind.i64 sPlain_13], [])
  | _, _ => none
theorem sPlain_ok : ConOK Try.prog 113 (normC sPlain_c) := normC_ok (by
  intro args bs obs lv out h ho φ vs w may ha hM
  unfold sPlain_c at h
  split at h
  · simp only [Option.some.injEq, Prod.mk.injEq] at h
    obtain ⟨rfl, rfl, rfl⟩ := h
    exact evG_ok tabVL_ok follows _ _ _ _ _ (sPlain_p ) ho φ vs w may ha hM
  · cases h)
theorem sPlain_en : Enters Try.prog 113 := fun args => by kernel_rfl
-- 177 2 7 ms

/-! (azulejo/state.State).Check -/
def sChk_s0 (x0_0 : Int) (x0_2 : Int) (x0_5 : Int) (x0_6 : Int) (x0_7 : Int) (x0_8 : Int) (x0_9 : Int) (x0_10 : Int) : Bool := bif decide ((8 : Int) ≤ x0_0) then true else bif decide ((8 : Int) ≤ x0_2) then true else bif decide ((6 : Int) ≤ x0_5) then true else bif decide ((6 : Int) ≤ x0_6) then true else bif decide ((6 : Int) ≤ x0_7) then true else bif decide ((4 : Int) ≤ x0_8) then true else bif decide ((3 : Int) ≤ x0_10) then true else decide ((15 : Int) < x0_9)
def sChk_0 (x0_0 : Int) (x0_2 : Int) (x0_5 : Int) (x0_6 : Int) (x0_7 : Int) (x0_8 : Int) (x0_9 : Int) (x0_10 : Int) (x0_11 : Int) (x0_12 : Int) (x0_13 : Int) (x0_14 : Int) : Int := bif bif sChk_s0 x0_0 x0_2 x0_5 x0_6 x0_7 x0_8 x0_9 x0_10 then true else bif decide (x0_11 < (0 : Int)) then true else bif decide (x0_13 < x0_11) then true else bif decide ((64 : Int) < x0_13) then true else bif decide (x0_12 < (0 : Int)) then true else bif decide (x0_14 < x0_12) then true else decide ((64 : Int) < x0_14) then bif sChk_s0 x0_0 x0_2 x0_5 x0_6 x0_7 x0_8 x0_9 x0_10 then (13 : Int) else (2 : Int) else (0 : Int)
theorem sChk_p (x0_0 : Int) (x0_1 : Bool) (x0_2 : Int) (x0_3 : Int) (x0_4 : Int) (x0_5 : Int) (x0_6 : Int) (x0_7 : Int) (x0_8 : Int) (x0_9 : Int) (x0_10 : Int) (x0_11 : Int) (x0_12 : Int) (x0_13 : Int) (x0_14 : Int) : evG Try.prog tabVL 2000 60 [0, 1, 2, 3, 6, 45] [] [] [.g [.int true .u8 x0_0, .bool true x0_1, .int true .u8 x0_2, .int true .u8 x0_3, .int true .u8 x0_4, .int true .u8 x0_5, .int true .u8 x0_6, .int true .u8 x0_7, .int true .u8 x0_8, .int true .u8 x0_9, .int true .u8 x0_10, .int true .i64 x0_11, .int true .i64 x0_12, .int true .i64 x0_13, .int true .i64 x0_14]] [] = some ([], LV.a (At.int true IntKind.i64 (sChk_0 x0_0 x0_2 x0_5 x0_6 x0_7 x0_8 x0_9 x0_10 x0_11 x0_12 x0_13 x0_14)), []) := by kernel_rfl
def sChk_c : Con
  | [.g [.int true .u8 x0_0, .bool true x0_1, .int true .u8 x0_2, .int true .u8 x0_3, .int true .u8 x0_4, .int true .u8 x0_5, .int true .u8 x0_6, .int true .u8 x0_7, .int true .u8 x0_8, .int true .u8 x0_9, .int true .u8 x0_10, .int true .i64 x0_11, .int true .i64 x0_12, .int true .i64 x0_13, .int true .i64 x0_14]], [] => some ([], LV.a (At.int true IntKind.i64 (sChk_0 x0_0 x0_2 x0_5 x0_6 x0_7 x0_8 x0_9 x0_10 x0_11 x0_12 x0_13 x0_14)), [])
  | _, _ => none
theorem sChk_ok : ConOK Try.prog 60 (normC sChk_c) := normC_ok (by
  intro args bs obs lv out h ho φ vs w may ha hM
  unfold sChk_c at h
  split at h
  · simp only [Option.some.injEq, Prod.mk.injEq] at h
    obtain ⟨rfl, rfl, rfl⟩ := h
    rename_i x0_0 x0_1 x0_2 x0_3 x0_4 x0_5 x0_6 x0_7 x0_8 x0_9 x0_10 x0_11 x0_12 x0_13 x0_14
    exact evG_ok tabVL_ok follows _ _ _ _ _ (sChk_p x0_0 x0_1 x0_2 x0_3 x0_4 x0_5 x0_6 x0_7 x0_8 x0_9 x0_10 x0_11 x0_12 x0_13 x0_14) ho φ vs w may ha hM
  · cases h)
theorem sChk_en : Enters Try.prog 60 := fun args => by kernel_rfl
-- 716 101 7 ms

/-! (azulejo/state.Op).Do -/
def sDo_s0 (x1 : Int) : Int := IntKind.wrap IntKind.u8 ((255 : Int) - x1)
def sDo_s1 : Int := Int.ofNat ((2 : Nat) ^ IntKind.bits IntKind.u8)
def sDo_0 (x0 : Int) (x1 : Int) (x2 : Int) : Int := bif bif x0 == (1 : Int) then true else bif x0 == (2 : Int) then true else bif x0 == (3 : Int) then true else bif x0 == (4 : Int) then true else x0 == (5 : Int) then bif x0 == (1 : Int) then (0 : Int) else bif x0 == (2 : Int) then x2 else bif x0 == (3 : Int) then IntKind.wrap IntKind.u8 (x1 + if sDo_s0 x1 < (1 : Int) then sDo_s0 x1 else (1 : Int)) else bif x0 == (4 : Int) then IntKind.wrap IntKind.u8 (x1 - if x1 < (1 : Int) then x1 else (1 : Int)) else IntKind.wrap IntKind.u8 (Int.ofNat (Int.toNat ((if false = true then (-1 : Int) else if false = true then (2 : Int) ^ (7 : Nat) - (1 : Int) else (2 : Int) ^ IntKind.bits IntKind.u8 - (1 : Int)) % sDo_s1) ^^^ Int.toNat (x1 % sDo_s1))) else x1
theorem sDo_p (x0 : Int) (x1 : Int) (x2 : Int) : evG Try.prog tabVL 2000 114 [0, 1, 2, 6, 7, 8, 10, 13, 20, 26] [] [] [.a (.int true .u8 x0), .a (.int true .u8 x1), .a (.int true .u8 x2)] [] = some ([], LV.a (At.int true IntKind.u8 (sDo_0 x0 x1 x2)), []) := by kernel_rfl
def sDo_c : Con
  | [.a (.int true .u8 x0), .a (.int true .u8 x1), .a (.int true .u8 x2)], [] => some ([], LV.a (At.int true IntKind.u8 (sDo_0 x0 x1 x2)), [])
  | _, _ => none
theorem sDo_ok : ConOK Try.prog 114 (normC sDo_c) := normC_ok (by
  intro args bs obs lv out h ho φ vs w may ha hM
  unfold sDo_c at h
  split at h
  · simp only [Option.some.injEq, Prod.mk.injEq] at h
    obtain ⟨rfl, rfl, rfl⟩ := h
    rename_i x0 x1 x2
    exact evG_ok tabVL_ok follows _ _ _ _ _ (sDo_p x0 x1 x2) ho φ vs w may ha hM
  · cases h)
theorem sDo_en : Enters Try.prog 114 := fun args => by kernel_rfl
-- 217 56 13 ms

/-! (azulejo/azulejolaw09.Small).State -/
def sm09_0 (x0_0 : Int) : Int := Int.tmod x0_0 (8 : Int)
def sm09_1 (x0_1 : Int) (x0_11 : Bool) : Int := bif x0_11 then (7 : Int) else Int.tmod x0_1 (8 : Int)
def sm09_2 (x0_4 : Int) : Int := Int.tmod x0_4 (6 : Int)
def sm09_3 (x0_5 : Int) (x0_11 : Bool) : Int := bif x0_11 then (0 : Int) else Int.tmod x0_5 (6 : Int)
def sm09_4 (x0_6 : Int) (x0_11 : Bool) : Int := bif x0_11 then (0 : Int) else Int.tmod x0_6 (6 : Int)
def sm09_5 (x0_7 : Int) (x0_11 : Bool) : Int := bif x0_11 then (0 : Int) else Int.tmod x0_7 (4 : Int)
def sm09_6 (x0_8 : Int) (x0_11 : Bool) : Int := bif x0_11 then (15 : Int) else Int.tmod x0_8 (16 : Int)
def sm09_7 (x0_9 : Int) : Int := Int.tmod x0_9 (3 : Int)
def sm09_s0 (x0_12 : Int) : Bool := Int.tmod x0_12 (3 : Int) == (0 : Int)
def sm09_s1 (x0_12 : Int) : Int := IntKind.wrap IntKind.i64 (Int.tmod (IntKind.wrap IntKind.u8 (Int.tdiv x0_12 (3 : Int))) (30 : Int))
def sm09_8 (x0_12 : Int) : Int := bif sm09_s0 x0_12 then sm09_s1 x0_12 else (0 : Int)
def sm09_9 (x0_12 : Int) (x0_13 : Int) : Int := bif sm09_s0 x0_12 then IntKind.wrap IntKind.i64 (Int.tmod x0_13 (30 : Int)) else (0 : Int)
def sm09_10 (x0_12 : Int) (x0_14 : Int) : Int := bif sm09_s0 x0_12 then IntKind.wrap IntKind.i64 (sm09_s1 x0_12 + IntKind.wrap IntKind.i64 (Int.tmod x0_14 (30 : Int))) else (64 : Int)
def sm09_11 (x0_12 : Int) (x0_13 : Int) (x0_15 : Int) : Int := bif sm09_s0 x0_12 then IntKind.wrap IntKind.i64 (IntKind.wrap IntKind.i64 (Int.tmod x0_13 (30 : Int)) + IntKind.wrap IntKind.i64 (Int.tmod x0_15 (30 : Int))) else (64 : Int)
theorem sm09_p (x0_0 : Int) (x0_1 : Int) (x0_2 : Int) (x0_3 : Int) (x0_4 : Int) (x0_5 : Int) (x0_6 : Int) (x0_7 : Int) (x0_8 : Int) (x0_9 : Int) (x0_10 : Bool) (x0_11 : Bool) (x0_12 : Int) (x0_13 : Int) (x0_14 : Int) (x0_15 : Int) : evG Try.prog tabVL 2000 54 [0, 1, 2, 3, 4, 38, 48] [] [] [.g [.int true .u8 x0_0, .int true .u8 x0_1, .int true .u8 x0_2, .int true .u8 x0_3, .int true .u8 x0_4, .int true .u8 x0_5, .int true .u8 x0_6, .int true .u8 x0_7, .int true .u8 x0_8, .int true .u8 x0_9, .bool true x0_10, .bool true x0_11, .int true .u8 x0_12, .int true .u8 x0_13, .int true .u8 x0_14, .int true .u8 x0_15]] [] = some ([], LV.g [At.int true IntKind.u8 (sm09_0 x0_0), At.bool true x0_10, At.int true IntKind.u8 (sm09_1 x0_1 x0_11), At.int true IntKind.u8 x0_2, At.int true IntKind.u8 x0_3, At.int true IntKind.u8 (sm09_2 x0_4), At.int true IntKind.u8 (sm09_3 x0_5 x0_11), At.int true IntKind.u8 (sm09_4 x0_6 x0_11), At.int true IntKind.u8 (sm09_5 x0_7 x0_11), At.int true IntKind.u8 (sm09_6 x0_8 x0_11), At.int true IntKind.u8 (sm09_7 x0_9), At.int true IntKind.i64 (sm09_8 x0_12), At.int true IntKind.i64 (sm09_9 x0_12 x0_13), At.int true IntKind.i64 (sm09_10 x0_12 x0_14), At.int true IntKind.i64 (sm09_11 x0_12 x0_13 x0_15)], []) := by kernel_rfl
def sm09_c : Con
  | [.g [.int true .u8 x0_0, .int true .u8 x0_1, .int true .u8 x0_2, .int true .u8 x0_3, .int true .u8 x0_4, .int true .u8 x0_5, .int true .u8 x0_6, .int true .u8 x0_7, .int true .u8 x0_8, .int true .u8 x0_9, .bool true x0_10, .bool true x0_11, .int true .u8 x0_12, .int true .u8 x0_13, .int true .u8 x0_14, .int true .u8 x0_15]], [] => some ([], LV.g [At.int true IntKind.u8 (sm09_0 x0_0), At.bool true x0_10, At.int true IntKind.u8 (sm09_1 x0_1 x0_11), At.int true IntKind.u8 x0_2, At.int true IntKind.u8 x0_3, At.int true IntKind.u8 (sm09_2 x0_4), At.int true IntKind.u8 (sm09_3 x0_5 x0_11), At.int true IntKind.u8 (sm09_4 x0_6 x0_11), At.int true IntKind.u8 (sm09_5 x0_7 x0_11), At.int true IntKind.u8 (sm09_6 x0_8 x0_11), At.int true IntKind.u8 (sm09_7 x0_9), At.int true IntKind.i64 (sm09_8 x0_12), At.int true IntKind.i64 (sm09_9 x0_12 x0_13), At.int true IntKind.i64 (sm09_10 x0_12 x0_14), At.int true IntKind.i64 (sm09_11 x0_12 x0_13 x0_15)], [])
  | _, _ => none
theorem sm09_ok : ConOK Try.prog 54 (normC sm09_c) := normC_ok (by
  intro args bs obs lv out h ho φ vs w may ha hM
  unfold sm09_c at h
  split at h
  · simp only [Option.some.injEq, Prod.mk.injEq] at h
    obtain ⟨rfl, rfl, rfl⟩ := h
    rename_i x0_0 x0_1 x0_2 x0_3 x0_4 x0_5 x0_6 x0_7 x0_8 x0_9 x0_10 x0_11 x0_12 x0_13 x0_14 x0_15
    exact evG_ok tabVL_ok follows _ _ _ _ _ (sm09_p x0_0 x0_1 x0_2 x0_3 x0_4 x0_5 x0_6 x0_7 x0_8 x0_9 x0_10 x0_11 x0_12 x0_13 x0_14 x0_15) ho φ vs w may ha hM
  · cases h)
theorem sm09_en : Enters Try.prog 54 := fun args => by kernel_rfl
-- 553 430 12 ms

/-! (azulejo/state.State).Late -/
def sLate_0 (x0_2 : Int) (x0_6 : Int) (x0_7 : Int) (x0_8 : Int) (x0_9 : Int) : Bool := bif x0_2 == (7 : Int) then bif x0_7 == (0 : Int) then bif x0_6 == (0 : Int) then bif x0_8 == (0 : Int) then x0_9 == (15 : Int) else false else false else false else false
theorem sLate_p (x0_0 : Int) (x0_1 : Bool) (x0_2 : Int) (x0_3 : Int) (x0_4 : Int) (x0_5 : Int) (x0_6 : Int) (x0_7 : Int) (x0_8 : Int) (x0_9 : Int) (x0_10 : Int) (x0_11 : Int) (x0_12 : Int) (x0_13 : Int) (x0_14 : Int) : evG Try.prog tabVL 2000 67 [0, 1, 2] [] [] [.g [.int true .u8 x0_0, .bool true x0_1, .int true .u8 x0_2, .int true .u8 x0_3, .int true .u8 x0_4, .int true .u8 x0_5, .int true .u8 x0_6, .int true .u8 x0_7, .int true .u8 x0_8, .int true .u8 x0_9, .int true .u8 x0_10, .int true .i64 x0_11, .int true .i64 x0_12, .int true .i64 x0_13, .int true .i64 x0_14]] [] = some ([], LV.a (At.bool true (sLate_0 x0_2 x0_6 x0_7 x0_8 x0_9)), []) := by kernel_rfl
def sLate_c : Con
  | [.g [.int true .u8 x0_0, .bool true x0_1, .int true .u8 x0_2, .int true .u8 x0_3, .int true .u8 x0_4, .int true .u8 x0_5, .int true .u8 x0_6, .int true .u8 x0_7, .int true .u8 x0_8, .int true .u8 x0_9, .int true .u8 x0_10, .int true .i64 x0_11, .int true .i64 x0_12, .int true .i64 x0_13, .int true .i64 x0_14]], [] => some ([], LV.a (At.bool true (sLate_0 x0_2 x0_6 x0_7 x0_8 x0_9)), [])
  | _, _ => none
theorem sLate_ok : ConOK Try.prog 67 (normC sLate_c) := normC_ok (by
  intro args bs obs lv out h ho φ vs w may ha hM
  unfold sLate_c at h
  split at h
  · simp only [Option.some.injEq, Prod.mk.injEq] at h
    obtain ⟨rfl, rfl, rfl⟩ := h
    rename_i x0_0 x0_1 x0_2 x0_3 x0_4 x0_5 x0_6 x0_7 x0_8 x0_9 x0_10 x0_11 x0_12 x0_13 x0_14
    exact evG_ok tabVL_ok follows _ _ _ _ _ (sLate_p x0_0 x0_1 x0_2 x0_3 x0_4 x0_5 x0_6 x0_7 x0_8 x0_9 x0_10 x0_11 x0_12 x0_13 x0_14) ho φ vs w may ha hM
  · cases h)
theorem sLate_en : Enters Try.prog 67 := fun args => by kernel_rfl
-- 210 18 2 ms

def tabWa1 : Tab := (112, normC sHolds_c) :: (113, normC sPlain_c) :: (60, normC sChk_c) :: (114, normC sDo_c) :: (54, normC sm09_c) :: (67, normC sLate_c) :: tabVL
theorem tabWa1_ok : TOK Try.prog tabWa1 := TOK.cons sHolds_en sHolds_ok (TOK.cons sPlain_en sPlain_ok (TOK.cons sChk_en sChk_ok (TOK.cons sDo_en sDo_ok (TOK.cons sm09_en sm09_ok (TOK.cons sLate_en sLate_ok (tabVL_ok))))))

end Go.Proofs.Ytcdejlgophpdjaa
