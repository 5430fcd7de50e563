/-
  Contracts of functions of the program, each run on the local memory (printed by a program of this session's own: wip/tools).
-/
import Derived.Test.YtbdmaepooahplaaCa0
namespace Go.Proofs.Ytbdmaepooahplaa
open Go Go.RowKit Go.Proofs.Ytbdmaepooahplaa.V
set_option linter.unusedVariables false

/-! (azulejo/clip.Vertex).Inside -/
def cInside_s0 (x0_3 : Int) : Int := IntKind.wrap IntKind.i64 ((8 : Int) * fWithin_0 x0_3 (4194304 : Int))
def cInside_0 (x0_0 : Int) (x0_1 : Int) (x0_2 : Int) (x0_3 : Int) (x1 : Int) : Int := bif bif x1 == (0 : Int) then true else bif x1 == (1 : Int) then true else bif x1 == (2 : Int) then true else bif x1 == (3 : Int) then true else bif x1 == (4 : Int) then true else bif x1 == (5 : Int) then true else x1 == (6 : Int) then bif x1 == (0 : Int) then IntKind.wrap IntKind.i64 (fWithin_0 x0_3 (4194304 : Int) - (256 : Int)) else bif x1 == (1 : Int) then fWithin_0 x0_2 (4194304 : Int) else bif x1 == (2 : Int) then IntKind.wrap IntKind.i64 (fWithin_0 x0_3 (4194304 : Int) - fWithin_0 x0_2 (4194304 : Int)) else bif x1 == (3 : Int) then IntKind.wrap IntKind.i64 (cInside_s0 x0_3 + fWithin_0 x0_0 (4194304 : Int)) else bif x1 == (4 : Int) then IntKind.wrap IntKind.i64 (cInside_s0 x0_3 - fWithin_0 x0_0 (4194304 : Int)) else bif x1 == (5 : Int) then IntKind.wrap IntKind.i64 (cInside_s0 x0_3 + fWithin_0 x0_1 (4194304 : Int)) else IntKind.wrap IntKind.i64 (cInside_s0 x0_3 - fWithin_0 x0_1 (4194304 : Int)) else (0 : Int)
theorem cInside_p (x0_0 : Int) (x0_1 : Int) (x0_2 : Int) (x0_3 : Int) (x0_4 : Int) (x0_5 : Int) (x0_6 : Int) (x0_7 : Int) (x1 : Int) : evG Try.prog tabCa0 2000 59 [0, 1, 2, 4, 5, 9, 10, 15, 19, 26, 34, 42, 50] [] [] [.g [.int true .i64 x0_0, .int true .i64 x0_1, .int true .i64 x0_2, .int true .i64 x0_3, .int true .i64 x0_4, .int true .i64 x0_5, .int true .i64 x0_6, .int true .i64 x0_7], .a (.int true .i64 x1)] [] = some ([], LV.a (At.int true IntKind.i64 (cInside_0 x0_0 x0_1 x0_2 x0_3 x1)), []) := by kernel_rfl
def cInside_c : Con
  | [.g [.int true .i64 x0_0, .int true .i64 x0_1, .int true .i64 x0_2, .int true .i64 x0_3, .int true .i64 x0_4, .int true .i64 x0_5, .int true .i64 x0_6, .int true .i64 x0_7], .a (.int true .i64 x1)], [] => some ([], LV.a (At.int true IntKind.i64 (cInside_0 x0_0 x0_1 x0_2 x0_3 x1)), [])
  | _, _ => none
theorem cInside_ok : ConOK Try.prog 59 (normC cInside_c) := normC_ok (by
  intro args bs obs lv out h ho φ vs w may ha hM
  unfold cInside_c at h
  split at h
  · simp only [Option.some.injEq, Prod.mk.injEq] at h
    obtain ⟨rfl, rfl, rfl⟩ := h
    rename_i x0_0 x0_1 x0_2 x0_3 x0_4 x0_5 x0_6 x0_7 x1
    exact evG_ok tabCa0_ok follows _ _ _ _ _ (cInside_p x0_0 x0_1 x0_2 x0_3 x0_4 x0_5 x0_6 x0_7 x1) ho φ vs w may ha hM
  · cases h)
theorem cInside_en : Enters Try.prog 59 := fun args => by kernel_rfl
-- 239 60 8 ms

/-! azulejo/azulejoref12.Inside -/
def r12In_s0 (x1 : Int) : Int := IntKind.wrap IntKind.i64 (Int.tdiv (IntKind.wrap IntKind.i64 (x1 - (3 : Int))) (2 : Int))
def r12In_s1 (x0_0 : Int) (x0_1 : Int) (x0_2 : Int) (x0_3 : Int) (x1 : Int) : Int := List.getD [x0_0, x0_1, x0_2, x0_3] (Int.toNat (r12In_s0 x1)) (0 : Int)
def r12In_0 (x0_0 : Int) (x0_1 : Int) (x0_2 : Int) (x0_3 : Int) (x1 : Int) : Int := bif x1 == (0 : Int) then IntKind.wrap IntKind.i64 (x0_3 - (256 : Int)) else bif x1 == (1 : Int) then x0_2 else bif x1 == (2 : Int) then IntKind.wrap IntKind.i64 (x0_3 - x0_2) else IntKind.wrap IntKind.i64 (IntKind.wrap IntKind.i64 ((8 : Int) * x0_3) + bif Int.tmod x1 (2 : Int) == (0 : Int) then IntKind.wrap IntKind.i64 ((0 : Int) - r12In_s1 x0_0 x0_1 x0_2 x0_3 x1) else r12In_s1 x0_0 x0_1 x0_2 x0_3 x1)
def r12In_o (x0_0 : Int) (x0_1 : Int) (x0_2 : Int) (x0_3 : Int) (x0_4 : Int) (x0_5 : Int) (x0_6 : Int) (x0_7 : Int) (x1 : Int) : List Prop := [(!x1 == (0 : Int)) = true → (!x1 == (1 : Int)) = true → (!x1 == (2 : Int)) = true → (0 : Int) ≤ r12In_s0 x1 ∧ r12In_s0 x1 < Int.ofNat (4 : Nat), (!x1 == (0 : Int)) = true → (!x1 == (1 : Int)) = true → (!x1 == (2 : Int)) = true → Int.toNat (r12In_s0 x1) < (List.length [At.int false IntKind.i64 (0 : Int), At.int false IntKind.i64 (0 : Int), At.int false IntKind.i64 (0 : Int), At.int false IntKind.i64 (0 : Int)] - (0 : Nat)) / (1 : Nat)]
theorem r12In_p (x0_0 : Int) (x0_1 : Int) (x0_2 : Int) (x0_3 : Int) (x0_4 : Int) (x0_5 : Int) (x0_6 : Int) (x0_7 : Int) (x1 : Int) : evG Try.prog tabCa0 2000 60 [0, 1, 2, 4, 5, 6, 10, 15, 19, 32] [] [] [.g [.int true .i64 x0_0, .int true .i64 x0_1, .int true .i64 x0_2, .int true .i64 x0_3, .int true .i64 x0_4, .int true .i64 x0_5, .int true .i64 x0_6, .int true .i64 x0_7], .a (.int true .i64 x1)] [] = some (r12In_o x0_0 x0_1 x0_2 x0_3 x0_4 x0_5 x0_6 x0_7 x1, LV.a (At.int true IntKind.i64 (r12In_0 x0_0 x0_1 x0_2 x0_3 x1)), []) := by kernel_rfl
def r12In_c : Con
  | [.g [.int true .i64 x0_0, .int true .i64 x0_1, .int true .i64 x0_2, .int true .i64 x0_3, .int true .i64 x0_4, .int true .i64 x0_5, .int true .i64 x0_6, .int true .i64 x0_7], .a (.int true .i64 x1)], [] => some (r12In_o x0_0 x0_1 x0_2 x0_3 x0_4 x0_5 x0_6 x0_7 x1, LV.a (At.int true IntKind.i64 (r12In_0 x0_0 x0_1 x0_2 x0_3 x1)), [])
  | _, _ => none
theorem r12In_ok : ConOK Try.prog 60 (normC r12In_c) := normC_ok (by
  intro args bs obs lv out h ho φ vs w may ha hM
  unfold r12In_c at h
  split at h
  · simp only [Option.some.injEq, Prod.mk.injEq] at h
    obtain ⟨rfl, rfl, rfl⟩ := h
    rename_i x0_0 x0_1 x0_2 x0_3 x0_4 x0_5 x0_6 x0_7 x1
    exact evG_ok tabCa0_ok follows _ _ _ _ _ (r12In_p x0_0 x0_1 x0_2 x0_3 x0_4 x0_5 x0_6 x0_7 x1) ho φ vs w may ha hM
  · cases h)
theorem r12In_en : Enters Try.prog 60 := fun args => by kernel_rfl
-- 174 22 7 ms

/-! azulejo/azulejoref01.Floor -/
def rFloor0_s0 (x1 : Int) : Bool := decide (x1 < (0 : Int))
def rFloor0_s1 (x0 : Int) : Bool := decide ((0 : Int) ≤ x0)
def rFloor0_0 (x0 : Int) (x1 : Int) : Int := bif x1 == (0 : Int) then (0 : Int) else bif rFloor0_s0 x1 then (0 : Int) else bif rFloor0_s1 x0 then IntKind.wrap IntKind.i64 (Int.tdiv x0 x1) else IntKind.wrap IntKind.i64 ((0 : Int) - IntKind.wrap IntKind.i64 (Int.tdiv (IntKind.wrap IntKind.i64 (IntKind.wrap IntKind.i64 (x1 - (1 : Int)) - x0)) x1))
def rFloor0_o (x0 : Int) (x1 : Int) : List Prop := [(!x1 == (0 : Int)) = true → rFloor0_s0 x1 = true → False, (!x1 == (0 : Int)) = true → (!rFloor0_s0 x1) = true → rFloor0_s1 x0 = true → x1 ≠ (0 : Int), (!x1 == (0 : Int)) = true → (!rFloor0_s0 x1) = true → (!rFloor0_s1 x0) = true → x1 ≠ (0 : Int)]
theorem rFloor0_p (x0 : Int) (x1 : Int) : evG Try.prog tabCa0 2000 94 [0, 1, 4, 6, 8, 15] [] [] [.a (.int true .i64 x0), .a (.int true .i64 x1)] [] = some (rFloor0_o x0 x1, LV.a (At.int true IntKind.i64 (rFloor0_0 x0 x1)), []) := by kernel_rfl
def rFloor0_c : Con
  | [.a (.int true .i64 x0), .a (.int true .i64 x1)], [] => some (rFloor0_o x0 x1, LV.a (At.int true IntKind.i64 (rFloor0_0 x0 x1)), [])
  | _, _ => none
theorem rFloor0_ok : ConOK Try.prog 94 (normC rFloor0_c) := normC_ok (by
  intro args bs obs lv out h ho φ vs w may ha hM
  unfold rFloor0_c at h
  split at h
  · simp only [Option.some.injEq, Prod.mk.injEq] at h
    obtain ⟨rfl, rfl, rfl⟩ := h
    rename_i x0 x1
    exact evG_ok tabCa0_ok follows _ _ _ _ _ (rFloor0_p x0 x1) ho φ vs w may ha hM
  · cases h)
theorem rFloor0_en : Enters Try.prog 94 := fun args => by kernel_rfl
-- 70 9 5 ms

/-! azulejo/azulejoref12.bound -/
def r12bound_0 (x0 : Int) (x1 : Int) (x2 : Int) : Int := bif decide (x0 < x1) then x1 else bif decide (x2 < x0) then x2 else x0
theorem r12bound_p (x0 : Int) (x1 : Int) (x2 : Int) : evG Try.prog tabCa0 2000 91 [0, 1, 2, 6, 9, 13] [] [] [.a (.int true .i64 x0), .a (.int true .i64 x1), .a (.int true .i64 x2)] [] = some ([], LV.a (At.int true IntKind.i64 (r12bound_0 x0 x1 x2)), []) := by kernel_rfl
def r12bound_c : Con
  | [.a (.int true .i64 x0), .a (.int true .i64 x1), .a (.int true .i64 x2)], [] => some ([], LV.a (At.int true IntKind.i64 (r12bound_0 x0 x1 x2)), [])
  | _, _ => none
theorem r12bound_ok : ConOK Try.prog 91 (normC r12bound_c) := normC_ok (by
  intro args bs obs lv out h ho φ vs w may ha hM
  unfold r12bound_c at h
  split at h
  · simp only [Option.some.injEq, Prod.mk.injEq] at h
    obtain ⟨rfl, rfl, rfl⟩ := h
    rename_i x0 x1 x2
    exact evG_ok tabCa0_ok follows _ _ _ _ _ (r12bound_p x0 x1 x2) ho φ vs w may ha hM
  · cases h)
theorem r12bound_en : Enters Try.prog 91 := fun args => by kernel_rfl
-- 58 4 2 ms

/-! azulejo/azulejolaw12.Ref -/
theorem l12Ref_p (x0_0 : Int) (x0_1 : Int) (x0_2 : Int) (x0_3 : Int) (x0_4 : Int) (x0_5 : Int) (x0_6 : Int) (x0_7 : Int) : evG Try.prog tabCa0 2000 55 [0, 1, 2] [] [] [.g [.int true .i64 x0_0, .int true .i64 x0_1, .int true .i64 x0_2, .int true .i64 x0_3, .int true .i64 x0_4, .int true .i64 x0_5, .int true .i64 x0_6, .int true .i64 x0_7]] [] = some ([], LV.g [At.int true IntKind.i64 x0_0, At.int true IntKind.i64 x0_1, At.int true IntKind.i64 x0_2, At.int true IntKind.i64 x0_3, At.int true IntKind.i64 x0_4, At.int true IntKind.i64 x0_5, At.int true IntKind.i64 x0_6, At.int true IntKind.i64 x0_7], []) := by kernel_rfl
def l12Ref_c : Con
  | [.g [.int true .i64 x0_0, .int true .i64 x0_1, .int true .i64 x0_2, .int true .i64 x0_3, .int true .i64 x0_4, .int true .i64 x0_5, .int true .i64 x0_6, .int true .i64 x0_7]], [] => some ([], LV.g [At.int true IntKind.i64 x0_0, At.int true IntKind.i64 x0_1, At.int true IntKind.i64 x0_2, At.int true IntKind.i64 x0_3, At.int true IntKind.i64 x0_4, At.int true IntKind.i64 x0_5, At.int true IntKind.i64 x0_6, At.int true IntKind.i64 x0_7], [])
  | _, _ => none
theorem l12Ref_ok : ConOK Try.prog 55 (normC l12Ref_c) := normC_ok (by
  intro args bs obs lv out h ho φ vs w may ha hM
  unfold l12Ref_c at h
  split at h
  · simp only [Option.some.injEq, Prod.mk.injEq] at h
    obtain ⟨rfl, rfl, rfl⟩ := h
    rename_i x0_0 x0_1 x0_2 x0_3 x0_4 x0_5 x0_6 x0_7
    exact evG_ok tabCa0_ok follows _ _ _ _ _ (l12Ref_p x0_0 x0_1 x0_2 x0_3 x0_4 x0_5 x0_6 x0_7) ho φ vs w may ha hM
  · cases h)
theorem l12Ref_en : Enters Try.prog 55 := fun args => by kernel_rfl
-- 84 1 0 ms

/-! azulejo/azulejolaw12.Awake$1 -/
def aw12v_0 : Int := (0 : Int)
def aw12v_1 : Int := (65536 : Int)
def aw12v_2 : Int := (0 : Int)
def aw12v_3 : Int := (0 : Int)
def aw12v_4 : Int := (0 : Int)
def aw12v_5 : Int := (0 : Int)
theorem aw12v_p (x0 : Int) (x1 : Int) : evG Try.prog tabCa0 2000 85 [0, 1, 4] [] [] [.a (.int true .i64 x0), .a (.int true .i64 x1)] [] = some ([], LV.g [At.int true IntKind.i64 x0, At.int true IntKind.i64 x1, At.int false IntKind.i64 aw12v_0, At.int false IntKind.i64 aw12v_1, At.int false IntKind.i64 aw12v_2, At.int false IntKind.i64 aw12v_3, At.int false IntKind.i64 aw12v_4, At.int false IntKind.i64 aw12v_5], []) := by kernel_rfl
def aw12v_c : Con
  | [.a (.int true .i64 x0), .a (.int true .i64 x1)], [] => some ([], LV.g [At.int true IntKind.i64 x0, At.int true IntKind.i64 x1, At.int false IntKind.i64 aw12v_0, At.int false IntKind.i64 aw12v_1, At.int false IntKind.i64 aw12v_2, At.int false IntKind.i64 aw12v_3, At.int false IntKind.i64 aw12v_4, At.int false IntKind.i64 aw12v_5], [])
  | _, _ => none
theorem aw12v_ok : ConOK Try.prog 85 (normC aw12v_c) := normC_ok (by
  intro args bs obs lv out h ho φ vs w may ha hM
  unfold aw12v_c at h
  split at h
  · simp only [Option.some.injEq, Prod.mk.injEq] at h
    obtain ⟨rfl, rfl, rfl⟩ := h
    rename_i x0 x1
    exact evG_ok tabCa0_ok follows _ _ _ _ _ (aw12v_p x0 x1) ho φ vs w may ha hM
  · cases h)
theorem aw12v_en : Enters Try.prog 85 := fun args => by kernel_rfl
-- 61 1 2 ms

/-! azulejo/clip.Cross$1 -/
def crossB_0 (x0_0 : Int) (x1_0 : Int) (xa : Int) (xb : Int) : Int := IntKind.wrap IntKind.i64 (fWithin_0 x0_0 (4194304 : Int) + fFloor_0 (IntKind.wrap IntKind.i64 (IntKind.wrap IntKind.i64 (fWithin_0 x1_0 (4194304 : Int) - fWithin_0 x0_0 (4194304 : Int)) * xa)) (IntKind.wrap IntKind.i64 (xa - xb)))
def crossB_1 (x0_1 : Int) (x1_1 : Int) (xa : Int) (xb : Int) : Int := IntKind.wrap IntKind.i64 (fWithin_0 x0_1 (4194304 : Int) + fFloor_0 (IntKind.wrap IntKind.i64 (IntKind.wrap IntKind.i64 (fWithin_0 x1_1 (4194304 : Int) - fWithin_0 x0_1 (4194304 : Int)) * xa)) (IntKind.wrap IntKind.i64 (xa - xb)))
def crossB_2 (x0_2 : Int) (x1_2 : Int) (xa : Int) (xb : Int) : Int := IntKind.wrap IntKind.i64 (fWithin_0 x0_2 (4194304 : Int) + fFloor_0 (IntKind.wrap IntKind.i64 (IntKind.wrap IntKind.i64 (fWithin_0 x1_2 (4194304 : Int) - fWithin_0 x0_2 (4194304 : Int)) * xa)) (IntKind.wrap IntKind.i64 (xa - xb)))
def crossB_3 (x0_3 : Int) (x1_3 : Int) (xa : Int) (xb : Int) : Int := IntKind.wrap IntKind.i64 (fWithin_0 x0_3 (4194304 : Int) + fFloor_0 (IntKind.wrap IntKind.i64 (IntKind.wrap IntKind.i64 (fWithin_0 x1_3 (4194304 : Int) - fWithin_0 x0_3 (4194304 : Int)) * xa)) (IntKind.wrap IntKind.i64 (xa - xb)))
theorem crossB_p (x0_0 : Int) (x0_1 : Int) (x0_2 : Int) (x0_3 : Int) (x1_0 : Int) (x1_1 : Int) (x1_2 : Int) (x1_3 : Int) (r0 : Bool) (xa : Int) (r1 : Bool) (xb : Int) : evG Try.prog tabCa0 2000 88 [0, 1, 2, 3, 4, 5, 6, 7, 12, 13] [] [] [.g [.int true .i64 x0_0, .int true .i64 x0_1, .int true .i64 x0_2, .int true .i64 x0_3], .g [.int true .i64 x1_0, .int true .i64 x1_1, .int true .i64 x1_2, .int true .i64 x1_3], .a (.ptr 0 0), .a (.ptr 1 0)] [⟨⟨0, 1, r0, none⟩, [some (.int true .i64 xa)]⟩, ⟨⟨0, 1, r1, none⟩, [some (.int true .i64 xb)]⟩] = some ([], LV.g [At.int true IntKind.i64 (crossB_0 x0_0 x1_0 xa xb), At.int true IntKind.i64 (crossB_1 x0_1 x1_1 xa xb), At.int true IntKind.i64 (crossB_2 x0_2 x1_2 xa xb), At.int true IntKind.i64 (crossB_3 x0_3 x1_3 xa xb)], [none, none]) := by kernel_rfl
def crossB_c : Con
  | [.g [.int true .i64 x0_0, .int true .i64 x0_1, .int true .i64 x0_2, .int true .i64 x0_3], .g [.int true .i64 x1_0, .int true .i64 x1_1, .int true .i64 x1_2, .int true .i64 x1_3], .a (.ptr 0 0), .a (.ptr 1 0)], [⟨⟨0, 1, r0, none⟩, [some (.int true .i64 xa)]⟩, ⟨⟨0, 1, r1, none⟩, [some (.int true .i64 xb)]⟩] => some ([], LV.g [At.int true IntKind.i64 (crossB_0 x0_0 x1_0 xa xb), At.int true IntKind.i64 (crossB_1 x0_1 x1_1 xa xb), At.int true IntKind.i64 (crossB_2 x0_2 x1_2 xa xb), At.int true IntKind.i64 (crossB_3 x0_3 x1_3 xa xb)], [none, none])
  | _, _ => none
theorem crossB_ok : ConOK Try.prog 88 (normC crossB_c) := normC_ok (by
  intro args bs obs lv out h ho φ vs w may ha hM
  unfold crossB_c at h
  split at h
  · simp only [Option.some.injEq, Prod.mk.injEq] at h
    obtain ⟨rfl, rfl, rfl⟩ := h
    rename_i x0_0 x0_1 x0_2 x0_3 x1_0 x1_1 x1_2 x1_3 r0 xa r1 xb
    exact evG_ok tabCa0_ok follows _ _ _ _ _ (crossB_p x0_0 x0_1 x0_2 x0_3 x1_0 x1_1 x1_2 x1_3 r0 xa r1 xb) ho φ vs w may ha hM
  · cases h)
theorem crossB_en : Enters Try.prog 88 := fun args => by kernel_rfl
-- 491 8 9 ms

def tabCa1 : Tab := (59, normC cInside_c) :: (60, normC r12In_c) :: (94, normC rFloor0_c) :: (91, normC r12bound_c) :: (55, normC l12Ref_c) :: (85, normC aw12v_c) :: (88, normC crossB_c) :: tabCa0
theorem tabCa1_ok : TOK Try.prog tabCa1 := TOK.cons cInside_en cInside_ok (TOK.cons r12In_en r12In_ok (TOK.cons rFloor0_en rFloor0_ok (TOK.cons r12bound_en r12bound_ok (TOK.cons l12Ref_en l12Ref_ok (TOK.cons aw12v_en aw12v_ok (TOK.cons crossB_en crossB_ok (tabCa0_ok)))))))

end Go.Proofs.Ytbdmaepooahplaa
