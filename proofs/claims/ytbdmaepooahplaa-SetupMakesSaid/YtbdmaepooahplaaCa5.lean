/-
  A contract that asks for what is never so: for calls that do not come about.
-/
import Derived.Test.YtbdmaepooahplaaSa3
namespace Go.Proofs.Ytbdmaepooahplaa
open Go Go.RowKit Go.Proofs.Ytbdmaepooahplaa.V

def dumF_c : Con
  | [.a (.int _ .i64 _), .a (.int _ .i64 _)], [] => some ([False], .a (.int true .i64 0), [])
  | _, _ => none
theorem dumF_ok : ConOK Try.prog 94 (normC dumF_c) := normC_ok (by
  intro args bs obs lv out h ho
  unfold dumF_c at h
  split at h
  · simp only [Option.some.injEq, Prod.mk.injEq] at h
    obtain ⟨rfl, rfl, rfl⟩ := h
    exact ho.1.elim
  · cases h)
theorem dumF_en : Enters Try.prog 94 := fun args => by kernel_rfl
def tabCa0 : Tab := (94, normC dumF_c) :: tabSa3
theorem tabCa0_ok : TOK Try.prog tabCa0 := TOK.cons dumF_en dumF_ok tabSa3_ok

end Go.Proofs.Ytbdmaepooahplaa

namespace Go.Proofs.Ytbdmaepooahplaa
open Go Go.RowKit Go.Proofs.Ytbdmaepooahplaa.V
set_option linter.unusedVariables false

/-! (azulejo/clip.Vertex).Inside -/
def cInside_s0 (x0_3 : Int) : Int := IntKind.wrap IntKind.i64 ((8 : Int) * fWithin_0 x0_3 (4194304 : Int))
def cInside_0 (x0_0 : Int) (x0_1 : Int) (x0_2 : Int) (x0_3 : Int) (x1 : Int) : Int := bif bif x1 == (0 : Int) then true else bif x1 == (1 : Int) then true else bif x1 == (2 : Int) then true else bif x1 == (3 : Int) then true else bif x1 == (4 : Int) then true else bif x1 == (5 : Int) then true else x1 == (6 : Int) then bif x1 == (0 : Int) then IntKind.wrap IntKind.i64 (fWithin_0 x0_3 (4194304 : Int) - (256 : Int)) else bif x1 == (1 : Int) then fWithin_0 x0_2 (4194304 : Int) else bif x1 == (2 : Int) then IntKind.wrap IntKind.i64 (fWithin_0 x0_3 (4194304 : Int) - fWithin_0 x0_2 (4194304 : Int)) else bif x1 == (3 : Int) then IntKind.wrap IntKind.i64 (cInside_s0 x0_3 + fWithin_0 x0_0 (4194304 : Int)) else bif x1 == (4 : Int) then IntKind.wrap IntKind.i64 (cInside_s0 x0_3 - fWithin_0 x0_0 (4194304 : Int)) else bif x1 == (5 : Int) then IntKind.wrap IntKind.i64 (cInside_s0 x0_3 + fWithin_0 x0_1 (4194304 : Int)) else IntKind.wrap IntKind.i64 (cInside_s0 x0_3 - fWithin_0 x0_1 (4194304 : Int)) else (0 : Int)
theorem cInside_p (x0_0 : Int) (x0_1 : Int) (x0_2 : Int) (x0_3 : Int) (x0_4 : Int) (x0_5 : Int) (x0_6 : Int) (x0_7 : Int) (x1 : Int) : evG Try.prog tabCa0 2000 59 [0, 1, 2, 4, 5, 9, 10, 15, 19, 26, 34, 42, 50] [] [] [.g [.int true .i64 x0_0, .int true .i64 x0_1, .int true .i64 x0_2, .int true .i64 x0_3, .int true .i64 x0_4, .int true .i64 x0_5, .int true .i64 x0_6, .int true .i64 x0_7], .a (.int true .i64 x1)] [] = some ([], LV.a (At.int true IntKind.i64 (cInside_0 x0_0 x0_1 x0_2 x0_3 x1)), []) := by kernel_rfl
def cInside_c : Con
  | [.g [.int true .i64 x0_0, .int true .i64 x0_1, .int true .i64 x0_2, .int true .i64 x0_3, .int true .i64 x0_4, .int true .i64 x0_5, .int true .i64 x0_6, .int true .i64 x0_7], .a (.int true .i64 x1)], [] => some ([], LV.a (At.int true IntKind.i64 (cInside_0 x0_0 x0_1 x0_2 x0_3 x1)), [])
  | _, _ => none
theorem cInside_ok : ConOK Try.prog 59 (normC cInside_c) := normC_ok (by
  intro args bs obs lv out h ho φ vs w may ha hM
  unfold cInside_c at h
  split at h
  · simp only [Option.some.injEq, Prod.mk.injEq] at h
    obtain ⟨rfl, rfl, rfl⟩ := h
    rename_i x0_0 x0_1 x0_2 x0_3 x0_4 x0_5 x0_6 x0_7 x1
    exact evG_ok tabCa0_ok follows _ _ _ _ _ (cInside_p x0_0 x0_1 x0_2 x0_3 x0_4 x0_5 x0_6 x0_7 x1) ho φ vs w may ha hM
  · cases h)
theorem cInside_en : Enters Try.prog 59 := fun args => by kernel_rfl
-- 239 60 8 ms

/-! azulejo/azulejoref12.Inside -/
def r12In_s0 (x1 : Int) : Int := IntKind.wrap IntKind.i64 (Int.tdiv (IntKind.wrap IntKind.i64 (x1 - (3 : Int))) (2 : Int))
def r12In_s1 (x0_0 : Int) (x0_1 : Int) (x0_2 : Int) (x0_3 : Int) (x1 : Int) : Int := List.getD [x0_0, x0_1, x0_2, x0_3] (Int.toNat (r12In_s0 x1)) (0 : Int)
def r12In_0 (x0_0 : Int) (x0_1 : Int) (x0_2 : Int) (x0_3 : Int) (x1 : Int) : Int := bif x1 == (0 : Int) then IntKind.wrap IntKind.i64 (x0_3 - (256 : Int)) else bif x1 == (1 : Int) then x0_2 else bif x1 == (2 : Int) then IntKind.wrap IntKind.i64 (x0_3 - x0_2) else IntKind.wrap IntKind.i64 (IntKind.wrap IntKind.i64 ((8 : Int) * x0_3) + bif Int.tmod x1 (2 : Int) == (0 : Int) then IntKind.wrap IntKind.i64 ((0 : Int) - r12In_s1 x0_0 x0_1 x0_2 x0_3 x1) else r12In_s1 x0_0 x0_1 x0_2 x0_3 x1)
def r12In_o (x0_0 : Int) (x0_1 : Int) (x0_2 : Int) (x0_3 : Int) (x0_4 : Int) (x0_5 : Int) (x0_6 : Int) (x0_7 : Int) (x1 : Int) : List Prop := [(!x1 == (0 : Int)) = true → (!x1 == (1 : Int)) = true → (!x1 == (2 : Int)) = true → (0 : Int) ≤ r12In_s0 x1 ∧ r12In_s0 x1 < Int.ofNat (4 : Nat), (!x1 == (0 : Int)) = true → (!x1 == (1 : Int)) = true → (!x1 == (2 : Int)) = true → Int.toNat (r12In_s0 x1) < (List.length [At.int false IntKind.i64 (0 : Int), At.int false IntKind.i64 (0 : Int), At.int false IntKind.i64 (0 : Int), At.int false IntKind.i64 (0 : Int)] - (0 : Nat)) / (1 : Nat)]
theorem r12In_p (x0_0 : Int) (x0_1 : Int) (x0_2 : Int) (x0_3 : Int) (x0_4 : Int) (x0_5 : Int) (x0_6 : Int) (x0_7 : Int) (x1 : Int) : evG Try.prog tabCa0 2000 60 [0, 1, 2, 4, 5, 6, 10, 15, 19, 32] [] [] [.g [.int true .i64 x0_0, .int true .i64 x0_1, .int true .i64 x0_2, .int true .i64 x0_3, .int true .i64 x0_4, .int true .i64 x0_5, .int true .i64 x0_6, .int true .i64 x0_7], .a (.int true .i64 x1)] [] = some (r12In_o x0_0 x0_1 x0_2 x0_3 x0_4 x0_5 x0_6 x0_7 x1, LV.a (At.int true IntKind.i64 (r12In_0 x0_0 x0_1 x0_2 x0_3 x1)), []) := by kernel_rfl
def r12In_c : Con
  | [.g [.int true .i64 x0_0, .int true .i64 x0_1, .int true .i64 x0_2, .int true .i64 x0_3, .int true .i64 x0_4, .int true .i64 x0_5, .int true .i64 x0_6, .int true .i64 x0_7], .a (.int true .i64 x1)], [] => some (r12In_o x0_0 x0_1 x0_2 x0_3 x0_4 x0_5 x0_6 x0_7 x1, LV.a (At.int true IntKind.i64 (r12In_0 x0_0 x0_1 x0_2 x0_3 x1)), [])
  | _, _ => none
theorem r12In_ok : ConOK Try.prog 60 (normC r12In_c) := normC_ok (by
  intro args bs obs lv out h ho φ vs w may ha hM
  unfold r12In_c at h
  split at h
  · simp only [Option.some.injEq, Prod.mk.injEq] at h
    obtain ⟨rfl, rfl, rfl⟩ := h
    rename_i x0_0 x0_1 x0_2 x0_3 x0_4 x0_5 x0_6 x0_7 x1
    exact evG_ok tabCa0_ok follows _ _ _ _ _ (r12In_p x0_0 x0_1 x0_2 x0_3 x0_4 x0_5 x0_6 x0_7 x1) ho φ vs w may ha hM
  · cases h)
theorem r12In_en : Enters Try.prog 60 := fun args => by kernel_rfl
-- 174 22 7 ms

/-! azulejo/azulejoref01.Floor -/
def rFloor0_s0 (x1 : Int) : Bool := decide (x1 < (0 : Int))
def rFloor0_s1 (x0 : Int) : Bool := decide ((0 : Int) ≤ x0)
def rFloor0_0 (x0 : Int) (x1 : Int) : Int := bif x1 == (0 : Int) then (0 : Int) else bif rFloor0_s0 x1 then (0 : Int) else bif rFloor0_s1 x0 then IntKind.wrap IntKind.i64 (Int.tdiv x0 x1) else IntKind.wrap IntKind.i64 ((0 : Int) - IntKind.wrap IntKind.i64 (Int.tdiv (IntKind.wrap IntKind.i64 (IntKind.wrap IntKind.i64 (x1 - (1 : Int)) - x0)) x1))
def rFloor0_o (x0 : Int) (x1 : Int) : List Prop := [(!x1 == (0 : Int)) = true → rFloor0_s0 x1 = true → False, (!x1 == (0 : Int)) = true → (!rFloor0_s0 x1) = true → rFloor0_s1 x0 = true → x1 ≠ (0 : Int), (!x1 == (0 : Int)) = true → (!rFloor0_s0 x1) = true → (!rFloor0_s1 x0) = true → x1 ≠ (0 : Int)]
theorem rFloor0_p (x0 : Int) (x1 : Int) : evG Try.prog tabCa0 2000 94 [0, 1, 4, 6, 8, 15] [] [] [.a (.int true .i64 x0), .a (.int true .i64 x1)] [] = some (rFloor0_o x0 x1, LV.a (At.int true IntKind.i64 (rFloor0_0 x0 x1)), []) := by kernel_rfl
def rFloor0_c : Con
  | [.a (.int true .i64 x0), .a (.int true .i64 x1)], [] => some (rFloor0_o x0 x1, LV.a (At.int true IntKind.i64 (rFloor0_0 x0 x1)), [])
  | _, _ => none
theorem rFloor0_ok : ConOK Try.prog 94 (normC rFloor0_c) := normC_ok (by
  intro args bs obs lv out h ho φ vs w may ha hM
  unfold rFloor0_c at h
  split at h
  · simp only [Option.some.injEq, Prod.mk.injEq] at h
    obtain ⟨rfl, rfl, rfl⟩ := h
    rename_i x0 x1
    exact evG_ok tabCa0_ok follows _ _ _ _ _ (rFloor0_p x0 x1) ho φ vs w may ha hM
  · cases h)
theorem rFloor0_en : Enters Try.prog 94 := fun args => by kernel_rfl
-- 70 9 5 ms

/-! azulejo/azulejoref12.bound -/
def r12bound_0 (x0 : Int) (x1 : Int) (x2 : Int) : Int := bif decide (x0 < x1) then x1 else bif decide (x2 < x0) then x2 else x0
theorem r12bound_p (x0 : Int) (x1 : Int) (x2 : Int) : evG Try.prog tabCa0 2000 91 [0, 1, 2, 6, 9, 13] [] [] [.a (.int true .i64 x0), .a (.int true .i64 x1), .a (.int true .i64 x2)] [] = some ([], LV.a (At.int true IntKind.i64 (r12bound_0 x0 x1 x2)), []) := by kernel_rfl
def r12bound_c : Con
  | [.a (.int true .i64 x0), .a (.int true .i64 x1), .a (.int true .i64 x2)], [] => some ([], LV.a (At.int true IntKind.i64 (r12bound_0 x0 x1 x2)), [])
  | _, _ => none
theorem r12bound_ok : ConOK Try.prog 91 (normC r12bound_c) := normC_ok (by
  intro args bs obs lv out h ho φ vs w may ha hM
  unfold r12bound_c at h
  split at h
  · simp only [Option.some.injEq, Prod.mk.injEq] at h
    obtain ⟨rfl, rfl, rfl⟩ := h
    rename_i x0 x1 x2
    exact evG_ok tabCa0_ok follows _ _ _ _ _ (r12bound_p x0 x1 x2) ho φ vs w may ha hM
  · cases h)
theorem r12bound_en : Enters Try.prog 91 := fun args => by kernel_rfl
-- 58 4 2 ms

/-! azulejo/azulejolaw12.Ref -/
theorem l12Ref_p (x0_0 : Int) (x0_1 : Int) (x0_2 : Int) (x0_3 : Int) (x0_4 : Int) (x0_5 : Int) (x0_6 : Int) (x0_7 : Int) : evG Try.prog tabCa0 2000 55 [0, 1, 2] [] [] [.g [.int true .i64 x0_0, .int true .i64 x0_1, .int true .i64 x0_2, .int true .i64 x0_3, .int true .i64 x0_4, .int true .i64 x0_5, .int true .i64 x0_6, .int true .i64 x0_7]] [] = some ([], LV.g [At.int true IntKind.i64 x0_0, At.int true IntKind.i64 x0_1, At.int true IntKind.i64 x0_2, At.int true IntKind.i64 x0_3, At.int true IntKind.i64 x0_4, At.int true IntKind.i64 x0_5, At.int true IntKind.i64 x0_6, At.int true IntKind.i64 x0_7], []) := by kernel_rfl
def l12Ref_c : Con
  | [.g [.int true .i64 x0_0, .int true .i64 x0_1, .int true .i64 x0_2, .int true .i64 x0_3, .int true .i64 x0_4, .int true .i64 x0_5, .int true .i64 x0_6, .int true .i64 x0_7]], [] => some ([], LV.g [At.int true IntKind.i64 x0_0, At.int true IntKind.i64 x0_1, At.int true IntKind.i64 x0_2, At.int true IntKind.i64 x0_3, At.int true IntKind.i64 x0_4, At.int true IntKind.i64 x0_5, At.int true IntKind.i64 x0_6, At.int true IntKind.i64 x0_7], [])
  | _, _ => none
theorem l12Ref_ok : ConOK Try.prog 55 (normC l12Ref_c) := normC_ok (by
  intro args bs obs lv out h ho φ vs w may ha hM
  unfold l12Ref_c at h
  split at h
  · simp only [Option.some.injEq, Prod.mk.injEq] at h
    obtain ⟨rfl, rfl, rfl⟩ := h
    rename_i x0_0 x0_1 x0_2 x0_3 x0_4 x0_5 x0_6 x0_7
    exact evG_ok tabCa0_ok follows _ _ _ _ _ (l12Ref_p x0_0 x0_1 x0_2 x0_3 x0_4 x0_5 x0_6 x0_7) ho φ vs w may ha hM
  · cases h)
theorem l12Ref_en : Enters Try.prog 55 := fun args => by kernel_rfl
-- 84 1 0 ms

/-! azulejo/azulejolaw12.Awake$1 -/
def aw12v_0 : Int := (0 : Int)
def aw12v_1 : Int := (65536 : Int)
def aw12v_2 : Int := (0 : Int)
def aw12v_3 : Int := (0 : Int)
def aw12v_4 : Int := (0 : Int)
def aw12v_5 : Int := (0 : Int)
theorem aw12v_p (x0 : Int) (x1 : Int) : evG Try.prog tabCa0 2000 85 [0, 1, 4] [] [] [.a (.int true .i64 x0), .a (.int true .i64 x1)] [] = some ([], LV.g [At.int true IntKind.i64 x0, At.int true IntKind.i64 x1, At.int false IntKind.i64 aw12v_0, At.int false IntKind.i64 aw12v_1, At.int false IntKind.i64 aw12v_2, At.int false IntKind.i64 aw12v_3, At.int false IntKind.i64 aw12v_4, At.int false IntKind.i64 aw12v_5], []) := by kernel_rfl
def aw12v_c : Con
  | [.a (.int true .i64 x0), .a (.int true .i64 x1)], [] => some ([], LV.g [At.int true IntKind.i64 x0, At.int true IntKind.i64 x1, At.int false IntKind.i64 aw12v_0, At.int false IntKind.i64 aw12v_1, At.int false IntKind.i64 aw12v_2, At.int false IntKind.i64 aw12v_3, At.int false IntKind.i64 aw12v_4, At.int false IntKind.i64 aw12v_5], [])
  | _, _ => none
theorem aw12v_ok : ConOK Try.prog 85 (normC aw12v_c) := normC_ok (by
  intro args bs obs lv out h ho φ vs w may ha hM
  unfold aw12v_c at h
  split at h
  · simp only [Option.some.injEq, Prod.mk.injEq] at h
    obtain ⟨rfl, rfl, rfl⟩ := h
    rename_i x0 x1
    exact evG_ok tabCa0_ok follows _ _ _ _ _ (aw12v_p x0 x1) ho φ vs w may ha hM
  · cases h)
theorem aw12v_en : Enters Try.prog 85 := fun args => by kernel_rfl
-- 61 1 2 ms

/-! azulejo/clip.Cross$1 -/
def crossB_0 (x0_0 : Int) (x1_0 : Int) (xa : Int) (xb : Int) : Int := IntKind.wrap IntKind.i64 (fWithin_0 x0_0 (4194304 : Int) + fFloor_0 (IntKind.wrap IntKind.i64 (IntKind.wrap IntKind.i64 (fWithin_0 x1_0 (4194304 : Int) - fWithin_0 x0_0 (4194304 : Int)) * xa)) (IntKind.wrap IntKind.i64 (xa - xb)))
def crossB_1 (x0_1 : Int) (x1_1 : Int) (xa : Int) (xb : Int) : Int := IntKind.wrap IntKind.i64 (fWithin_0 x0_1 (4194304 : Int) + fFloor_0 (IntKind.wrap IntKind.i64 (IntKind.wrap IntKind.i64 (fWithin_0 x1_1 (4194304 : Int) - fWithin_0 x0_1 (4194304 : Int)) * xa)) (IntKind.wrap IntKind.i64 (xa - xb)))
def crossB_2 (x0_2 : Int) (x1_2 : Int) (xa : Int) (xb : Int) : Int := IntKind.wrap IntKind.i64 (fWithin_0 x0_2 (4194304 : Int) + fFloor_0 (IntKind.wrap IntKind.i64 (IntKind.wrap IntKind.i64 (fWithin_0 x1_2 (4194304 : Int) - fWithin_0 x0_2 (4194304 : Int)) * xa)) (IntKind.wrap IntKind.i64 (xa - xb)))
def crossB_3 (x0_3 : Int) (x1_3 : Int) (xa : Int) (xb : Int) : Int := IntKind.wrap IntKind.i64 (fWithin_0 x0_3 (4194304 : Int) + fFloor_0 (IntKind.wrap IntKind.i64 (IntKind.wrap IntKind.i64 (fWithin_0 x1_3 (4194304 : Int) - fWithin_0 x0_3 (4194304 : Int)) * xa)) (IntKind.wrap IntKind.i64 (xa - xb)))
theorem crossB_p (x0_0 : Int) (x0_1 : Int) (x0_2 : Int) (x0_3 : Int) (x1_0 : Int) (x1_1 : Int) (x1_2 : Int) (x1_3 : Int) (r0 : Bool) (xa : Int) (r1 : Bool) (xb : Int) : evG Try.prog tabCa0 2000 88 [0, 1, 2, 3, 4, 5, 6, 7, 12, 13] [] [] [.g [.int true .i64 x0_0, .int true .i64 x0_1, .int true .i64 x0_2, .int true .i64 x0_3], .g [.int true .i64 x1_0, .int true .i64 x1_1, .int true .i64 x1_2, .int true .i64 x1_3], .a (.ptr 0 0), .a (.ptr 1 0)] [⟨⟨0, 1, r0, none⟩, [some (.int true .i64 xa)]⟩, ⟨⟨0, 1, r1, none⟩, [some (.int true .i64 xb)]⟩] = some ([], LV.g [At.int true IntKind.i64 (crossB_0 x0_0 x1_0 xa xb), At.int true IntKind.i64 (crossB_1 x0_1 x1_1 xa xb), At.int true IntKind.i64 (crossB_2 x0_2 x1_2 xa xb), At.int true IntKind.i64 (crossB_3 x0_3 x1_3 xa xb)], [none, none]) := by kernel_rfl
def crossB_c : Con
  | [.g [.int true .i64 x0_0, .int true .i64 x0_1, .int true .i64 x0_2, .int true .i64 x0_3], .g [.int true .i64 x1_0, .int true .i64 x1_1, .int true .i64 x1_2, .int true .i64 x1_3], .a (.ptr 0 0), .a (.ptr 1 0)], [⟨⟨0, 1, r0, none⟩, [some (.int true .i64 xa)]⟩, ⟨⟨0, 1, r1, none⟩, [some (.int true .i64 xb)]⟩] => some ([], LV.g [At.int true IntKind.i64 (crossB_0 x0_0 x1_0 xa xb), At.int true IntKind.i64 (crossB_1 x0_1 x1_1 xa xb), At.int true IntKind.i64 (crossB_2 x0_2 x1_2 xa xb), At.int true IntKind.i64 (crossB_3 x0_3 x1_3 xa xb)], [none, none])
  | _, _ => none
theorem crossB_ok : ConOK Try.prog 88 (normC crossB_c) := normC_ok (by
  intro args bs obs lv out h ho φ vs w may ha hM
  unfold crossB_c at h
  split at h
  · simp only [Option.some.injEq, Prod.mk.injEq] at h
    obtain ⟨rfl, rfl, rfl⟩ := h
    rename_i x0_0 x0_1 x0_2 x0_3 x1_0 x1_1 x1_2 x1_3 r0 xa r1 xb
    exact evG_ok tabCa0_ok follows _ _ _ _ _ (crossB_p x0_0 x0_1 x0_2 x0_3 x1_0 x1_1 x1_2 x1_3 r0 xa r1 xb) ho φ vs w may ha hM
  · cases h)
theorem crossB_en : Enters Try.prog 88 := fun args => by kernel_rfl
-- 491 8 9 ms

def tabCa1 : Tab := (59, normC cInside_c) :: (60, normC r12In_c) :: (94, normC rFloor0_c) :: (91, normC r12bound_c) :: (55, normC l12Ref_c) :: (85, normC aw12v_c) :: (88, normC crossB_c) :: tabCa0
theorem tabCa1_ok : TOK Try.prog tabCa1 := TOK.cons cInside_en cInside_ok (TOK.cons r12In_en r12In_ok (TOK.cons rFloor0_en rFloor0_ok (TOK.cons r12bound_en r12bound_ok (TOK.cons l12Ref_en l12Ref_ok (TOK.cons aw12v_en aw12v_ok (TOK.cons crossB_en crossB_ok (tabCa0_ok)))))))

end Go.Proofs.Ytbdmaepooahplaa

namespace Go.Proofs.Ytbdmaepooahplaa
open Go Go.RowKit Go.Proofs.Ytbdmaepooahplaa.V
set_option linter.unusedVariables false

/-! azulejo/azulejoref01.Floor -/
def rFloor_s0 (x1 : Int) : Bool := decide (x1 < (0 : Int))
def rFloor_s1 (x0 : Int) : Int := IntKind.wrap IntKind.i64 ((0 : Int) - x0)
def rFloor_s2 (x1 : Int) : Int := IntKind.wrap IntKind.i64 ((0 : Int) - x1)
def rFloor_s3 (x0 : Int) : Bool := decide ((0 : Int) ≤ x0)
def rFloor_0 (x0 : Int) (x1 : Int) : Int := bif x1 == (0 : Int) then (0 : Int) else bif rFloor_s0 x1 then rFloor0_0 (rFloor_s1 x0) (rFloor_s2 x1) else bif rFloor_s3 x0 then IntKind.wrap IntKind.i64 (Int.tdiv x0 x1) else IntKind.wrap IntKind.i64 ((0 : Int) - IntKind.wrap IntKind.i64 (Int.tdiv (IntKind.wrap IntKind.i64 (IntKind.wrap IntKind.i64 (x1 - (1 : Int)) - x0)) x1))
def rFloor_o (x0 : Int) (x1 : Int) : List Prop := [(!x1 == (0 : Int)) = true → rFloor_s0 x1 = true → (!rFloor_s2 x1 == (0 : Int)) = true → rFloor0_s0 (rFloor_s2 x1) = true → False, (!x1 == (0 : Int)) = true → rFloor_s0 x1 = true → (!rFloor_s2 x1 == (0 : Int)) = true → (!rFloor0_s0 (rFloor_s2 x1)) = true → rFloor0_s1 (rFloor_s1 x0) = true → rFloor_s2 x1 ≠ (0 : Int), (!x1 == (0 : Int)) = true → rFloor_s0 x1 = true → (!rFloor_s2 x1 == (0 : Int)) = true → (!rFloor0_s0 (rFloor_s2 x1)) = true → (!rFloor0_s1 (rFloor_s1 x0)) = true → rFloor_s2 x1 ≠ (0 : Int), (!x1 == (0 : Int)) = true → (!rFloor_s0 x1) = true → rFloor_s3 x0 = true → x1 ≠ (0 : Int), (!x1 == (0 : Int)) = true → (!rFloor_s0 x1) = true → (!rFloor_s3 x0) = true → x1 ≠ (0 : Int)]
theorem rFloor_p (x0 : Int) (x1 : Int) : evG Try.prog tabCa1 2000 94 [0, 1, 4, 6, 8, 15] [] [] [.a (.int true .i64 x0), .a (.int true .i64 x1)] [] = some (rFloor_o x0 x1, LV.a (At.int true IntKind.i64 (rFloor_0 x0 x1)), []) := by kernel_rfl
def rFloor_c : Con
  | [.a (.int true .i64 x0), .a (.int true .i64 x1)], [] => some (rFloor_o x0 x1, LV.a (At.int true IntKind.i64 (rFloor_0 x0 x1)), [])
  | _, _ => none
theorem rFloor_ok : ConOK Try.prog 94 (normC rFloor_c) := normC_ok (by
  intro args bs obs lv out h ho φ vs w may ha hM
  unfold rFloor_c at h
  split at h
  · simp only [Option.some.injEq, Prod.mk.injEq] at h
    obtain ⟨rfl, rfl, rfl⟩ := h
    rename_i x0 x1
    exact evG_ok tabCa1_ok follows _ _ _ _ _ (rFloor_p x0 x1) ho φ vs w may ha hM
  · cases h)
theorem rFloor_en : Enters Try.prog 94 := fun args => by kernel_rfl
-- 103 10 8 ms

/-! azulejo/clip.Cross -/
def cCross_s0 (x0_0 : Int) (x0_1 : Int) (x0_2 : Int) (x0_3 : Int) (x1_0 : Int) (x1_1 : Int) (x1_2 : Int) (x1_3 : Int) (x2 : Int) : Bool := bif decide (cInside_0 x0_0 x0_1 x0_2 x0_3 x2 < (0 : Int)) then true else decide ((0 : Int) ≤ cInside_0 x1_0 x1_1 x1_2 x1_3 x2)
def cCross_0 (x0_0 : Int) (x0_1 : Int) (x0_2 : Int) (x0_3 : Int) (x1_0 : Int) (x1_1 : Int) (x1_2 : Int) (x1_3 : Int) (x2 : Int) : Int := bif cCross_s0 x0_0 x0_1 x0_2 x0_3 x1_0 x1_1 x1_2 x1_3 x2 then x0_0 else crossB_0 x0_0 x1_0 (cInside_0 x0_0 x0_1 x0_2 x0_3 x2) (cInside_0 x1_0 x1_1 x1_2 x1_3 x2)
def cCross_1 (x0_0 : Int) (x0_1 : Int) (x0_2 : Int) (x0_3 : Int) (x1_0 : Int) (x1_1 : Int) (x1_2 : Int) (x1_3 : Int) (x2 : Int) : Int := bif cCross_s0 x0_0 x0_1 x0_2 x0_3 x1_0 x1_1 x1_2 x1_3 x2 then x0_1 else crossB_1 x0_1 x1_1 (cInside_0 x0_0 x0_1 x0_2 x0_3 x2) (cInside_0 x1_0 x1_1 x1_2 x1_3 x2)
def cCross_2 (x0_0 : Int) (x0_1 : Int) (x0_2 : Int) (x0_3 : Int) (x1_0 : Int) (x1_1 : Int) (x1_2 : Int) (x1_3 : Int) (x2 : Int) : Int := bif cCross_s0 x0_0 x0_1 x0_2 x0_3 x1_0 x1_1 x1_2 x1_3 x2 then x0_2 else crossB_2 x0_2 x1_2 (cInside_0 x0_0 x0_1 x0_2 x0_3 x2) (cInside_0 x1_0 x1_1 x1_2 x1_3 x2)
def cCross_3 (x0_0 : Int) (x0_1 : Int) (x0_2 : Int) (x0_3 : Int) (x1_0 : Int) (x1_1 : Int) (x1_2 : Int) (x1_3 : Int) (x2 : Int) : Int := bif cCross_s0 x0_0 x0_1 x0_2 x0_3 x1_0 x1_1 x1_2 x1_3 x2 then x0_3 else crossB_3 x0_3 x1_3 (cInside_0 x0_0 x0_1 x0_2 x0_3 x2) (cInside_0 x1_0 x1_1 x1_2 x1_3 x2)
def cCross_4 (x0_0 : Int) (x0_1 : Int) (x0_2 : Int) (x0_3 : Int) (x0_4 : Int) (x1_0 : Int) (x1_1 : Int) (x1_2 : Int) (x1_3 : Int) (x1_4 : Int) (x2 : Int) : Int := bif cCross_s0 x0_0 x0_1 x0_2 x0_3 x1_0 x1_1 x1_2 x1_3 x2 then x0_4 else crossB_0 x0_4 x1_4 (cInside_0 x0_0 x0_1 x0_2 x0_3 x2) (cInside_0 x1_0 x1_1 x1_2 x1_3 x2)
def cCross_5 (x0_0 : Int) (x0_1 : Int) (x0_2 : Int) (x0_3 : Int) (x0_5 : Int) (x1_0 : Int) (x1_1 : Int) (x1_2 : Int) (x1_3 : Int) (x1_5 : Int) (x2 : Int) : Int := bif cCross_s0 x0_0 x0_1 x0_2 x0_3 x1_0 x1_1 x1_2 x1_3 x2 then x0_5 else crossB_1 x0_5 x1_5 (cInside_0 x0_0 x0_1 x0_2 x0_3 x2) (cInside_0 x1_0 x1_1 x1_2 x1_3 x2)
def cCross_6 (x0_0 : Int) (x0_1 : Int) (x0_2 : Int) (x0_3 : Int) (x0_6 : Int) (x1_0 : Int) (x1_1 : Int) (x1_2 : Int) (x1_3 : Int) (x1_6 : Int) (x2 : Int) : Int := bif cCross_s0 x0_0 x0_1 x0_2 x0_3 x1_0 x1_1 x1_2 x1_3 x2 then x0_6 else crossB_2 x0_6 x1_6 (cInside_0 x0_0 x0_1 x0_2 x0_3 x2) (cInside_0 x1_0 x1_1 x1_2 x1_3 x2)
def cCross_7 (x0_0 : Int) (x0_1 : Int) (x0_2 : Int) (x0_3 : Int) (x0_7 : Int) (x1_0 : Int) (x1_1 : Int) (x1_2 : Int) (x1_3 : Int) (x1_7 : Int) (x2 : Int) : Int := bif cCross_s0 x0_0 x0_1 x0_2 x0_3 x1_0 x1_1 x1_2 x1_3 x2 then x0_7 else crossB_3 x0_7 x1_7 (cInside_0 x0_0 x0_1 x0_2 x0_3 x2) (cInside_0 x1_0 x1_1 x1_2 x1_3 x2)
theorem cCross_p (x0_0 : Int) (x0_1 : Int) (x0_2 : Int) (x0_3 : Int) (x0_4 : Int) (x0_5 : Int) (x0_6 : Int) (x0_7 : Int) (x1_0 : Int) (x1_1 : Int) (x1_2 : Int) (x1_3 : Int) (x1_4 : Int) (x1_5 : Int) (x1_6 : Int) (x1_7 : Int) (x2 : Int) : evG Try.prog tabCa1 2000 61 [0, 1, 2, 3, 4, 6, 7, 8, 9, 21] [] [] [.g [.int true .i64 x0_0, .int true .i64 x0_1, .int true .i64 x0_2, .int true .i64 x0_3, .int true .i64 x0_4, .int true .i64 x0_5, .int true .i64 x0_6, .int true .i64 x0_7], .g [.int true .i64 x1_0, .int true .i64 x1_1, .int true .i64 x1_2, .int true .i64 x1_3, .int true .i64 x1_4, .int true .i64 x1_5, .int true .i64 x1_6, .int true .i64 x1_7], .a (.int true .i64 x2)] [] = some ([], LV.g [At.int true IntKind.i64 (cCross_0 x0_0 x0_1 x0_2 x0_3 x1_0 x1_1 x1_2 x1_3 x2), At.int true IntKind.i64 (cCross_1 x0_0 x0_1 x0_2 x0_3 x1_0 x1_1 x1_2 x1_3 x2), At.int true IntKind.i64 (cCross_2 x0_0 x0_1 x0_2 x0_3 x1_0 x1_1 x1_2 x1_3 x2), At.int true IntKind.i64 (cCross_3 x0_0 x0_1 x0_2 x0_3 x1_0 x1_1 x1_2 x1_3 x2), At.int true IntKind.i64 (cCross_4 x0_0 x0_1 x0_2 x0_3 x0_4 x1_0 x1_1 x1_2 x1_3 x1_4 x2), At.int true IntKind.i64 (cCross_5 x0_0 x0_1 x0_2 x0_3 x0_5 x1_0 x1_1 x1_2 x1_3 x1_5 x2), At.int true IntKind.i64 (cCross_6 x0_0 x0_1 x0_2 x0_3 x0_6 x1_0 x1_1 x1_2 x1_3 x1_6 x2), At.int true IntKind.i64 (cCross_7 x0_0 x0_1 x0_2 x0_3 x0_7 x1_0 x1_1 x1_2 x1_3 x1_7 x2)], []) := by kernel_rfl
def cCross_c : Con
  | [.g [.int true .i64 x0_0, .int true .i64 x0_1, .int true .i64 x0_2, .int true .i64 x0_3, .int true .i64 x0_4, .int true .i64 x0_5, .int true .i64 x0_6, .int true .i64 x0_7], .g [.int true .i64 x1_0, .int true .i64 x1_1, .int true .i64 x1_2, .int true .i64 x1_3, .int true .i64 x1_4, .int true .i64 x1_5, .int true .i64 x1_6, .int true .i64 x1_7], .a (.int true .i64 x2)], [] => some ([], LV.g [At.int true IntKind.i64 (cCross_0 x0_0 x0_1 x0_2 x0_3 x1_0 x1_1 x1_2 x1_3 x2), At.int true IntKind.i64 (cCross_1 x0_0 x0_1 x0_2 x0_3 x1_0 x1_1 x1_2 x1_3 x2), At.int true IntKind.i64 (cCross_2 x0_0 x0_1 x0_2 x0_3 x1_0 x1_1 x1_2 x1_3 x2), At.int true IntKind.i64 (cCross_3 x0_0 x0_1 x0_2 x0_3 x1_0 x1_1 x1_2 x1_3 x2), At.int true IntKind.i64 (cCross_4 x0_0 x0_1 x0_2 x0_3 x0_4 x1_0 x1_1 x1_2 x1_3 x1_4 x2), At.int true IntKind.i64 (cCross_5 x0_0 x0_1 x0_2 x0_3 x0_5 x1_0 x1_1 x1_2 x1_3 x1_5 x2), At.int true IntKind.i64 (cCross_6 x0_0 x0_1 x0_2 x0_3 x0_6 x1_0 x1_1 x1_2 x1_3 x1_6 x2), At.int true IntKind.i64 (cCross_7 x0_0 x0_1 x0_2 x0_3 x0_7 x1_0 x1_1 x1_2 x1_3 x1_7 x2)], [])
  | _, _ => none
theorem cCross_ok : ConOK Try.prog 61 (normC cCross_c) := normC_ok (by
  intro args bs obs lv out h ho φ vs w may ha hM
  unfold cCross_c at h
  split at h
  · simp only [Option.some.injEq, Prod.mk.injEq] at h
    obtain ⟨rfl, rfl, rfl⟩ := h
    rename_i x0_0 x0_1 x0_2 x0_3 x0_4 x0_5 x0_6 x0_7 x1_0 x1_1 x1_2 x1_3 x1_4 x1_5 x1_6 x1_7 x2
    exact evG_ok tabCa1_ok follows _ _ _ _ _ (cCross_p x0_0 x0_1 x0_2 x0_3 x0_4 x0_5 x0_6 x0_7 x1_0 x1_1 x1_2 x1_3 x1_4 x1_5 x1_6 x1_7 x2) ho φ vs w may ha hM
  · cases h)
theorem cCross_en : Enters Try.prog 61 := fun args => by kernel_rfl
-- 337 27 14 ms

def tabCa2 : Tab := (94, normC rFloor_c) :: (61, normC cCross_c) :: tabCa1
theorem tabCa2_ok : TOK Try.prog tabCa2 := TOK.cons rFloor_en rFloor_ok (TOK.cons cCross_en cCross_ok (tabCa1_ok))

end Go.Proofs.Ytbdmaepooahplaa

namespace Go.Proofs.Ytbdmaepooahplaa
open Go Go.RowKit Go.Proofs.Ytbdmaepooahplaa.V
set_option linter.unusedVariables false

/-! azulejo/clip.by -/
noncomputable def cBy_l29_code : Go.Code := loopOf (subs (bodyOf Try.prog 87) 1 29)
structure cBy_l29_T where
  a0 : Int
  a1 : Int
  a2 : Int
  a3 : List (List Int)
  a4 : List (List Int)
  deriving Inhabited
def cBy_l29_hd (v : cBy_l29_T) : HS := HS.mk [(nat_lit 0, LV.a (At.vec (nat_lit 0) (nat_lit 0) (nat_lit 8))), (nat_lit 1, LV.a (At.int true IntKind.i64 (cBy_l29_T.a0 v))), (nat_lit 4, LV.a At.nils), (nat_lit 5, LV.a (At.vec (nat_lit 1) (nat_lit 0) (nat_lit 8))), (nat_lit 11, LV.a (At.vec (nat_lit 0) (nat_lit 0) (nat_lit 8))), (nat_lit 12, LV.a (At.int true IntKind.i64 (cBy_l29_T.a1 v))), (nat_lit 13, LV.a (At.int true IntKind.i64 (cBy_l29_T.a2 v)))] [BC.mk (Hd.mk (nat_lit 0) (nat_lit 0) true (some (Rw.mk (nat_lit 0) [Kd.int IntKind.i64, Kd.int IntKind.i64, Kd.int IntKind.i64, Kd.int IntKind.i64, Kd.int IntKind.i64, Kd.int IntKind.i64, Kd.int IntKind.i64, Kd.int IntKind.i64] (cBy_l29_T.a3 v) none))) [], BC.mk (Hd.mk (nat_lit 0) (nat_lit 0) false (some (Rw.mk (nat_lit 0) [Kd.int IntKind.i64, Kd.int IntKind.i64, Kd.int IntKind.i64, Kd.int IntKind.i64, Kd.int IntKind.i64, Kd.int IntKind.i64, Kd.int IntKind.i64, Kd.int IntKind.i64] (cBy_l29_T.a4 v) none))) []]
def cBy_l29_s0 (v : cBy_l29_T) : Bool := decide (cBy_l29_T.a2 v < cBy_l29_T.a1 v)
def cBy_l29_s1 (v : cBy_l29_T) : Int := IntKind.wrap IntKind.i64 (cBy_l29_T.a2 v + (1 : Int))
def cBy_l29_s2 (v : cBy_l29_T) : List (List Int) := Rw.l (Rw.mk (nat_lit 0) [Kd.int IntKind.i64, Kd.int IntKind.i64, Kd.int IntKind.i64, Kd.int IntKind.i64, Kd.int IntKind.i64, Kd.int IntKind.i64, Kd.int IntKind.i64, Kd.int IntKind.i64] (cBy_l29_T.a3 v) none)
def cBy_l29_s3 : Nat := (0 : Nat) + (1 : Nat)
def cBy_l29_s4 : Nat := cBy_l29_s3 + (1 : Nat)
def cBy_l29_s5 : Nat := cBy_l29_s4 + (1 : Nat)
def cBy_l29_s6 (v : cBy_l29_T) : Bool := decide ((0 : Int) ≤ cInside_0 (rget (cBy_l29_T.a3 v) (Int.toNat (cBy_l29_T.a2 v)) (0 : Nat)) (rget (cBy_l29_T.a3 v) (Int.toNat (cBy_l29_T.a2 v)) (1 : Nat)) (rget (cBy_l29_T.a3 v) (Int.toNat (cBy_l29_T.a2 v)) (2 : Nat)) (rget (cBy_l29_T.a3 v) (Int.toNat (cBy_l29_T.a2 v)) (3 : Nat)) (cBy_l29_T.a0 v))
def cBy_l29_s7 (v : cBy_l29_T) : List (List Int) := cBy_l29_T.a4 v ++ [[rget (cBy_l29_T.a3 v) (Int.toNat (cBy_l29_T.a2 v)) (0 : Nat), rget (cBy_l29_T.a3 v) (Int.toNat (cBy_l29_T.a2 v)) (1 : Nat), rget (cBy_l29_T.a3 v) (Int.toNat (cBy_l29_T.a2 v)) (2 : Nat), rget (cBy_l29_T.a3 v) (Int.toNat (cBy_l29_T.a2 v)) (3 : Nat), rget (cBy_l29_T.a3 v) (Int.toNat (cBy_l29_T.a2 v)) (4 : Nat), rget (cBy_l29_T.a3 v) (Int.toNat (cBy_l29_T.a2 v)) (5 : Nat), rget (cBy_l29_T.a3 v) (Int.toNat (cBy_l29_T.a2 v)) (6 : Nat), rget (cBy_l29_T.a3 v) (Int.toNat (cBy_l29_T.a2 v)) (7 : Nat)]]
def cBy_l29_s8 (v : cBy_l29_T) : Int := rget (cBy_l29_T.a3 v) (Int.toNat (Int.tmod (cBy_l29_s1 v) (Int.ofNat (List.length (cBy_l29_T.a3 v))))) (0 : Nat)
def cBy_l29_s9 (v : cBy_l29_T) : Int := rget (cBy_l29_T.a3 v) (Int.toNat (Int.tmod (cBy_l29_s1 v) (Int.ofNat (List.length (cBy_l29_T.a3 v))))) (1 : Nat)
def cBy_l29_s10 (v : cBy_l29_T) : Int := rget (cBy_l29_T.a3 v) (Int.toNat (Int.tmod (cBy_l29_s1 v) (Int.ofNat (List.length (cBy_l29_T.a3 v))))) (2 : Nat)
def cBy_l29_s11 (v : cBy_l29_T) : Int := rget (cBy_l29_T.a3 v) (Int.toNat (Int.tmod (cBy_l29_s1 v) (Int.ofNat (List.length (cBy_l29_T.a3 v))))) (3 : Nat)
def cBy_l29_s12 (v : cBy_l29_T) : Nat := Int.toNat (Int.tmod (cBy_l29_s1 v) ↑(List.length (cBy_l29_s2 v)))
def cBy_l29_s13 (v : cBy_l29_T) : Bool := decide ((0 : Int) ≤ cInside_0 (cBy_l29_s8 v) (cBy_l29_s9 v) (cBy_l29_s10 v) (cBy_l29_s11 v) (cBy_l29_T.a0 v))
def cBy_l29_s14 (v : cBy_l29_T) : Int := rget (cBy_l29_T.a3 v) (Int.toNat (Int.tmod (cBy_l29_s1 v) (Int.ofNat (List.length (cBy_l29_T.a3 v))))) (4 : Nat)
def cBy_l29_s15 (v : cBy_l29_T) : Int := rget (cBy_l29_T.a3 v) (Int.toNat (Int.tmod (cBy_l29_s1 v) (Int.ofNat (List.length (cBy_l29_T.a3 v))))) (5 : Nat)
def cBy_l29_s16 (v : cBy_l29_T) : Int := rget (cBy_l29_T.a3 v) (Int.toNat (Int.tmod (cBy_l29_s1 v) (Int.ofNat (List.length (cBy_l29_T.a3 v))))) (6 : Nat)
def cBy_l29_s17 (v : cBy_l29_T) : Int := rget (cBy_l29_T.a3 v) (Int.toNat (Int.tmod (cBy_l29_s1 v) (Int.ofNat (List.length (cBy_l29_T.a3 v))))) (7 : Nat)
def cBy_l29_s18 (v : cBy_l29_T) : List (List Int) := (bif cBy_l29_s6 v then cBy_l29_s7 v else cBy_l29_T.a4 v) ++ [[cCross_0 (rget (cBy_l29_T.a3 v) (Int.toNat (cBy_l29_T.a2 v)) (0 : Nat)) (rget (cBy_l29_T.a3 v) (Int.toNat (cBy_l29_T.a2 v)) (1 : Nat)) (rget (cBy_l29_T.a3 v) (Int.toNat (cBy_l29_T.a2 v)) (2 : Nat)) (rget (cBy_l29_T.a3 v) (Int.toNat (cBy_l29_T.a2 v)) (3 : Nat)) (cBy_l29_s8 v) (cBy_l29_s9 v) (cBy_l29_s10 v) (cBy_l29_s11 v) (cBy_l29_T.a0 v), cCross_1 (rget (cBy_l29_T.a3 v) (Int.toNat (cBy_l29_T.a2 v)) (0 : Nat)) (rget (cBy_l29_T.a3 v) (Int.toNat (cBy_l29_T.a2 v)) (1 : Nat)) (rget (cBy_l29_T.a3 v) (Int.toNat (cBy_l29_T.a2 v)) (2 : Nat)) (rget (cBy_l29_T.a3 v) (Int.toNat (cBy_l29_T.a2 v)) (3 : Nat)) (cBy_l29_s8 v) (cBy_l29_s9 v) (cBy_l29_s10 v) (cBy_l29_s11 v) (cBy_l29_T.a0 v), cCross_2 (rget (cBy_l29_T.a3 v) (Int.toNat (cBy_l29_T.a2 v)) (0 : Nat)) (rget (cBy_l29_T.a3 v) (Int.toNat (cBy_l29_T.a2 v)) (1 : Nat)) (rget (cBy_l29_T.a3 v) (Int.toNat (cBy_l29_T.a2 v)) (2 : Nat)) (rget (cBy_l29_T.a3 v) (Int.toNat (cBy_l29_T.a2 v)) (3 : Nat)) (cBy_l29_s8 v) (cBy_l29_s9 v) (cBy_l29_s10 v) (cBy_l29_s11 v) (cBy_l29_T.a0 v), cCross_3 (rget (cBy_l29_T.a3 v) (Int.toNat (cBy_l29_T.a2 v)) (0 : Nat)) (rget (cBy_l29_T.a3 v) (Int.toNat (cBy_l29_T.a2 v)) (1 : Nat)) (rget (cBy_l29_T.a3 v) (Int.toNat (cBy_l29_T.a2 v)) (2 : Nat)) (rget (cBy_l29_T.a3 v) (Int.toNat (cBy_l29_T.a2 v)) (3 : Nat)) (cBy_l29_s8 v) (cBy_l29_s9 v) (cBy_l29_s10 v) (cBy_l29_s11 v) (cBy_l29_T.a0 v), cCross_4 (rget (cBy_l29_T.a3 v) (Int.toNat (cBy_l29_T.a2 v)) (0 : Nat)) (rget (cBy_l29_T.a3 v) (Int.toNat (cBy_l29_T.a2 v)) (1 : Nat)) (rget (cBy_l29_T.a3 v) (Int.toNat (cBy_l29_T.a2 v)) (2 : Nat)) (rget (cBy_l29_T.a3 v) (Int.toNat (cBy_l29_T.a2 v)) (3 : Nat)) (rget (cBy_l29_T.a3 v) (Int.toNat (cBy_l29_T.a2 v)) (4 : Nat)) (cBy_l29_s8 v) (cBy_l29_s9 v) (cBy_l29_s10 v) (cBy_l29_s11 v) (cBy_l29_s14 v) (cBy_l29_T.a0 v), cCross_5 (rget (cBy_l29_T.a3 v) (Int.toNat (cBy_l29_T.a2 v)) (0 : Nat)) (rget (cBy_l29_T.a3 v) (Int.toNat (cBy_l29_T.a2 v)) (1 : Nat)) (rget (cBy_l29_T.a3 v) (Int.toNat (cBy_l29_T.a2 v)) (2 : Nat)) (rget (cBy_l29_T.a3 v) (Int.toNat (cBy_l29_T.a2 v)) (3 : Nat)) (rget (cBy_l29_T.a3 v) (Int.toNat (cBy_l29_T.a2 v)) (5 : Nat)) (cBy_l29_s8 v) (cBy_l29_s9 v) (cBy_l29_s10 v) (cBy_l29_s11 v) (cBy_l29_s15 v) (cBy_l29_T.a0 v), cCross_6 (rget (cBy_l29_T.a3 v) (Int.toNat (cBy_l29_T.a2 v)) (0 : Nat)) (rget (cBy_l29_T.a3 v) (Int.toNat (cBy_l29_T.a2 v)) (1 : Nat)) (rget (cBy_l29_T.a3 v) (Int.toNat (cBy_l29_T.a2 v)) (2 : Nat)) (rget (cBy_l29_T.a3 v) (Int.toNat (cBy_l29_T.a2 v)) (3 : Nat)) (rget (cBy_l29_T.a3 v) (Int.toNat (cBy_l29_T.a2 v)) (6 : Nat)) (cBy_l29_s8 v) (cBy_l29_s9 v) (cBy_l29_s10 v) (cBy_l29_s11 v) (cBy_l29_s16 v) (cBy_l29_T.a0 v), cCross_7 (rget (cBy_l29_T.a3 v) (Int.toNat (cBy_l29_T.a2 v)) (0 : Nat)) (rget (cBy_l29_T.a3 v) (Int.toNat (cBy_l29_T.a2 v)) (1 : Nat)) (rget (cBy_l29_T.a3 v) (Int.toNat (cBy_l29_T.a2 v)) (2 : Nat)) (rget (cBy_l29_T.a3 v) (Int.toNat (cBy_l29_T.a2 v)) (3 : Nat)) (rget (cBy_l29_T.a3 v) (Int.toNat (cBy_l29_T.a2 v)) (7 : Nat)) (cBy_l29_s8 v) (cBy_l29_s9 v) (cBy_l29_s10 v) (cBy_l29_s11 v) (cBy_l29_s17 v) (cBy_l29_T.a0 v)]]
def cBy_l29_s19 (v : cBy_l29_T) : List (List Int) := (bif cBy_l29_s6 v then cBy_l29_s7 v else cBy_l29_T.a4 v) ++ [[cCross_0 (cBy_l29_s8 v) (cBy_l29_s9 v) (cBy_l29_s10 v) (cBy_l29_s11 v) (rget (cBy_l29_T.a3 v) (Int.toNat (cBy_l29_T.a2 v)) (0 : Nat)) (rget (cBy_l29_T.a3 v) (Int.toNat (cBy_l29_T.a2 v)) (1 : Nat)) (rget (cBy_l29_T.a3 v) (Int.toNat (cBy_l29_T.a2 v)) (2 : Nat)) (rget (cBy_l29_T.a3 v) (Int.toNat (cBy_l29_T.a2 v)) (3 : Nat)) (cBy_l29_T.a0 v), cCross_1 (cBy_l29_s8 v) (cBy_l29_s9 v) (cBy_l29_s10 v) (cBy_l29_s11 v) (rget (cBy_l29_T.a3 v) (Int.toNat (cBy_l29_T.a2 v)) (0 : Nat)) (rget (cBy_l29_T.a3 v) (Int.toNat (cBy_l29_T.a2 v)) (1 : Nat)) (rget (cBy_l29_T.a3 v) (Int.toNat (cBy_l29_T.a2 v)) (2 : Nat)) (rget (cBy_l29_T.a3 v) (Int.toNat (cBy_l29_T.a2 v)) (3 : Nat)) (cBy_l29_T.a0 v), cCross_2 (cBy_l29_s8 v) (cBy_l29_s9 v) (cBy_l29_s10 v) (cBy_l29_s11 v) (rget (cBy_l29_T.a3 v) (Int.toNat (cBy_l29_T.a2 v)) (0 : Nat)) (rget (cBy_l29_T.a3 v) (Int.toNat (cBy_l29_T.a2 v)) (1 : Nat)) (rget (cBy_l29_T.a3 v) (Int.toNat (cBy_l29_T.a2 v)) (2 : Nat)) (rget (cBy_l29_T.a3 v) (Int.toNat (cBy_l29_T.a2 v)) (3 : Nat)) (cBy_l29_T.a0 v), cCross_3 (cBy_l29_s8 v) (cBy_l29_s9 v) (cBy_l29_s10 v) (cBy_l29_s11 v) (rget (cBy_l29_T.a3 v) (Int.toNat (cBy_l29_T.a2 v)) (0 : Nat)) (rget (cBy_l29_T.a3 v) (Int.toNat (cBy_l29_T.a2 v)) (1 : Nat)) (rget (cBy_l29_T.a3 v) (Int.toNat (cBy_l29_T.a2 v)) (2 : Nat)) (rget (cBy_l29_T.a3 v) (Int.toNat (cBy_l29_T.a2 v)) (3 : Nat)) (cBy_l29_T.a0 v), cCross_4 (cBy_l29_s8 v) (cBy_l29_s9 v) (cBy_l29_s10 v) (cBy_l29_s11 v) (cBy_l29_s14 v) (rget (cBy_l29_T.a3 v) (Int.toNat (cBy_l29_T.a2 v)) (0 : Nat)) (rget (cBy_l29_T.a3 v) (Int.toNat (cBy_l29_T.a2 v)) (1 : Nat)) (rget (cBy_l29_T.a3 v) (Int.toNat (cBy_l29_T.a2 v)) (2 : Nat)) (rget (cBy_l29_T.a3 v) (Int.toNat (cBy_l29_T.a2 v)) (3 : Nat)) (rget (cBy_l29_T.a3 v) (Int.toNat (cBy_l29_T.a2 v)) (4 : Nat)) (cBy_l29_T.a0 v), cCross_5 (cBy_l29_s8 v) (cBy_l29_s9 v) (cBy_l29_s10 v) (cBy_l29_s11 v) (cBy_l29_s15 v) (rget (cBy_l29_T.a3 v) (Int.toNat (cBy_l29_T.a2 v)) (0 : Nat)) (rget (cBy_l29_T.a3 v) (Int.toNat (cBy_l29_T.a2 v)) (1 : Nat)) (rget (cBy_l29_T.a3 v) (Int.toNat (cBy_l29_T.a2 v)) (2 : Nat)) (rget (cBy_l29_T.a3 v) (Int.toNat (cBy_l29_T.a2 v)) (3 : Nat)) (rget (cBy_l29_T.a3 v) (Int.toNat (cBy_l29_T.a2 v)) (5 : Nat)) (cBy_l29_T.a0 v), cCross_6 (cBy_l29_s8 v) (cBy_l29_s9 v) (cBy_l29_s10 v) (cBy_l29_s11 v) (cBy_l29_s16 v) (rget (cBy_l29_T.a3 v) (Int.toNat (cBy_l29_T.a2 v)) (0 : Nat)) (rget (cBy_l29_T.a3 v) (Int.toNat (cBy_l29_T.a2 v)) (1 : Nat)) (rget (cBy_l29_T.a3 v) (Int.toNat (cBy_l29_T.a2 v)) (2 : Nat)) (rget (cBy_l29_T.a3 v) (Int.toNat (cBy_l29_T.a2 v)) (3 : Nat)) (rget (cBy_l29_T.a3 v) (Int.toNat (cBy_l29_T.a2 v)) (6 : Nat)) (cBy_l29_T.a0 v), cCross_7 (cBy_l29_s8 v) (cBy_l29_s9 v) (cBy_l29_s10 v) (cBy_l29_s11 v) (cBy_l29_s17 v) (rget (cBy_l29_T.a3 v) (Int.toNat (cBy_l29_T.a2 v)) (0 : Nat)) (rget (cBy_l29_T.a3 v) (Int.toNat (cBy_l29_T.a2 v)) (1 : Nat)) (rget (cBy_l29_T.a3 v) (Int.toNat (cBy_l29_T.a2 v)) (2 : Nat)) (rget (cBy_l29_T.a3 v) (Int.toNat (cBy_l29_T.a2 v)) (3 : Nat)) (rget (cBy_l29_T.a3 v) (Int.toNat (cBy_l29_T.a2 v)) (7 : Nat)) (cBy_l29_T.a0 v)]]
def cBy_l29_st (v : cBy_l29_T) : List Prop × List (X × Bool × cBy_l29_T) := ([cBy_l29_s0 v = true → (0 : Int) ≤ cBy_l29_T.a2 v ∧ cBy_l29_T.a2 v < Int.ofNat (List.length (cBy_l29_T.a3 v)), cBy_l29_s0 v = true → Int.ofNat (List.length (cBy_l29_T.a3 v)) ≠ (0 : Int), cBy_l29_s0 v = true → (0 : Int) ≤ Int.tmod (cBy_l29_s1 v) (Int.ofNat (List.length (cBy_l29_T.a3 v))) ∧ Int.tmod (cBy_l29_s1 v) (Int.ofNat (List.length (cBy_l29_T.a3 v))) < Int.ofNat (List.length (cBy_l29_T.a3 v)), cBy_l29_s0 v = true → cBy_l29_s6 v = true → List.length (cBy_l29_s7 v) * (64 : Nat) ≤ (70368744177664 : Nat), cBy_l29_s0 v = true → (bif cBy_l29_s6 v then !cBy_l29_s13 v else false) = true → List.length (cBy_l29_s18 v) * (64 : Nat) ≤ (70368744177664 : Nat), cBy_l29_s0 v = true → (bif cBy_l29_s6 v then !cBy_l29_s13 v else false) = false → (bif cBy_l29_s13 v then !cBy_l29_s6 v else false) = true → List.length (cBy_l29_s19 v) * (64 : Nat) ≤ (70368744177664 : Nat)], [(X.e (0 : Nat), !cBy_l29_s0 v, cBy_l29_T.mk (cBy_l29_T.a0 v) (cBy_l29_T.a1 v) (cBy_l29_T.a2 v) (cBy_l29_T.a3 v) (cBy_l29_T.a4 v)), (X.n, cBy_l29_s0 v, cBy_l29_T.mk (cBy_l29_T.a0 v) (cBy_l29_T.a1 v) (cBy_l29_s1 v) (cBy_l29_T.a3 v) (bif bif cBy_l29_s6 v then !cBy_l29_s13 v else false then cBy_l29_s18 v else bif bif cBy_l29_s13 v then !cBy_l29_s6 v else false then cBy_l29_s19 v else bif cBy_l29_s6 v then cBy_l29_s7 v else cBy_l29_T.a4 v))])
def cBy_l29_rd : HS → Option cBy_l29_T
  | HS.mk [(0, LV.a (At.vec 0 0 8)), (1, LV.a (At.int true IntKind.i64 a0)), (4, LV.a At.nils), (5, LV.a (At.vec 1 0 8)), (11, LV.a (At.vec 0 0 8)), (12, LV.a (At.int true IntKind.i64 a1)), (13, LV.a (At.int true IntKind.i64 a2))] [BC.mk (Hd.mk 0 0 true (some (Rw.mk 0 [Kd.int IntKind.i64, Kd.int IntKind.i64, Kd.int IntKind.i64, Kd.int IntKind.i64, Kd.int IntKind.i64, Kd.int IntKind.i64, Kd.int IntKind.i64, Kd.int IntKind.i64] a3 none))) [], BC.mk (Hd.mk 0 0 false (some (Rw.mk 0 [Kd.int IntKind.i64, Kd.int IntKind.i64, Kd.int IntKind.i64, Kd.int IntKind.i64, Kd.int IntKind.i64, Kd.int IntKind.i64, Kd.int IntKind.i64, Kd.int IntKind.i64] a4 none))) []] => some (cBy_l29_T.mk a0 a1 a2 a3 a4)
  | _ => none
def cBy_l29_sum : V.Sum := loopS cBy_l29_hd cBy_l29_rd cBy_l29_st 18446744073709551616 [X.e (0 : Nat)] [0, 1, 4, 5, 6, 7, 8, 9, 10, 11, 12, 13, 14, 34, 39, 52] [0, 1, 4, 5, 11, 12, 13] [1] [1] [(5, [.int .i64, .int .i64, .int .i64, .int .i64, .int .i64, .int .i64, .int .i64, .int .i64])] 0
theorem cBy_l29_E : ∀ v, bodyF Try.prog tabCa2 (ntOf Try.prog 87) [0, 1, 4, 5, 6, 7, 8, 9, 10, 11, 12, 13, 14, 34, 39, 52] [0, 1, 4, 5, 11, 12, 13] [] 2000 [1] [1] cBy_l29_code 116 (cBy_l29_hd v) = some ((cBy_l29_st v).1, (cBy_l29_st v).2.map fun q => (q.1, q.2.1, cBy_l29_hd q.2.2)) := fun v => by kernel_rfl
set_option maxHeartbeats 2000000 in
theorem cBy_l29_R : ∀ h v, cBy_l29_rd h = some v → h = cBy_l29_hd v := by
  intro h v e
  unfold cBy_l29_rd at e
  split at e
  · simp only [Option.some.injEq] at e; subst e; rfl
  · cases e
theorem cBy_l29_sok : SumOK Try.prog (ntOf Try.prog 87) [0, 1, 4, 5, 6, 7, 8, 9, 10, 11, 12, 13, 14, 34, 39, 52] (.block (blockOf (subs (bodyOf Try.prog 87) 1 29)) (.loop cBy_l29_code)) cBy_l29_sum := loopS_ok tabCa2_ok follows cBy_l29_E cBy_l29_R (fun v => by kernel_rfl) (LOK_of _ _ (LOK_nil'))
def cBy_0 (x1 : Int) (l : List (List Int)) : List (List Int) := cBy_l29_T.a4 (V.valOf (lrun cBy_l29_st (18446744073709551616 : Nat) (cBy_l29_T.mk x1 (Int.ofNat (List.length l)) (0 : Int) l [])))
def cBy_o (x1 : Int) (r0 : Bool) (l : List (List Int)) : List Prop := [lok cBy_l29_st (18446744073709551616 : Nat) (cBy_l29_T.mk x1 (Int.ofNat (List.length l)) (0 : Int) l [])]
theorem cBy_p (x1 : Int) (r0 : Bool) (l : List (List Int)) : evG Try.prog tabCa2 2000 87 [0, 1, 4, 5, 6, 7, 8, 9, 10, 11, 12, 13, 14, 34, 39, 52] [(29, cBy_l29_sum)] [] [.a (.vec 0 0 8), .a (.int true .i64 x1)] [⟨⟨0, 0, r0, some ⟨0, [.int .i64, .int .i64, .int .i64, .int .i64, .int .i64, .int .i64, .int .i64, .int .i64], l, none⟩⟩, []⟩] = some (cBy_o x1 r0 l, LV.a (At.vec (nat_lit 1) (nat_lit 1) (nat_lit 8)), [none, some (BC.mk (Hd.mk (nat_lit 1) (nat_lit 0) false (some (Rw.mk (nat_lit 0) [Kd.int IntKind.i64, Kd.int IntKind.i64, Kd.int IntKind.i64, Kd.int IntKind.i64, Kd.int IntKind.i64, Kd.int IntKind.i64, Kd.int IntKind.i64, Kd.int IntKind.i64] (cBy_0 x1 l) none))) [])]) := by kernel_rfl
def cBy_c : Con
  | [.a (.vec 0 0 8), .a (.int true .i64 x1)], [⟨⟨0, 0, r0, some ⟨0, [.int .i64, .int .i64, .int .i64, .int .i64, .int .i64, .int .i64, .int .i64, .int .i64], l, none⟩⟩, []⟩] => some (cBy_o x1 r0 l, LV.a (At.vec (nat_lit 1) (nat_lit 1) (nat_lit 8)), [none, some (BC.mk (Hd.mk (nat_lit 1) (nat_lit 0) false (some (Rw.mk (nat_lit 0) [Kd.int IntKind.i64, Kd.int IntKind.i64, Kd.int IntKind.i64, Kd.int IntKind.i64, Kd.int IntKind.i64, Kd.int IntKind.i64, Kd.int IntKind.i64, Kd.int IntKind.i64] (cBy_0 x1 l) none))) [])])
  | _, _ => none
theorem cBy_ok : ConOK Try.prog 87 (normC cBy_c) := normC_ok (by
  intro args bs obs lv out h ho φ vs w may ha hM
  unfold cBy_c at h
  split at h
  · simp only [Option.some.injEq, Prod.mk.injEq] at h
    obtain ⟨rfl, rfl, rfl⟩ := h
    rename_i x1 r0 l
    exact evG_okL' tabCa2_ok follows (LOK_cons (show subs (bodyOf Try.prog 87) 1 29 = [.block (blockOf (subs (bodyOf Try.prog 87) 1 29)) (.loop cBy_l29_code)] from by kernel_rfl) cBy_l29_sok (LOK_nil')) _ _ _ _ _ (cBy_p x1 r0 l) ho φ vs w may ha hM
  · cases h)
theorem cBy_en : Enters Try.prog 87 := fun args => by kernel_rfl
-- 2223 10 5 ms

def tabCa3 : Tab := (87, normC cBy_c) :: tabCa2
theorem tabCa3_ok : TOK Try.prog tabCa3 := TOK.cons cBy_en cBy_ok (tabCa2_ok)

end Go.Proofs.Ytbdmaepooahplaa

namespace Go.Proofs.Ytbdmaepooahplaa
open Go Go.RowKit Go.Proofs.Ytbdmaepooahplaa.V

theorem vecLitC_ok : ConOK Try.prog 2 vecLitC := by
  intro args bs obs lv out h ho
  unfold vecLitC at h
  split at h
  · simp only [Option.some.injEq, Prod.mk.injEq] at h
    obtain ⟨rfl, rfl, rfl⟩ := h
    exact ho.1.elim
  · cases h
theorem vecLitC_en : Enters Try.prog 2 := fun args => by kernel_rfl
def tabCa4 : Tab := (2, vecLitC) :: tabCa3
theorem tabCa4_ok : TOK Try.prog tabCa4 := TOK.cons vecLitC_en vecLitC_ok tabCa3_ok

end Go.Proofs.Ytbdmaepooahplaa

namespace Go.Proofs.Ytbdmaepooahplaa
open Go Go.RowKit Go.Proofs.Ytbdmaepooahplaa.V
set_option linter.unusedVariables false

/-! azulejo/clip.Clip -/
noncomputable def cClip_l125_code : Go.Code := loopOf (subs (bodyOf Try.prog 56) 1 125)
structure cClip_l125_T where
  a0 : Int
  a1 : Int
  a2 : List (List Int)
  deriving Inhabited
def cClip_l125_hd (v : cClip_l125_T) : HS := HS.mk [(nat_lit 6, LV.a At.nils), (nat_lit 7, LV.a (At.vec (nat_lit 0) (nat_lit 0) (nat_lit 8))), (nat_lit 31, LV.a (At.vec (nat_lit 0) (nat_lit 0) (nat_lit 8))), (nat_lit 32, LV.a (At.int true IntKind.i64 (cClip_l125_T.a0 v))), (nat_lit 33, LV.a (At.int true IntKind.i64 (cClip_l125_T.a1 v)))] [BC.mk (Hd.mk (nat_lit 0) (nat_lit 0) false (some (Rw.mk (nat_lit 0) [Kd.int IntKind.i64, Kd.int IntKind.i64, Kd.int IntKind.i64, Kd.int IntKind.i64, Kd.int IntKind.i64, Kd.int IntKind.i64, Kd.int IntKind.i64, Kd.int IntKind.i64] (cClip_l125_T.a2 v) none))) []]
def cClip_l125_s0 (v : cClip_l125_T) : Bool := decide (cClip_l125_T.a1 v < cClip_l125_T.a0 v)
def cClip_l125_s1 (v : cClip_l125_T) : Int := fWithin_0 (rget (cClip_l125_T.a2 v) (Int.toNat (cClip_l125_T.a1 v)) (3 : Nat)) (4194304 : Int)
def cClip_l125_st (v : cClip_l125_T) : List Prop × List (X × Bool × cClip_l125_T) := ([cClip_l125_s0 v = true → (0 : Int) ≤ cClip_l125_T.a1 v ∧ cClip_l125_T.a1 v < Int.ofNat (List.length (cClip_l125_T.a2 v)), cClip_l125_s0 v = true → (0 : Int) ≤ cClip_l125_T.a1 v ∧ cClip_l125_T.a1 v < Int.ofNat (List.length (cClip_l125_T.a2 v))], [(X.e (2 : Nat), !cClip_l125_s0 v, cClip_l125_T.mk (cClip_l125_T.a0 v) (cClip_l125_T.a1 v) (cClip_l125_T.a2 v)), (X.n, cClip_l125_s0 v, cClip_l125_T.mk (cClip_l125_T.a0 v) (IntKind.wrap IntKind.i64 (cClip_l125_T.a1 v + (1 : Int))) (List.set (cClip_l125_T.a2 v) (Int.toNat (cClip_l125_T.a1 v)) [fWithin_0 (rget (cClip_l125_T.a2 v) (Int.toNat (cClip_l125_T.a1 v)) (0 : Nat)) (4194304 : Int), fWithin_0 (rget (cClip_l125_T.a2 v) (Int.toNat (cClip_l125_T.a1 v)) (1 : Nat)) (4194304 : Int), fWithin_0 (rget (cClip_l125_T.a2 v) (Int.toNat (cClip_l125_T.a1 v)) (2 : Nat)) (4194304 : Int), if cClip_l125_s1 v < (256 : Int) then (256 : Int) else cClip_l125_s1 v, vmColour_0 (rget (cClip_l125_T.a2 v) (Int.toNat (cClip_l125_T.a1 v)) (4 : Nat)), vmColour_1 (rget (cClip_l125_T.a2 v) (Int.toNat (cClip_l125_T.a1 v)) (5 : Nat)), vmColour_2 (rget (cClip_l125_T.a2 v) (Int.toNat (cClip_l125_T.a1 v)) (6 : Nat)), vmColour_3 (rget (cClip_l125_T.a2 v) (Int.toNat (cClip_l125_T.a1 v)) (7 : Nat))]))])
def cClip_l125_rd : HS → Option cClip_l125_T
  | HS.mk [(6, LV.a At.nils), (7, LV.a (At.vec 0 0 8)), (31, LV.a (At.vec 0 0 8)), (32, LV.a (At.int true IntKind.i64 a0)), (33, LV.a (At.int true IntKind.i64 a1))] [BC.mk (Hd.mk 0 0 false (some (Rw.mk 0 [Kd.int IntKind.i64, Kd.int IntKind.i64, Kd.int IntKind.i64, Kd.int IntKind.i64, Kd.int IntKind.i64, Kd.int IntKind.i64, Kd.int IntKind.i64, Kd.int IntKind.i64] a2 none))) []] => some (cClip_l125_T.mk a0 a1 a2)
  | _ => none
def cClip_l125_sum : V.Sum := loopS cClip_l125_hd cClip_l125_rd cClip_l125_st 18446744073709551616 [X.e (2 : Nat)] [0, 1, 2, 3, 4, 5, 6, 7, 8, 9, 10, 11, 16, 17, 30, 31, 32, 33, 34] [6, 7, 31, 32, 33] [0] [0] [] 2
theorem cClip_l125_E : ∀ v, bodyF Try.prog tabCa4 (ntOf Try.prog 56) [0, 1, 2, 3, 4, 5, 6, 7, 8, 9, 10, 11, 16, 17, 30, 31, 32, 33, 34] [6, 7, 31, 32, 33] [] 2000 [0] [0] cClip_l125_code 500 (cClip_l125_hd v) = some ((cClip_l125_st v).1, (cClip_l125_st v).2.map fun q => (q.1, q.2.1, cClip_l125_hd q.2.2)) := fun v => by kernel_rfl
set_option maxHeartbeats 2000000 in
theorem cClip_l125_R : ∀ h v, cClip_l125_rd h = some v → h = cClip_l125_hd v := by
  intro h v e
  unfold cClip_l125_rd at e
  split at e
  · simp only [Option.some.injEq] at e; subst e; rfl
  · cases e
theorem cClip_l125_sok : SumOK Try.prog (ntOf Try.prog 56) [0, 1, 2, 3, 4, 5, 6, 7, 8, 9, 10, 11, 16, 17, 30, 31, 32, 33, 34] (.block (blockOf (subs (bodyOf Try.prog 56) 1 125)) (.loop cClip_l125_code)) cClip_l125_sum := loopS_ok tabCa4_ok follows cClip_l125_E cClip_l125_R (fun v => by kernel_rfl) (LOK_of _ _ (LOK_nil'))
def cClip_s0 : Int := IntKind.wrap IntKind.i64 ((0 : Int) + (1 : Int))
def cClip_s1 : Int := IntKind.wrap IntKind.i64 (cClip_s0 + (1 : Int))
def cClip_s2 : Int := IntKind.wrap IntKind.i64 (cClip_s1 + (1 : Int))
def cClip_s3 : Int := IntKind.wrap IntKind.i64 (cClip_s2 + (1 : Int))
def cClip_s4 : Int := IntKind.wrap IntKind.i64 (cClip_s3 + (1 : Int))
def cClip_s5 : Int := IntKind.wrap IntKind.i64 (cClip_s4 + (1 : Int))
def cClip_s6 (x0_0 : Int) (x0_1 : Int) (x0_2 : Int) (x0_3 : Int) (x0_4 : Int) (x0_5 : Int) (x0_6 : Int) (x0_7 : Int) (x1_0 : Int) (x1_1 : Int) (x1_2 : Int) (x1_3 : Int) (x1_4 : Int) (x1_5 : Int) (x1_6 : Int) (x1_7 : Int) (x2_0 : Int) (x2_1 : Int) (x2_2 : Int) (x2_3 : Int) (x2_4 : Int) (x2_5 : Int) (x2_6 : Int) (x2_7 : Int) : List (List Int) := [[x0_0, x0_1, x0_2, x0_3, x0_4, x0_5, x0_6, x0_7], [x1_0, x1_1, x1_2, x1_3, x1_4, x1_5, x1_6, x1_7], [x2_0, x2_1, x2_2, x2_3, x2_4, x2_5, x2_6, x2_7]]
def cClip_s7 (x0_0 : Int) (x0_1 : Int) (x0_2 : Int) (x0_3 : Int) (x0_4 : Int) (x0_5 : Int) (x0_6 : Int) (x0_7 : Int) (x1_0 : Int) (x1_1 : Int) (x1_2 : Int) (x1_3 : Int) (x1_4 : Int) (x1_5 : Int) (x1_6 : Int) (x1_7 : Int) (x2_0 : Int) (x2_1 : Int) (x2_2 : Int) (x2_3 : Int) (x2_4 : Int) (x2_5 : Int) (x2_6 : Int) (x2_7 : Int) : List (List Int) := cBy_0 (0 : Int) (cClip_s6 x0_0 x0_1 x0_2 x0_3 x0_4 x0_5 x0_6 x0_7 x1_0 x1_1 x1_2 x1_3 x1_4 x1_5 x1_6 x1_7 x2_0 x2_1 x2_2 x2_3 x2_4 x2_5 x2_6 x2_7)
def cClip_s8 (x0_0 : Int) (x0_1 : Int) (x0_2 : Int) (x0_3 : Int) (x0_4 : Int) (x0_5 : Int) (x0_6 : Int) (x0_7 : Int) (x1_0 : Int) (x1_1 : Int) (x1_2 : Int) (x1_3 : Int) (x1_4 : Int) (x1_5 : Int) (x1_6 : Int) (x1_7 : Int) (x2_0 : Int) (x2_1 : Int) (x2_2 : Int) (x2_3 : Int) (x2_4 : Int) (x2_5 : Int) (x2_6 : Int) (x2_7 : Int) : List (List Int) := cBy_0 cClip_s0 (cClip_s7 x0_0 x0_1 x0_2 x0_3 x0_4 x0_5 x0_6 x0_7 x1_0 x1_1 x1_2 x1_3 x1_4 x1_5 x1_6 x1_7 x2_0 x2_1 x2_2 x2_3 x2_4 x2_5 x2_6 x2_7)
def cClip_s9 (x0_0 : Int) (x0_1 : Int) (x0_2 : Int) (x0_3 : Int) (x0_4 : Int) (x0_5 : Int) (x0_6 : Int) (x0_7 : Int) (x1_0 : Int) (x1_1 : Int) (x1_2 : Int) (x1_3 : Int) (x1_4 : Int) (x1_5 : Int) (x1_6 : Int) (x1_7 : Int) (x2_0 : Int) (x2_1 : Int) (x2_2 : Int) (x2_3 : Int) (x2_4 : Int) (x2_5 : Int) (x2_6 : Int) (x2_7 : Int) : List (List Int) := cBy_0 cClip_s1 (cClip_s8 x0_0 x0_1 x0_2 x0_3 x0_4 x0_5 x0_6 x0_7 x1_0 x1_1 x1_2 x1_3 x1_4 x1_5 x1_6 x1_7 x2_0 x2_1 x2_2 x2_3 x2_4 x2_5 x2_6 x2_7)
def cClip_s10 (x0_0 : Int) (x0_1 : Int) (x0_2 : Int) (x0_3 : Int) (x0_4 : Int) (x0_5 : Int) (x0_6 : Int) (x0_7 : Int) (x1_0 : Int) (x1_1 : Int) (x1_2 : Int) (x1_3 : Int) (x1_4 : Int) (x1_5 : Int) (x1_6 : Int) (x1_7 : Int) (x2_0 : Int) (x2_1 : Int) (x2_2 : Int) (x2_3 : Int) (x2_4 : Int) (x2_5 : Int) (x2_6 : Int) (x2_7 : Int) : List (List Int) := cBy_0 cClip_s2 (cClip_s9 x0_0 x0_1 x0_2 x0_3 x0_4 x0_5 x0_6 x0_7 x1_0 x1_1 x1_2 x1_3 x1_4 x1_5 x1_6 x1_7 x2_0 x2_1 x2_2 x2_3 x2_4 x2_5 x2_6 x2_7)
def cClip_s11 (x0_0 : Int) (x0_1 : Int) (x0_2 : Int) (x0_3 : Int) (x0_4 : Int) (x0_5 : Int) (x0_6 : Int) (x0_7 : Int) (x1_0 : Int) (x1_1 : Int) (x1_2 : Int) (x1_3 : Int) (x1_4 : Int) (x1_5 : Int) (x1_6 : Int) (x1_7 : Int) (x2_0 : Int) (x2_1 : Int) (x2_2 : Int) (x2_3 : Int) (x2_4 : Int) (x2_5 : Int) (x2_6 : Int) (x2_7 : Int) : List (List Int) := cBy_0 cClip_s3 (cClip_s10 x0_0 x0_1 x0_2 x0_3 x0_4 x0_5 x0_6 x0_7 x1_0 x1_1 x1_2 x1_3 x1_4 x1_5 x1_6 x1_7 x2_0 x2_1 x2_2 x2_3 x2_4 x2_5 x2_6 x2_7)
def cClip_s12 (x0_0 : Int) (x0_1 : Int) (x0_2 : Int) (x0_3 : Int) (x0_4 : Int) (x0_5 : Int) (x0_6 : Int) (x0_7 : Int) (x1_0 : Int) (x1_1 : Int) (x1_2 : Int) (x1_3 : Int) (x1_4 : Int) (x1_5 : Int) (x1_6 : Int) (x1_7 : Int) (x2_0 : Int) (x2_1 : Int) (x2_2 : Int) (x2_3 : Int) (x2_4 : Int) (x2_5 : Int) (x2_6 : Int) (x2_7 : Int) : List (List Int) := cBy_0 cClip_s4 (cClip_s11 x0_0 x0_1 x0_2 x0_3 x0_4 x0_5 x0_6 x0_7 x1_0 x1_1 x1_2 x1_3 x1_4 x1_5 x1_6 x1_7 x2_0 x2_1 x2_2 x2_3 x2_4 x2_5 x2_6 x2_7)
def cClip_s13 (x0_0 : Int) (x0_1 : Int) (x0_2 : Int) (x0_3 : Int) (x0_4 : Int) (x0_5 : Int) (x0_6 : Int) (x0_7 : Int) (x1_0 : Int) (x1_1 : Int) (x1_2 : Int) (x1_3 : Int) (x1_4 : Int) (x1_5 : Int) (x1_6 : Int) (x1_7 : Int) (x2_0 : Int) (x2_1 : Int) (x2_2 : Int) (x2_3 : Int) (x2_4 : Int) (x2_5 : Int) (x2_6 : Int) (x2_7 : Int) : List (List Int) := cBy_0 cClip_s5 (cClip_s12 x0_0 x0_1 x0_2 x0_3 x0_4 x0_5 x0_6 x0_7 x1_0 x1_1 x1_2 x1_3 x1_4 x1_5 x1_6 x1_7 x2_0 x2_1 x2_2 x2_3 x2_4 x2_5 x2_6 x2_7)
def cClip_s14 (x0_0 : Int) (x0_1 : Int) (x0_2 : Int) (x0_3 : Int) (x0_4 : Int) (x0_5 : Int) (x0_6 : Int) (x0_7 : Int) (x1_0 : Int) (x1_1 : Int) (x1_2 : Int) (x1_3 : Int) (x1_4 : Int) (x1_5 : Int) (x1_6 : Int) (x1_7 : Int) (x2_0 : Int) (x2_1 : Int) (x2_2 : Int) (x2_3 : Int) (x2_4 : Int) (x2_5 : Int) (x2_6 : Int) (x2_7 : Int) : Int := Int.ofNat (List.length (cClip_s13 x0_0 x0_1 x0_2 x0_3 x0_4 x0_5 x0_6 x0_7 x1_0 x1_1 x1_2 x1_3 x1_4 x1_5 x1_6 x1_7 x2_0 x2_1 x2_2 x2_3 x2_4 x2_5 x2_6 x2_7))
def cClip_s15 (x0_0 : Int) (x0_1 : Int) (x0_2 : Int) (x0_3 : Int) (x0_4 : Int) (x0_5 : Int) (x0_6 : Int) (x0_7 : Int) (x1_0 : Int) (x1_1 : Int) (x1_2 : Int) (x1_3 : Int) (x1_4 : Int) (x1_5 : Int) (x1_6 : Int) (x1_7 : Int) (x2_0 : Int) (x2_1 : Int) (x2_2 : Int) (x2_3 : Int) (x2_4 : Int) (x2_5 : Int) (x2_6 : Int) (x2_7 : Int) : Int := ↑(List.length (Rw.l (Rw.mk (nat_lit 0) [Kd.int IntKind.i64, Kd.int IntKind.i64, Kd.int IntKind.i64, Kd.int IntKind.i64, Kd.int IntKind.i64, Kd.int IntKind.i64, Kd.int IntKind.i64, Kd.int IntKind.i64] (cClip_s13 x0_0 x0_1 x0_2 x0_3 x0_4 x0_5 x0_6 x0_7 x1_0 x1_1 x1_2 x1_3 x1_4 x1_5 x1_6 x1_7 x2_0 x2_1 x2_2 x2_3 x2_4 x2_5 x2_6 x2_7) none)))
def cClip_s16 (x0_0 : Int) (x0_1 : Int) (x0_2 : Int) (x0_3 : Int) (x0_4 : Int) (x0_5 : Int) (x0_6 : Int) (x0_7 : Int) (x1_0 : Int) (x1_1 : Int) (x1_2 : Int) (x1_3 : Int) (x1_4 : Int) (x1_5 : Int) (x1_6 : Int) (x1_7 : Int) (x2_0 : Int) (x2_1 : Int) (x2_2 : Int) (x2_3 : Int) (x2_4 : Int) (x2_5 : Int) (x2_6 : Int) (x2_7 : Int) : Bool := bif decide (cClip_s14 x0_0 x0_1 x0_2 x0_3 x0_4 x0_5 x0_6 x0_7 x1_0 x1_1 x1_2 x1_3 x1_4 x1_5 x1_6 x1_7 x2_0 x2_1 x2_2 x2_3 x2_4 x2_5 x2_6 x2_7 < (3 : Int)) then true else decide ((16 : Int) < cClip_s14 x0_0 x0_1 x0_2 x0_3 x0_4 x0_5 x0_6 x0_7 x1_0 x1_1 x1_2 x1_3 x1_4 x1_5 x1_6 x1_7 x2_0 x2_1 x2_2 x2_3 x2_4 x2_5 x2_6 x2_7)
def cClip_0 (x0_0 : Int) (x0_1 : Int) (x0_2 : Int) (x0_3 : Int) (x0_4 : Int) (x0_5 : Int) (x0_6 : Int) (x0_7 : Int) (x1_0 : Int) (x1_1 : Int) (x1_2 : Int) (x1_3 : Int) (x1_4 : Int) (x1_5 : Int) (x1_6 : Int) (x1_7 : Int) (x2_0 : Int) (x2_1 : Int) (x2_2 : Int) (x2_3 : Int) (x2_4 : Int) (x2_5 : Int) (x2_6 : Int) (x2_7 : Int) : List (List Int) := bif cClip_s16 x0_0 x0_1 x0_2 x0_3 x0_4 x0_5 x0_6 x0_7 x1_0 x1_1 x1_2 x1_3 x1_4 x1_5 x1_6 x1_7 x2_0 x2_1 x2_2 x2_3 x2_4 x2_5 x2_6 x2_7 then [] else cClip_l125_T.a2 (V.valOf (lrun cClip_l125_st (18446744073709551616 : Nat) (cClip_l125_T.mk (cClip_s14 x0_0 x0_1 x0_2 x0_3 x0_4 x0_5 x0_6 x0_7 x1_0 x1_1 x1_2 x1_3 x1_4 x1_5 x1_6 x1_7 x2_0 x2_1 x2_2 x2_3 x2_4 x2_5 x2_6 x2_7) (0 : Int) (cClip_s13 x0_0 x0_1 x0_2 x0_3 x0_4 x0_5 x0_6 x0_7 x1_0 x1_1 x1_2 x1_3 x1_4 x1_5 x1_6 x1_7 x2_0 x2_1 x2_2 x2_3 x2_4 x2_5 x2_6 x2_7))))
def cClip_o (x0_0 : Int) (x0_1 : Int) (x0_2 : Int) (x0_3 : Int) (x0_4 : Int) (x0_5 : Int) (x0_6 : Int) (x0_7 : Int) (x1_0 : Int) (x1_1 : Int) (x1_2 : Int) (x1_3 : Int) (x1_4 : Int) (x1_5 : Int) (x1_6 : Int) (x1_7 : Int) (x2_0 : Int) (x2_1 : Int) (x2_2 : Int) (x2_3 : Int) (x2_4 : Int) (x2_5 : Int) (x2_6 : Int) (x2_7 : Int) : List Prop := [lok cBy_l29_st (18446744073709551616 : Nat) (cBy_l29_T.mk (0 : Int) (Int.ofNat (List.length (cClip_s6 x0_0 x0_1 x0_2 x0_3 x0_4 x0_5 x0_6 x0_7 x1_0 x1_1 x1_2 x1_3 x1_4 x1_5 x1_6 x1_7 x2_0 x2_1 x2_2 x2_3 x2_4 x2_5 x2_6 x2_7))) (0 : Int) (cClip_s6 x0_0 x0_1 x0_2 x0_3 x0_4 x0_5 x0_6 x0_7 x1_0 x1_1 x1_2 x1_3 x1_4 x1_5 x1_6 x1_7 x2_0 x2_1 x2_2 x2_3 x2_4 x2_5 x2_6 x2_7) []), lok cBy_l29_st (18446744073709551616 : Nat) (cBy_l29_T.mk cClip_s0 (Int.ofNat (List.length (cClip_s7 x0_0 x0_1 x0_2 x0_3 x0_4 x0_5 x0_6 x0_7 x1_0 x1_1 x1_2 x1_3 x1_4 x1_5 x1_6 x1_7 x2_0 x2_1 x2_2 x2_3 x2_4 x2_5 x2_6 x2_7))) (0 : Int) (cClip_s7 x0_0 x0_1 x0_2 x0_3 x0_4 x0_5 x0_6 x0_7 x1_0 x1_1 x1_2 x1_3 x1_4 x1_5 x1_6 x1_7 x2_0 x2_1 x2_2 x2_3 x2_4 x2_5 x2_6 x2_7) []), lok cBy_l29_st (18446744073709551616 : Nat) (cBy_l29_T.mk cClip_s1 (Int.ofNat (List.length (cClip_s8 x0_0 x0_1 x0_2 x0_3 x0_4 x0_5 x0_6 x0_7 x1_0 x1_1 x1_2 x1_3 x1_4 x1_5 x1_6 x1_7 x2_0 x2_1 x2_2 x2_3 x2_4 x2_5 x2_6 x2_7))) (0 : Int) (cClip_s8 x0_0 x0_1 x0_2 x0_3 x0_4 x0_5 x0_6 x0_7 x1_0 x1_1 x1_2 x1_3 x1_4 x1_5 x1_6 x1_7 x2_0 x2_1 x2_2 x2_3 x2_4 x2_5 x2_6 x2_7) []), lok cBy_l29_st (18446744073709551616 : Nat) (cBy_l29_T.mk cClip_s2 (Int.ofNat (List.length (cClip_s9 x0_0 x0_1 x0_2 x0_3 x0_4 x0_5 x0_6 x0_7 x1_0 x1_1 x1_2 x1_3 x1_4 x1_5 x1_6 x1_7 x2_0 x2_1 x2_2 x2_3 x2_4 x2_5 x2_6 x2_7))) (0 : Int) (cClip_s9 x0_0 x0_1 x0_2 x0_3 x0_4 x0_5 x0_6 x0_7 x1_0 x1_1 x1_2 x1_3 x1_4 x1_5 x1_6 x1_7 x2_0 x2_1 x2_2 x2_3 x2_4 x2_5 x2_6 x2_7) []), lok cBy_l29_st (18446744073709551616 : Nat) (cBy_l29_T.mk cClip_s3 (Int.ofNat (List.length (cClip_s10 x0_0 x0_1 x0_2 x0_3 x0_4 x0_5 x0_6 x0_7 x1_0 x1_1 x1_2 x1_3 x1_4 x1_5 x1_6 x1_7 x2_0 x2_1 x2_2 x2_3 x2_4 x2_5 x2_6 x2_7))) (0 : Int) (cClip_s10 x0_0 x0_1 x0_2 x0_3 x0_4 x0_5 x0_6 x0_7 x1_0 x1_1 x1_2 x1_3 x1_4 x1_5 x1_6 x1_7 x2_0 x2_1 x2_2 x2_3 x2_4 x2_5 x2_6 x2_7) []), lok cBy_l29_st (18446744073709551616 : Nat) (cBy_l29_T.mk cClip_s4 (Int.ofNat (List.length (cClip_s11 x0_0 x0_1 x0_2 x0_3 x0_4 x0_5 x0_6 x0_7 x1_0 x1_1 x1_2 x1_3 x1_4 x1_5 x1_6 x1_7 x2_0 x2_1 x2_2 x2_3 x2_4 x2_5 x2_6 x2_7))) (0 : Int) (cClip_s11 x0_0 x0_1 x0_2 x0_3 x0_4 x0_5 x0_6 x0_7 x1_0 x1_1 x1_2 x1_3 x1_4 x1_5 x1_6 x1_7 x2_0 x2_1 x2_2 x2_3 x2_4 x2_5 x2_6 x2_7) []), lok cBy_l29_st (18446744073709551616 : Nat) (cBy_l29_T.mk cClip_s5 (Int.ofNat (List.length (cClip_s12 x0_0 x0_1 x0_2 x0_3 x0_4 x0_5 x0_6 x0_7 x1_0 x1_1 x1_2 x1_3 x1_4 x1_5 x1_6 x1_7 x2_0 x2_1 x2_2 x2_3 x2_4 x2_5 x2_6 x2_7))) (0 : Int) (cClip_s12 x0_0 x0_1 x0_2 x0_3 x0_4 x0_5 x0_6 x0_7 x1_0 x1_1 x1_2 x1_3 x1_4 x1_5 x1_6 x1_7 x2_0 x2_1 x2_2 x2_3 x2_4 x2_5 x2_6 x2_7) []), (!cClip_s16 x0_0 x0_1 x0_2 x0_3 x0_4 x0_5 x0_6 x0_7 x1_0 x1_1 x1_2 x1_3 x1_4 x1_5 x1_6 x1_7 x2_0 x2_1 x2_2 x2_3 x2_4 x2_5 x2_6 x2_7) = true → lok cClip_l125_st (18446744073709551616 : Nat) (cClip_l125_T.mk (cClip_s14 x0_0 x0_1 x0_2 x0_3 x0_4 x0_5 x0_6 x0_7 x1_0 x1_1 x1_2 x1_3 x1_4 x1_5 x1_6 x1_7 x2_0 x2_1 x2_2 x2_3 x2_4 x2_5 x2_6 x2_7) (0 : Int) (cClip_s13 x0_0 x0_1 x0_2 x0_3 x0_4 x0_5 x0_6 x0_7 x1_0 x1_1 x1_2 x1_3 x1_4 x1_5 x1_6 x1_7 x2_0 x2_1 x2_2 x2_3 x2_4 x2_5 x2_6 x2_7))]
theorem cClip_p (x0_0 : Int) (x0_1 : Int) (x0_2 : Int) (x0_3 : Int) (x0_4 : Int) (x0_5 : Int) (x0_6 : Int) (x0_7 : Int) (x1_0 : Int) (x1_1 : Int) (x1_2 : Int) (x1_3 : Int) (x1_4 : Int) (x1_5 : Int) (x1_6 : Int) (x1_7 : Int) (x2_0 : Int) (x2_1 : Int) (x2_2 : Int) (x2_3 : Int) (x2_4 : Int) (x2_5 : Int) (x2_6 : Int) (x2_7 : Int) : evG Try.prog tabCa4 2000 56 [0, 1, 2, 3, 4, 5, 6, 7, 8, 9, 10, 11, 16, 17, 30, 31, 32, 33, 34] [(125, cClip_l125_sum)] [] [.g [.int true .i64 x0_0, .int true .i64 x0_1, .int true .i64 x0_2, .int true .i64 x0_3, .int true .i64 x0_4, .int true .i64 x0_5, .int true .i64 x0_6, .int true .i64 x0_7], .g [.int true .i64 x1_0, .int true .i64 x1_1, .int true .i64 x1_2, .int true .i64 x1_3, .int true .i64 x1_4, .int true .i64 x1_5, .int true .i64 x1_6, .int true .i64 x1_7], .g [.int true .i64 x2_0, .int true .i64 x2_1, .int true .i64 x2_2, .int true .i64 x2_3, .int true .i64 x2_4, .int true .i64 x2_5, .int true .i64 x2_6, .int true .i64 x2_7]] [] = some (cClip_o x0_0 x0_1 x0_2 x0_3 x0_4 x0_5 x0_6 x0_7 x1_0 x1_1 x1_2 x1_3 x1_4 x1_5 x1_6 x1_7 x2_0 x2_1 x2_2 x2_3 x2_4 x2_5 x2_6 x2_7, LV.a (At.vec (nat_lit 0) (nat_lit 2) (nat_lit 8)), [some (BC.mk (Hd.mk (nat_lit 2) (nat_lit 0) false (some (Rw.mk (nat_lit 0) [Kd.int IntKind.i64, Kd.int IntKind.i64, Kd.int IntKind.i64, Kd.int IntKind.i64, Kd.int IntKind.i64, Kd.int IntKind.i64, Kd.int IntKind.i64, Kd.int IntKind.i64] (cClip_0 x0_0 x0_1 x0_2 x0_3 x0_4 x0_5 x0_6 x0_7 x1_0 x1_1 x1_2 x1_3 x1_4 x1_5 x1_6 x1_7 x2_0 x2_1 x2_2 x2_3 x2_4 x2_5 x2_6 x2_7) none))) [])]) := by kernel_rfl
def cClip_c : Con
  | [.g [.int true .i64 x0_0, .int true .i64 x0_1, .int true .i64 x0_2, .int true .i64 x0_3, .int true .i64 x0_4, .int true .i64 x0_5, .int true .i64 x0_6, .int true .i64 x0_7], .g [.int true .i64 x1_0, .int true .i64 x1_1, .int true .i64 x1_2, .int true .i64 x1_3, .int true .i64 x1_4, .int true .i64 x1_5, .int true .i64 x1_6, .int true .i64 x1_7], .g [.int true .i64 x2_0, .int true .i64 x2_1, .int true .i64 x2_2, .int true .i64 x2_3, .int true .i64 x2_4, .int true .i64 x2_5, .int true .i64 x2_6, .int true .i64 x2_7]], [] => some (cClip_o x0_0 x0_1 x0_2 x0_3 x0_4 x0_5 x0_6 x0_7 x1_0 x1_1 x1_2 x1_3 x1_4 x1_5 x1_6 x1_7 x2_0 x2_1 x2_2 x2_3 x2_4 x2_5 x2_6 x2_7, LV.a (At.vec (nat_lit 0) (nat_lit 2) (nat_lit 8)), [some (BC.mk (Hd.mk (nat_lit 2) (nat_lit 0) false (some (Rw.mk (nat_lit 0) [Kd.int IntKind.i64, Kd.int IntKind.i64, Kd.int IntKind.i64, Kd.int IntKind.i64, Kd.int IntKind.i64, Kd.int IntKind.i64, Kd.int IntKind.i64, Kd.int IntKind.i64] (cClip_0 x0_0 x0_1 x0_2 x0_3 x0_4 x0_5 x0_6 x0_7 x1_0 x1_1 x1_2 x1_3 x1_4 x1_5 x1_6 x1_7 x2_0 x2_1 x2_2 x2_3 x2_4 x2_5 x2_6 x2_7) none))) [])])
  | _, _ => none
theorem cClip_ok : ConOK Try.prog 56 (normC cClip_c) := normC_ok (by
  intro args bs obs lv out h ho φ vs w may ha hM
  unfold cClip_c at h
  split at h
  · simp only [Option.some.injEq, Prod.mk.injEq] at h
    obtain ⟨rfl, rfl, rfl⟩ := h
    rename_i x0_0 x0_1 x0_2 x0_3 x0_4 x0_5 x0_6 x0_7 x1_0 x1_1 x1_2 x1_3 x1_4 x1_5 x1_6 x1_7 x2_0 x2_1 x2_2 x2_3 x2_4 x2_5 x2_6 x2_7
    exact evG_okL' tabCa4_ok follows (LOK_cons (show subs (bodyOf Try.prog 56) 1 125 = [.block (blockOf (subs (bodyOf Try.prog 56) 1 125)) (.loop cClip_l125_code)] from by kernel_rfl) cClip_l125_sok (LOK_nil')) _ _ _ _ _ (cClip_p x0_0 x0_1 x0_2 x0_3 x0_4 x0_5 x0_6 x0_7 x1_0 x1_1 x1_2 x1_3 x1_4 x1_5 x1_6 x1_7 x2_0 x2_1 x2_2 x2_3 x2_4 x2_5 x2_6 x2_7) ho φ vs w may ha hM
  · cases h)
theorem cClip_en : Enters Try.prog 56 := fun args => by kernel_rfl
-- 5802 240 42 ms

def tabCa5 : Tab := (56, normC cClip_c) :: tabCa4
theorem tabCa5_ok : TOK Try.prog tabCa5 := TOK.cons cClip_en cClip_ok (tabCa4_ok)

end Go.Proofs.Ytbdmaepooahplaa
