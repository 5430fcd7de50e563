/-
  Contracts of functions of the program, each run on the local memory (printed by a program of this session's own: wip/tools).
-/
import Derived.Test.YtcdejlgophpdjaaFd2
namespace Go.Proofs.Ytcdejlgophpdjaa
open Go Go.RowKit Go.Proofs.Ytcdejlgophpdjaa.V
set_option linter.unusedVariables false

/-! azulejo/azulejolaw20.Awake -/
def fAwake_s0 : List (List Int) := fNew_0 (2 : Int) (1 : Int) (0 : Int) (0 : Int) (0 : Int) (0 : Int) (0 : Int) (0 : Int)
def fAwake_s1 : Bool := ByteArray.toList (fText_0 (fNew_s2 (2 : Int)) (fNew_s5 (1 : Int)) fAwake_s0) == ByteArray.toList (ByteArray.mk (Array.mk [(32 : UInt8), (32 : UInt8), (10 : UInt8)]))
def fAwake_0 : Bool := bif fAwake_s1 then fChk_0 (fNew_s2 (2 : Int)) (fNew_s5 (1 : Int)) fAwake_s0 == (0 : Int) else false
def fAwake_s2 : Int := bMul64_0 (IntKind.wrap IntKind.u64 (Int.ofNat (1 : Nat))) (IntKind.wrap IntKind.u64 (fNew_s6 (2 : Int) (1 : Int)))
def fAwake_s3 : Int := sRep_s1 (fNew_s6 (2 : Int) (1 : Int))
def fAwake_s4 : List (List Int) := sRep_s2 (fNew_s6 (2 : Int) (1 : Int))
def fAwake_o  : List Prop := [decide (fNew_s6 (2 : Int) (1 : Int) < (0 : Int)) = false, (bif decide ((0 : Int) < fAwake_s2) then true else decide ((9223372036854775807 : Int) < fAwake_s3)) = false, (0 : Int) ≤ IntKind.wrap IntKind.i64 fAwake_s3 ∧ IntKind.wrap IntKind.i64 fAwake_s3 = IntKind.wrap IntKind.i64 fAwake_s3 ∧ IntKind.wrap IntKind.i64 fAwake_s3 * Int.ofNat (24 : Nat) ≤ (70368744177664 : Int), lok sRep_l254_st (18446744073709551616 : Nat) (sRep_l254_T.mk (Int.ofNat (sRep_s3 (fNew_s6 (2 : Int) (1 : Int)) (0 : Int) (0 : Int) (0 : Int) (0 : Int) (0 : Int) (0 : Int))) (List.take (0 : Nat) fAwake_s4 ++ List.take (2 : Nat) (sRep_s0 (0 : Int) (0 : Int) (0 : Int) (0 : Int) (0 : Int) (0 : Int)) ++ List.drop (1 : Nat) fAwake_s4)), (!fChk_s0 (fNew_s2 (2 : Int)) (fNew_s5 (1 : Int)) fAwake_s0) = true → lok fChk_l29_st (18446744073709551616 : Nat) (fChk_l29_T.mk (0 : Int) (Int.ofNat (2 : Nat)) (0 : Int) fAwake_s0), (!fText_s0 (fNew_s2 (2 : Int)) (fNew_s5 (1 : Int)) fAwake_s0) = true → lok fText_l61_st (18446744073709551616 : Nat) (fText_l61_T.mk (ByteArray.mk (Array.mk [])) (fNew_s5 (1 : Int)) (0 : Int) (fNew_s2 (2 : Int)) (fNew_s5 (1 : Int)) fAwake_s0 []), fAwake_s1 = true → (!fChk_s0 (fNew_s2 (2 : Int)) (fNew_s5 (1 : Int)) fAwake_s0) = true → lok fChk_l29_st (18446744073709551616 : Nat) (fChk_l29_T.mk (0 : Int) (Int.ofNat (2 : Nat)) (0 : Int) fAwake_s0)]
theorem fAwake_p  : evG Try.prog tabFd2 2000 37 [0, 1] [] [] [] [] = some (fAwake_o , LV.a (At.bool true fAwake_0), []) := by kernel_rfl
def fAwake_c : Con
  | [], [] => some (fAwake_o , LV.a (At.bool true fAwake_0), [])
  | _, _ => none
theorem fAwake_ok : ConOK Try.prog 37 (normC fAwake_c) := normC_ok (by
  intro args bs obs lv out h ho φ vs w may ha hM
  unfold fAwake_c at h
  split at h
  · simp only [Option.some.injEq, Prod.mk.injEq] at h
    obtain ⟨rfl, rfl, rfl⟩ := h
    exact evG_ok tabFd2_ok follows _ _ _ _ _ (fAwake_p ) ho φ vs w may ha hM
  · cases h)
theorem fAwake_en : Enters Try.prog 37 := fun args => by kernel_rfl
-- 162 11 8 ms

def tabFd3 : Tab := (37, normC fAwake_c) :: tabFd2
theorem tabFd3_ok : TOK Try.prog tabFd3 := TOK.cons fAwake_en fAwake_ok (tabFd2_ok)

end Go.Proofs.Ytcdejlgophpdjaa
