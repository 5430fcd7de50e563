/-
  Contracts of functions of the program, each run on the local memory (printed by a program of this session's own: wip/tools).
-/
import Derived.Test.YtcdejlgophpdjaaFg2
namespace Go.Proofs.Ytcdejlgophpdjaa
open Go Go.RowKit Go.Proofs.Ytcdejlgophpdjaa.V
set_option linter.unusedVariables false

/-! (azulejo/azulejolaw20.Small).Frame -/
def fSmF_s0 (sw : Int) : Int := IntKind.wrap IntKind.i64 ((1 : Int) + IntKind.wrap IntKind.i64 (Int.tmod sw (20 : Int)))
def fSmF_s1 (sh : Int) : Int := IntKind.wrap IntKind.i64 ((1 : Int) + IntKind.wrap IntKind.i64 (Int.tmod sh (20 : Int)))
def fSmF_0 (sw : Int) (sh : Int) (ns : Nat) (s : List (List Int)) : Int := fSized_0 sw sh ns (fSmF_s0 sw) (fSmF_s1 sh) s
def fSmF_1 (sw : Int) (sh : Int) (ns : Nat) (s : List (List Int)) : Int := fSized_1 sw sh ns (fSmF_s0 sw) (fSmF_s1 sh) s
def fSmF_2 (sw : Int) (sh : Int) (ns : Nat) (s : List (List Int)) : List (List Int) := fSized_2 sw sh ns (fSmF_s0 sw) (fSmF_s1 sh) s
def fSmF_o (sw : Int) (sh : Int) (ns : Nat) (r0 : Bool) (s : List (List Int)) : List Prop := [decide (fNew_s6 (fSmF_s0 sw) (fSmF_s1 sh) < (0 : Int)) = false, (bif decide ((0 : Int) < fSized_s0 (fSmF_s0 sw) (fSmF_s1 sh)) then true else decide ((9223372036854775807 : Int) < sRep_s1 (fNew_s6 (fSmF_s0 sw) (fSmF_s1 sh)))) = false, (0 : Int) ≤ IntKind.wrap IntKind.i64 (sRep_s1 (fNew_s6 (fSmF_s0 sw) (fSmF_s1 sh))) ∧ IntKind.wrap IntKind.i64 (sRep_s1 (fNew_s6 (fSmF_s0 sw) (fSmF_s1 sh))) = IntKind.wrap IntKind.i64 (sRep_s1 (fNew_s6 (fSmF_s0 sw) (fSmF_s1 sh))) ∧ IntKind.wrap IntKind.i64 (sRep_s1 (fNew_s6 (fSmF_s0 sw) (fSmF_s1 sh))) * Int.ofNat (24 : Nat) ≤ (70368744177664 : Int), lok sRep_l254_st (18446744073709551616 : Nat) (sRep_l254_T.mk (Int.ofNat (fSized_s1 (fSmF_s0 sw) (fSmF_s1 sh))) (List.take (0 : Nat) (sRep_s2 (fNew_s6 (fSmF_s0 sw) (fSmF_s1 sh))) ++ List.take (List.length (sRep_s2 (fNew_s6 (fSmF_s0 sw) (fSmF_s1 sh)))) (sRep_s0 (0 : Int) (0 : Int) (0 : Int) (0 : Int) (65535 : Int) (0 : Int)) ++ List.drop ((0 : Nat) + fSized_s1 (fSmF_s0 sw) (fSmF_s1 sh)) (sRep_s2 (fNew_s6 (fSmF_s0 sw) (fSmF_s1 sh))))), lok fSized_l29_st (18446744073709551616 : Nat) (fSized_l29_T.mk (fSmF_s0 sw) (fSmF_s1 sh) (0 : Int) sw sh ns s (0 : Int) (0 : Int) (fNew_s2 (fSmF_s0 sw)) (fNew_s5 (fSmF_s1 sh)) (fNew_0 (fSmF_s0 sw) (fSmF_s1 sh) (0 : Int) (0 : Int) (0 : Int) (0 : Int) (65535 : Int) (0 : Int)))]
theorem fSmF_p (sw : Int) (sh : Int) (ns : Nat) (r0 : Bool) (s : List (List Int)) : evG Try.prog tabFg2 2000 61 [0, 1, 2] [] [] [.g [.int true .u8 sw, .int true .u8 sh, .slc true 0 0 0 6 0 ns]] [⟨⟨0, 0, r0, some ⟨0, [.int .u8, .int .u8, .int .u8, .int .u8, .int .u16, .int .u8], s, none⟩⟩, []⟩] = some (fSmF_o sw sh ns r0 s, LV.g [At.int true IntKind.i64 (fSmF_0 sw sh ns s), At.int true IntKind.i64 (fSmF_1 sw sh ns s), At.vec (nat_lit 1) (nat_lit 2) (nat_lit 6)], [none, some (BC.mk (Hd.mk (nat_lit 2) (nat_lit 0) false (some (Rw.mk (nat_lit 0) [Kd.int IntKind.u8, Kd.int IntKind.u8, Kd.int IntKind.u8, Kd.int IntKind.u8, Kd.int IntKind.i64, Kd.int IntKind.u8] (fSmF_2 sw sh ns s) none))) [])]) := by kernel_rfl
def fSmF_c : Con
  | [.g [.int true .u8 sw, .int true .u8 sh, .slc true 0 0 0 6 0 ns]], [⟨⟨0, 0, r0, some ⟨0, [.int .u8, .int .u8, .int .u8, .int .u8, .int .u16, .int .u8], s, none⟩⟩, []⟩] => some (fSmF_o sw sh ns r0 s, LV.g [At.int true IntKind.i64 (fSmF_0 sw sh ns s), At.int true IntKind.i64 (fSmF_1 sw sh ns s), At.vec (nat_lit 1) (nat_lit 2) (nat_lit 6)], [none, some (BC.mk (Hd.mk (nat_lit 2) (nat_lit 0) false (some (Rw.mk (nat_lit 0) [Kd.int IntKind.u8, Kd.int IntKind.u8, Kd.int IntKind.u8, Kd.int IntKind.u8, Kd.int IntKind.i64, Kd.int IntKind.u8] (fSmF_2 sw sh ns s) none))) [])])
  | _, _ => none
theorem fSmF_ok : ConOK Try.prog 61 (normC fSmF_c) := normC_ok (by
  intro args bs obs lv out h ho φ vs w may ha hM
  unfold fSmF_c at h
  split at h
  · simp only [Option.some.injEq, Prod.mk.injEq] at h
    obtain ⟨rfl, rfl, rfl⟩ := h
    rename_i sw sh ns r0 s
    exact evG_ok tabFg2_ok follows _ _ _ _ _ (fSmF_p sw sh ns r0 s) ho φ vs w may ha hM
  · cases h)
theorem fSmF_en : Enters Try.prog 61 := fun args => by kernel_rfl
-- 105 9 7 ms

def tabFg3 : Tab := (61, normC fSmF_c) :: tabFg2
theorem tabFg3_ok : TOK Try.prog tabFg3 := TOK.cons fSmF_en fSmF_ok (tabFg2_ok)

end Go.Proofs.Ytcdejlgophpdjaa
