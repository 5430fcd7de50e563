/-
  Contracts of functions of the program, each run on the local memory (printed by a program of this session's own: wip/tools).
-/
import Derived.Test.YtcdejlgophpdjaaWbK2
namespace Go.Proofs.Ytcdejlgophpdjaa
open Go Go.RowKit Go.Proofs.Ytcdejlgophpdjaa.V
set_option linter.unusedVariables false

/-! azulejo/wire.Read -/
def wReadS_0 : Int := (0 : Int)
def wReadS_1 : Int := (0 : Int)
def wReadS_s0 (n : Nat) (l : List (List Int)) : List (List Int) := [] ++ List.take n (List.drop (0 : Nat) l)
def wReadS_o (n : Nat) (l : List (List Int)) : List Prop := [List.length (wReadS_s0 n l) * (1 : Nat) ≤ (70368744177664 : Nat)]
theorem wReadS_p (n : Nat) (l : List (List Int)) : evG Try.prog tabWbK2 2000 57 [0, 2] [] [] [.a (.slc true 0 0 0 1 0 n)] [⟨⟨0, 0, true, some ⟨0, [.int .u8], l, none⟩⟩, []⟩] = some (wReadS_o n l, LV.a (At.ptr (nat_lit 1) (nat_lit 0)), [none, some (BC.mk (Hd.mk (nat_lit 0) (nat_lit 3) false none) [some (At.vec (nat_lit 2) (nat_lit 1) (nat_lit 1)), some (At.int false IntKind.i64 wReadS_0), some (At.int false IntKind.i64 wReadS_1)]), some (BC.mk (Hd.mk (nat_lit 1) (nat_lit 0) false (some (Rw.mk (nat_lit 0) [Kd.int IntKind.u8] (wReadS_s0 n l) none))) [])]) := by kernel_rfl
def wReadS_c : Con
  | [.a (.slc true 0 0 0 1 0 n)], [⟨⟨0, 0, true, some ⟨0, [.int .u8], l, none⟩⟩, []⟩] => some (wReadS_o n l, LV.a (At.ptr (nat_lit 1) (nat_lit 0)), [none, some (BC.mk (Hd.mk (nat_lit 0) (nat_lit 3) false none) [some (At.vec (nat_lit 2) (nat_lit 1) (nat_lit 1)), some (At.int false IntKind.i64 wReadS_0), some (At.int false IntKind.i64 wReadS_1)]), some (BC.mk (Hd.mk (nat_lit 1) (nat_lit 0) false (some (Rw.mk (nat_lit 0) [Kd.int IntKind.u8] (wReadS_s0 n l) none))) [])])
  | _, _ => none
theorem wReadS_ok : ConOK Try.prog 57 (normC wReadS_c) := normC_ok (by
  intro args bs obs lv out h ho φ vs w may ha hM
  unfold wReadS_c at h
  split at h
  · simp only [Option.some.injEq, Prod.mk.injEq] at h
    obtain ⟨rfl, rfl, rfl⟩ := h
    rename_i n l
    exact evG_ok tabWbK2_ok follows _ _ _ _ _ (wReadS_p n l) ho φ vs w may ha hM
  · cases h)
theorem wReadS_en : Enters Try.prog 57 := fun args => by kernel_rfl
-- 74 11 4 ms

def tabWe0 : Tab := (57, normC wReadS_c) :: tabWbK2
theorem tabWe0_ok : TOK Try.prog tabWe0 := TOK.cons wReadS_en wReadS_ok (tabWbK2_ok)

end Go.Proofs.Ytcdejlgophpdjaa
