/-
  Contracts of functions of the program, each run on the local memory (printed by a program of this session's own: wip/tools).
-/
import Derived.Test.YtcdejlgophpdjaaWb2
namespace Go.Proofs.Ytcdejlgophpdjaa
open Go Go.RowKit Go.Proofs.Ytcdejlgophpdjaa.V
set_option linter.unusedVariables false

def rBytesK_D : Tab := (2, decC [(13, false), (29, false)]) :: tabWb2
theorem rBytesK_D_ok : TOK Try.prog rBytesK_D := TOK.cons (fun args => by kernel_rfl) (fun _ _ _ _ _ h ho => (decC_ok h ho).elim) tabWb2_ok
/-! (*azulejo/wire.Reader).Bytes -/
def rBytesK_0 (x1 : Int) (xa : Int) : Int := IntKind.wrap IntKind.i64 (xa + x1)
def rBytesK_s0 (x1 : Int) (xa : Int) : Int := IntKind.wrap IntKind.i64 (IntKind.wrap IntKind.i64 (xa + x1) - x1)
def rBytesK_s1 (x1 : Int) (xa : Int) (l : List (List Int)) : List (List Int) := [] ++ List.take (Int.toNat (IntKind.wrap IntKind.i64 (xa + x1)) - Int.toNat (rBytesK_s0 x1 xa)) (List.drop (Int.toNat (rBytesK_s0 x1 xa)) l)
def rBytesK_1 (x1 : Int) (xa : Int) (l : List (List Int)) : List (List Int) := rBytesK_s1 x1 xa l
def rBytesK_o (x1 : Int) (xa : Int) (xe : Int) (r1 : Bool) (l : List (List Int)) : List Prop := [(bif decide (x1 < (0 : Int)) then true else decide (wLeft_0 xa xe l < x1)) = false, (x1 == (0 : Int)) = false, (0 : Int) ≤ rBytesK_s0 x1 xa ∧ rBytesK_s0 x1 xa ≤ IntKind.wrap IntKind.i64 (xa + x1) ∧ IntKind.wrap IntKind.i64 (xa + x1) ≤ Int.ofNat (List.length l), List.length (rBytesK_s1 x1 xa l) * (1 : Nat) ≤ (70368744177664 : Nat)]
theorem rBytesK_p (x1 : Int) (xa : Int) (xe : Int) (r1 : Bool) (l : List (List Int)) : evG Try.prog rBytesK_D 2000 116 [0, 1, 4, 12, 20] [] [0] [.a (.ptr 0 0), .a (.int true .i64 x1)] [⟨⟨0, 3, false, none⟩, [some (.vec 1 0 1), some (.int true .i64 xa), some (.int true .i64 xe)]⟩, ⟨⟨0, 0, r1, some ⟨0, [.int .u8], l, none⟩⟩, []⟩] = some (rBytesK_o x1 xa xe r1 l, LV.a (At.vec (nat_lit 2) (nat_lit 1) (nat_lit 1)), [some (BC.mk (Hd.mk (nat_lit 0) (nat_lit 3) false none) [some (At.vec (nat_lit 1) (nat_lit 0) (nat_lit 1)), some (At.int true IntKind.i64 (rBytesK_0 x1 xa)), some (At.int true IntKind.i64 xe)]), none, some (BC.mk (Hd.mk (nat_lit 1) (nat_lit 0) false (some (Rw.mk (nat_lit 0) [Kd.int IntKind.u8] (rBytesK_1 x1 xa l) none))) [])]) := by kernel_rfl
def rBytesK_c : Con
  | [.a (.ptr 0 0), .a (.int true .i64 x1)], [⟨⟨0, 3, false, none⟩, [some (.vec 1 0 1), some (.int true .i64 xa), some (.int true .i64 xe)]⟩, ⟨⟨0, 0, r1, some ⟨0, [.int .u8], l, none⟩⟩, []⟩] => some (rBytesK_o x1 xa xe r1 l, LV.a (At.vec (nat_lit 2) (nat_lit 1) (nat_lit 1)), [some (BC.mk (Hd.mk (nat_lit 0) (nat_lit 3) false none) [some (At.vec (nat_lit 1) (nat_lit 0) (nat_lit 1)), some (At.int true IntKind.i64 (rBytesK_0 x1 xa)), some (At.int true IntKind.i64 xe)]), none, some (BC.mk (Hd.mk (nat_lit 1) (nat_lit 0) false (some (Rw.mk (nat_lit 0) [Kd.int IntKind.u8] (rBytesK_1 x1 xa l) none))) [])])
  | _, _ => none
theorem rBytesK_ok : ConOK Try.prog 116 (normC rBytesK_c) := normC_ok (by
  intro args bs obs lv out h ho φ vs w may ha hM
  unfold rBytesK_c at h
  split at h
  · simp only [Option.some.injEq, Prod.mk.injEq] at h
    obtain ⟨rfl, rfl, rfl⟩ := h
    rename_i x1 xa xe r1 l
    exact evG_ok rBytesK_D_ok follows _ _ _ _ _ (rBytesK_p x1 xa xe r1 l) ho φ vs w may ha hM
  · cases h)
theorem rBytesK_en : Enters Try.prog 116 := fun args => by kernel_rfl
-- 436 34 7 ms

def tabWbK1 : Tab := (116, normC rBytesK_c) :: tabWb2
theorem tabWbK1_ok : TOK Try.prog tabWbK1 := TOK.cons rBytesK_en rBytesK_ok (tabWb2_ok)

end Go.Proofs.Ytcdejlgophpdjaa
