/-
  Contracts of functions of the program, each run on the local memory (printed by a program of this session's own: wip/tools).
-/
import Derived.Test.YthgjacfikicgnaaBa4
namespace Go.Proofs.Ythgjacfikicgnaa
open Go Go.RowKit Go.Proofs.Ythgjacfikicgnaa.V
set_option linter.unusedVariables false

/-! (azulejo/bin.Grid).In -/
noncomputable def bIn_l29_code : Go.Code := loopOf (subs (bodyOf Try.prog 57) 1 29)
structure bIn_l29_T where
  a0 : Int
  a1 : Int
  a2 : Int
  a3 : Int
  a4 : Int
  a5 : Int
  a6 : Int
  a7 : Int
  a8 : List (List Int)
  deriving Inhabited
def bIn_l29_hd (v : bIn_l29_T) : HS := HS.mk [(nat_lit 2, LV.a (At.ptr (nat_lit 0) (nat_lit 0))), (nat_lit 3, LV.a (At.ptr (nat_lit 1) (nat_lit 0))), (nat_lit 4, LV.a At.nils), (nat_lit 5, LV.a (At.vec (nat_lit 2) (nat_lit 0) (nat_lit 1))), (nat_lit 8, LV.a (At.int true IntKind.i64 (bIn_l29_T.a0 v))), (nat_lit 9, LV.a (At.int true IntKind.i64 (bIn_l29_T.a1 v)))] [BC.mk (Hd.mk (nat_lit 0) (nat_lit 2) true none) [some (At.int true IntKind.i64 (bIn_l29_T.a2 v)), some (At.int true IntKind.i64 (bIn_l29_T.a3 v))], BC.mk (Hd.mk (nat_lit 0) (nat_lit 4) true none) [some (At.int true IntKind.i64 (bIn_l29_T.a4 v)), some (At.int true IntKind.i64 (bIn_l29_T.a5 v)), some (At.int true IntKind.i64 (bIn_l29_T.a6 v)), some (At.int true IntKind.i64 (bIn_l29_T.a7 v))], BC.mk (Hd.mk (nat_lit 0) (nat_lit 0) false (some (Rw.mk (nat_lit 0) [Kd.int IntKind.i64] (bIn_l29_T.a8 v) none))) []]
def bIn_l29_s0 (v : bIn_l29_T) : Bool := decide (bIn_l29_T.a1 v < bIn_l29_T.a0 v)
def bIn_l29_s1 (v : bIn_l29_T) : Bool := !(bMeet_0 (bBox_0 (bIn_l29_T.a2 v) (bIn_l29_T.a3 v) (bIn_l29_T.a1 v)) (bBox_1 (bIn_l29_T.a2 v) (bIn_l29_T.a3 v) (bIn_l29_T.a1 v)) (bBox_2 (bIn_l29_T.a2 v) (bIn_l29_T.a3 v) (bIn_l29_T.a1 v)) (bBox_3 (bIn_l29_T.a2 v) (bIn_l29_T.a3 v) (bIn_l29_T.a1 v)) (bIn_l29_T.a4 v) (bIn_l29_T.a5 v) (bIn_l29_T.a6 v) (bIn_l29_T.a7 v) == (0 : Int) && (bMeet_1 (bBox_0 (bIn_l29_T.a2 v) (bIn_l29_T.a3 v) (bIn_l29_T.a1 v)) (bBox_1 (bIn_l29_T.a2 v) (bIn_l29_T.a3 v) (bIn_l29_T.a1 v)) (bBox_2 (bIn_l29_T.a2 v) (bIn_l29_T.a3 v) (bIn_l29_T.a1 v)) (bBox_3 (bIn_l29_T.a2 v) (bIn_l29_T.a3 v) (bIn_l29_T.a1 v)) (bIn_l29_T.a4 v) (bIn_l29_T.a5 v) (bIn_l29_T.a6 v) (bIn_l29_T.a7 v) == (0 : Int) && (bMeet_2 (bBox_0 (bIn_l29_T.a2 v) (bIn_l29_T.a3 v) (bIn_l29_T.a1 v)) (bBox_1 (bIn_l29_T.a2 v) (bIn_l29_T.a3 v) (bIn_l29_T.a1 v)) (bBox_2 (bIn_l29_T.a2 v) (bIn_l29_T.a3 v) (bIn_l29_T.a1 v)) (bBox_3 (bIn_l29_T.a2 v) (bIn_l29_T.a3 v) (bIn_l29_T.a1 v)) (bIn_l29_T.a4 v) (bIn_l29_T.a5 v) (bIn_l29_T.a6 v) (bIn_l29_T.a7 v) == (0 : Int) && bMeet_3 (bBox_0 (bIn_l29_T.a2 v) (bIn_l29_T.a3 v) (bIn_l29_T.a1 v)) (bBox_1 (bIn_l29_T.a2 v) (bIn_l29_T.a3 v) (bIn_l29_T.a1 v)) (bBox_2 (bIn_l29_T.a2 v) (bIn_l29_T.a3 v) (bIn_l29_T.a1 v)) (bBox_3 (bIn_l29_T.a2 v) (bIn_l29_T.a3 v) (bIn_l29_T.a1 v)) (bIn_l29_T.a4 v) (bIn_l29_T.a5 v) (bIn_l29_T.a6 v) (bIn_l29_T.a7 v) == (0 : Int))))
def bIn_l29_s2 (v : bIn_l29_T) : List (List Int) := bIn_l29_T.a8 v ++ [[bIn_l29_T.a1 v]]
def bIn_l29_st (v : bIn_l29_T) : List Prop × List (X × Bool × bIn_l29_T) := ([bIn_l29_s0 v = true → (!bBox_s0 (bIn_l29_T.a2 v) (bIn_l29_T.a3 v) (bIn_l29_T.a1 v)) = true → bTiles_0 (bIn_l29_T.a2 v) ≠ (0 : Int), bIn_l29_s0 v = true → (!bBox_s0 (bIn_l29_T.a2 v) (bIn_l29_T.a3 v) (bIn_l29_T.a1 v)) = true → bTiles_0 (bIn_l29_T.a2 v) ≠ (0 : Int), bIn_l29_s0 v = true → bIn_l29_s1 v = true → List.length (bIn_l29_s2 v) * (8 : Nat) ≤ (70368744177664 : Nat)], [(X.e (0 : Nat), !bIn_l29_s0 v, bIn_l29_T.mk (bIn_l29_T.a0 v) (bIn_l29_T.a1 v) (bIn_l29_T.a2 v) (bIn_l29_T.a3 v) (bIn_l29_T.a4 v) (bIn_l29_T.a5 v) (bIn_l29_T.a6 v) (bIn_l29_T.a7 v) (bIn_l29_T.a8 v)), (X.n, bIn_l29_s0 v, bIn_l29_T.mk (bIn_l29_T.a0 v) (IntKind.wrap IntKind.i64 (bIn_l29_T.a1 v + (1 : Int))) (bIn_l29_T.a2 v) (bIn_l29_T.a3 v) (bIn_l29_T.a4 v) (bIn_l29_T.a5 v) (bIn_l29_T.a6 v) (bIn_l29_T.a7 v) (bif bIn_l29_s1 v then bIn_l29_s2 v else bIn_l29_T.a8 v))])
def bIn_l29_rd : HS → Option bIn_l29_T
  | HS.mk [(2, LV.a (At.ptr 0 0)), (3, LV.a (At.ptr 1 0)), (4, LV.a At.nils), (5, LV.a (At.vec 2 0 1)), (8, LV.a (At.int true IntKind.i64 a0)), (9, LV.a (At.int true IntKind.i64 a1))] [BC.mk (Hd.mk 0 2 true none) [some (At.int true IntKind.i64 a2), some (At.int true IntKind.i64 a3)], BC.mk (Hd.mk 0 4 true none) [some (At.int true IntKind.i64 a4), some (At.int true IntKind.i64 a5), some (At.int true IntKind.i64 a6), some (At.int true IntKind.i64 a7)], BC.mk (Hd.mk 0 0 false (some (Rw.mk 0 [Kd.int IntKind.i64] a8 none))) []] => some (bIn_l29_T.mk a0 a1 a2 a3 a4 a5 a6 a7 a8)
  | _ => none
def bIn_l29_sum : V.Sum := loopS bIn_l29_hd bIn_l29_rd bIn_l29_st 18446744073709551616 [X.e (0 : Nat)] [0, 1, 2, 3, 4, 5, 6, 8, 9, 10, 18] [2, 3, 4, 5, 8, 9] [2] [2] [(5, [.int .i64])] 0
theorem bIn_l29_E : ∀ v, bodyF Try.prog tabBa4 (ntOf Try.prog 57) [0, 1, 2, 3, 4, 5, 6, 8, 9, 10, 18] [2, 3, 4, 5, 8, 9] [] 2000 [2] [2] bIn_l29_code 116 (bIn_l29_hd v) = some ((bIn_l29_st v).1, (bIn_l29_st v).2.map fun q => (q.1, q.2.1, bIn_l29_hd q.2.2)) := fun v => by kernel_rfl
theorem bIn_l29_R : ∀ h v, bIn_l29_rd h = some v → h = bIn_l29_hd v := by
  intro h v e
  unfold bIn_l29_rd at e
  split at e
  · simp only [Option.some.injEq] at e; subst e; rfl
  · cases e
theorem bIn_l29_sok : SumOK Try.prog (ntOf Try.prog 57) [0, 1, 2, 3, 4, 5, 6, 8, 9, 10, 18] (.block (blockOf (subs (bodyOf Try.prog 57) 1 29)) (.loop bIn_l29_code)) bIn_l29_sum := loopS_ok tabBa4_ok follows bIn_l29_E bIn_l29_R (fun v => by kernel_rfl) (LOK_of _ _ (LOK_nil'))
def bIn_0 (x0_0 : Int) (x0_1 : Int) (x1_0 : Int) (x1_1 : Int) (x1_2 : Int) (x1_3 : Int) : List (List Int) := bIn_l29_T.a8 (V.valOf (lrun bIn_l29_st (18446744073709551616 : Nat) (bIn_l29_T.mk (bGTiles_0 x0_0 x0_1) (0 : Int) x0_0 x0_1 x1_0 x1_1 x1_2 x1_3 [])))
def bIn_o (x0_0 : Int) (x0_1 : Int) (x1_0 : Int) (x1_1 : Int) (x1_2 : Int) (x1_3 : Int) : List Prop := [lok bIn_l29_st (18446744073709551616 : Nat) (bIn_l29_T.mk (bGTiles_0 x0_0 x0_1) (0 : Int) x0_0 x0_1 x1_0 x1_1 x1_2 x1_3 [])]
theorem bIn_p (x0_0 : Int) (x0_1 : Int) (x1_0 : Int) (x1_1 : Int) (x1_2 : Int) (x1_3 : Int) : evG Try.prog tabBa4 2000 57 [0, 1, 2, 3, 4, 5, 6, 8, 9, 10, 18] [(29, bIn_l29_sum)] [] [.g [.int true .i64 x0_0, .int true .i64 x0_1], .g [.int true .i64 x1_0, .int true .i64 x1_1, .int true .i64 x1_2, .int true .i64 x1_3]] [] = some (bIn_o x0_0 x0_1 x1_0 x1_1 x1_2 x1_3, LV.a (At.vec (nat_lit 0) (nat_lit 1) (nat_lit 1)), [some (BC.mk (Hd.mk (nat_lit 1) (nat_lit 0) false (some (Rw.mk (nat_lit 0) [Kd.int IntKind.i64] (bIn_0 x0_0 x0_1 x1_0 x1_1 x1_2 x1_3) none))) [])]) := by kernel_rfl
def bIn_c : Con
  | [.g [.int true .i64 x0_0, .int true .i64 x0_1], .g [.int true .i64 x1_0, .int true .i64 x1_1, .int true .i64 x1_2, .int true .i64 x1_3]], [] => some (bIn_o x0_0 x0_1 x1_0 x1_1 x1_2 x1_3, LV.a (At.vec (nat_lit 0) (nat_lit 1) (nat_lit 1)), [some (BC.mk (Hd.mk (nat_lit 1) (nat_lit 0) false (some (Rw.mk (nat_lit 0) [Kd.int IntKind.i64] (bIn_0 x0_0 x0_1 x1_0 x1_1 x1_2 x1_3) none))) [])])
  | _, _ => none
theorem bIn_ok : ConOK Try.prog 57 (normC bIn_c) := normC_ok (by
  intro args bs obs lv out h ho φ vs w may ha hM
  unfold bIn_c at h
  split at h
  · simp only [Option.some.injEq, Prod.mk.injEq] at h
    obtain ⟨rfl, rfl, rfl⟩ := h
    rename_i x0_0 x0_1 x1_0 x1_1 x1_2 x1_3
    exact evG_okL' tabBa4_ok follows (LOK_cons (show subs (bodyOf Try.prog 57) 1 29 = [.block (blockOf (subs (bodyOf Try.prog 57) 1 29)) (.loop bIn_l29_code)] from by kernel_rfl) bIn_l29_sok (LOK_nil')) _ _ _ _ _ (bIn_p x0_0 x0_1 x1_0 x1_1 x1_2 x1_3) ho φ vs w may ha hM
  · cases h)
theorem bIn_en : Enters Try.prog 57 := fun args => by kernel_rfl
-- 1327 25 7 ms

def tabBb1 : Tab := (57, normC bIn_c) :: tabBa4
theorem tabBb1_ok : TOK Try.prog tabBb1 := TOK.cons bIn_en bIn_ok (tabBa4_ok)

end Go.Proofs.Ythgjacfikicgnaa
