/-
  Contracts of functions of the program, each run on the local memory (printed by a program of this session's own: wip/tools).
-/
import Derived.Test.YtcdejlgophpdjaaQVmNone5
section
namespace Go.Proofs.Ytcdejlgophpdjaa
open Go Go.RowKit Go.Proofs.Ytcdejlgophpdjaa.V
set_option linter.unusedVariables false

/-! azulejo/azulejoref07.Start -/
def r7St_s0 : List Int := [(0 : Int), (0 : Int), (0 : Int), (0 : Int)]
def r7St_s1 (zx0 : List Int) : List (List Int) := rset (rset (rset (rset (rset (rset (rset (rset (rset (rset (rset (rset (rset (rset (rset (rset (rset (rset (rset (rset (rset (rset (rset (rset (rset (rset (rset (rset (rset (rset (rset (rset (rset (rset (rset (rset (rset (rset (rset (rset (rset (rset (rset (rset (rset (rset (rset (rset [r7St_s0, r7St_s0, r7St_s0, r7St_s0, r7St_s0, r7St_s0, r7St_s0, r7St_s0, r7St_s0, r7St_s0, r7St_s0, r7St_s0] (0 : Nat) (0 : Nat) [rCl_0 (zx0.getD 0 0)]) (0 : Nat) (1 : Nat) [rCl_0 (zx0.getD 1 0)]) (0 : Nat) (2 : Nat) [rCl_0 (zx0.getD 2 0)]) (0 : Nat) (3 : Nat) [rCl_0 (zx0.getD 3 0)]) (1 : Nat) (0 : Nat) [rCl_0 (zx0.getD 4 0)]) (1 : Nat) (1 : Nat) [rCl_0 (zx0.getD 5 0)]) (1 : Nat) (2 : Nat) [rCl_0 (zx0.getD 6 0)]) (1 : Nat) (3 : Nat) [rCl_0 (zx0.getD 7 0)]) (2 : Nat) (0 : Nat) [rCl_0 (zx0.getD 8 0)]) (2 : Nat) (1 : Nat) [rCl_0 (zx0.getD 9 0)]) (2 : Nat) (2 : Nat) [rCl_0 (zx0.getD 10 0)]) (2 : Nat) (3 : Nat) [rCl_0 (zx0.getD 11 0)]) (3 : Nat) (0 : Nat) [rCl_0 (zx0.getD 12 0)]) (3 : Nat) (1 : Nat) [rCl_0 (zx0.getD 13 0)]) (3 : Nat) (2 : Nat) [rCl_0 (zx0.getD 14 0)]) (3 : Nat) (3 : Nat) [rCl_0 (zx0.getD 15 0)]) (4 : Nat) (0 : Nat) [rCl_0 (zx0.getD 16 0)]) (4 : Nat) (1 : Nat) [rCl_0 (zx0.getD 17 0)]) (4 : Nat) (2 : Nat) [rCl_0 (zx0.getD 18 0)]) (4 : Nat) (3 : Nat) [rCl_0 (zx0.getD 19 0)]) (5 : Nat) (0 : Nat) [rCl_0 (zx0.getD 20 0)]) (5 : Nat) (1 : Nat) [rCl_0 (zx0.getD 21 0)]) (5 : Nat) (2 : Nat) [rCl_0 (zx0.getD 22 0)]) (5 : Nat) (3 : Nat) [rCl_0 (zx0.getD 23 0)]) (6 : Nat) (0 : Nat) [rCl_0 (zx0.getD 24 0)]) (6 : Nat) (1 : Nat) [rCl_0 (zx0.getD 25 0)]) (6 : Nat) (2 : Nat) [rCl_0 (zx0.getD 26 0)]) (6 : Nat) (3 : Nat) [rCl_0 (zx0.getD 27 0)]) (7 : Nat) (0 : Nat) [rCl_0 (zx0.getD 28 0)]) (7 : Nat) (1 : Nat) [rCl_0 (zx0.getD 29 0)]) (7 : Nat) (2 : Nat) [rCl_0 (zx0.getD 30 0)]) (7 : Nat) (3 : Nat) [rCl_0 (zx0.getD 31 0)]) (8 : Nat) (0 : Nat) [rCl_0 (zx0.getD 32 0)]) (8 : Nat) (1 : Nat) [rCl_0 (zx0.getD 33 0)]) (8 : Nat) (2 : Nat) [rCl_0 (zx0.getD 34 0)]) (8 : Nat) (3 : Nat) [rCl_0 (zx0.getD 35 0)]) (9 : Nat) (0 : Nat) [rCl_0 (zx0.getD 36 0)]) (9 : Nat) (1 : Nat) [rCl_0 (zx0.getD 37 0)]) (9 : Nat) (2 : Nat) [rCl_0 (zx0.getD 38 0)]) (9 : Nat) (3 : Nat) [rCl_0 (zx0.getD 39 0)]) (10 : Nat) (0 : Nat) [rCl_0 (zx0.getD 40 0)]) (10 : Nat) (1 : Nat) [rCl_0 (zx0.getD 41 0)]) (10 : Nat) (2 : Nat) [rCl_0 (zx0.getD 42 0)]) (10 : Nat) (3 : Nat) [rCl_0 (zx0.getD 43 0)]) (11 : Nat) (0 : Nat) [rCl_0 (zx0.getD 44 0)]) (11 : Nat) (1 : Nat) [rCl_0 (zx0.getD 45 0)]) (11 : Nat) (2 : Nat) [rCl_0 (zx0.getD 46 0)]) (11 : Nat) (3 : Nat) [rCl_0 (zx0.getD 47 0)]
def r7St_s2 (zx0 : List Int) : List (List Int) := [[rget (r7St_s1 zx0) (0 : Nat) (0 : Nat), rget (r7St_s1 zx0) (0 : Nat) (1 : Nat), rget (r7St_s1 zx0) (0 : Nat) (2 : Nat), rget (r7St_s1 zx0) (0 : Nat) (3 : Nat)], [rget (r7St_s1 zx0) (1 : Nat) (0 : Nat), rget (r7St_s1 zx0) (1 : Nat) (1 : Nat), rget (r7St_s1 zx0) (1 : Nat) (2 : Nat), rget (r7St_s1 zx0) (1 : Nat) (3 : Nat)], [rget (r7St_s1 zx0) (2 : Nat) (0 : Nat), rget (r7St_s1 zx0) (2 : Nat) (1 : Nat), rget (r7St_s1 zx0) (2 : Nat) (2 : Nat), rget (r7St_s1 zx0) (2 : Nat) (3 : Nat)], [rget (r7St_s1 zx0) (3 : Nat) (0 : Nat), rget (r7St_s1 zx0) (3 : Nat) (1 : Nat), rget (r7St_s1 zx0) (3 : Nat) (2 : Nat), rget (r7St_s1 zx0) (3 : Nat) (3 : Nat)], [rget (r7St_s1 zx0) (4 : Nat) (0 : Nat), rget (r7St_s1 zx0) (4 : Nat) (1 : Nat), rget (r7St_s1 zx0) (4 : Nat) (2 : Nat), rget (r7St_s1 zx0) (4 : Nat) (3 : Nat)], [rget (r7St_s1 zx0) (5 : Nat) (0 : Nat), rget (r7St_s1 zx0) (5 : Nat) (1 : Nat), rget (r7St_s1 zx0) (5 : Nat) (2 : Nat), rget (r7St_s1 zx0) (5 : Nat) (3 : Nat)], [rget (r7St_s1 zx0) (6 : Nat) (0 : Nat), rget (r7St_s1 zx0) (6 : Nat) (1 : Nat), rget (r7St_s1 zx0) (6 : Nat) (2 : Nat), rget (r7St_s1 zx0) (6 : Nat) (3 : Nat)], [rget (r7St_s1 zx0) (7 : Nat) (0 : Nat), rget (r7St_s1 zx0) (7 : Nat) (1 : Nat), rget (r7St_s1 zx0) (7 : Nat) (2 : Nat), rget (r7St_s1 zx0) (7 : Nat) (3 : Nat)], [rget (r7St_s1 zx0) (8 : Nat) (0 : Nat), rget (r7St_s1 zx0) (8 : Nat) (1 : Nat), rget (r7St_s1 zx0) (8 : Nat) (2 : Nat), rget (r7St_s1 zx0) (8 : Nat) (3 : Nat)], [rget (r7St_s1 zx0) (9 : Nat) (0 : Nat), rget (r7St_s1 zx0) (9 : Nat) (1 : Nat), rget (r7St_s1 zx0) (9 : Nat) (2 : Nat), rget (r7St_s1 zx0) (9 : Nat) (3 : Nat)], [rget (r7St_s1 zx0) (10 : Nat) (0 : Nat), rget (r7St_s1 zx0) (10 : Nat) (1 : Nat), rget (r7St_s1 zx0) (10 : Nat) (2 : Nat), rget (r7St_s1 zx0) (10 : Nat) (3 : Nat)], [rget (r7St_s1 zx0) (11 : Nat) (0 : Nat), rget (r7St_s1 zx0) (11 : Nat) (1 : Nat), rget (r7St_s1 zx0) (11 : Nat) (2 : Nat), rget (r7St_s1 zx0) (11 : Nat) (3 : Nat)]]
def r7St_0 (zx0 : List Int) : Int := rget (r7St_s2 zx0) (0 : Nat) (0 : Nat)
def r7St_1 (zx0 : List Int) : Int := rget (r7St_s2 zx0) (0 : Nat) (1 : Nat)
def r7St_2 (zx0 : List Int) : Int := rget (r7St_s2 zx0) (0 : Nat) (2 : Nat)
def r7St_3 (zx0 : List Int) : Int := rget (r7St_s2 zx0) (0 : Nat) (3 : Nat)
def r7St_4 (zx0 : List Int) : Int := rget (r7St_s2 zx0) (1 : Nat) (0 : Nat)
def r7St_5 (zx0 : List Int) : Int := rget (r7St_s2 zx0) (1 : Nat) (1 : Nat)
def r7St_6 (zx0 : List Int) : Int := rget (r7St_s2 zx0) (1 : Nat) (2 : Nat)
def r7St_7 (zx0 : List Int) : Int := rget (r7St_s2 zx0) (1 : Nat) (3 : Nat)
def r7St_8 (zx0 : List Int) : Int := rget (r7St_s2 zx0) (2 : Nat) (0 : Nat)
def r7St_9 (zx0 : List Int) : Int := rget (r7St_s2 zx0) (2 : Nat) (1 : Nat)
def r7St_10 (zx0 : List Int) : Int := rget (r7St_s2 zx0) (2 : Nat) (2 : Nat)
def r7St_11 (zx0 : List Int) : Int := rget (r7St_s2 zx0) (2 : Nat) (3 : Nat)
def r7St_12 (zx0 : List Int) : Int := rget (r7St_s2 zx0) (3 : Nat) (0 : Nat)
def r7St_13 (zx0 : List Int) : Int := rget (r7St_s2 zx0) (3 : Nat) (1 : Nat)
def r7St_14 (zx0 : List Int) : Int := rget (r7St_s2 zx0) (3 : Nat) (2 : Nat)
def r7St_15 (zx0 : List Int) : Int := rget (r7St_s2 zx0) (3 : Nat) (3 : Nat)
def r7St_16 (zx0 : List Int) : Int := rget (r7St_s2 zx0) (4 : Nat) (0 : Nat)
def r7St_17 (zx0 : List Int) : Int := rget (r7St_s2 zx0) (4 : Nat) (1 : Nat)
def r7St_18 (zx0 : List Int) : Int := rget (r7St_s2 zx0) (4 : Nat) (2 : Nat)
def r7St_19 (zx0 : List Int) : Int := rget (r7St_s2 zx0) (4 : Nat) (3 : Nat)
def r7St_20 (zx0 : List Int) : Int := rget (r7St_s2 zx0) (5 : Nat) (0 : Nat)
def r7St_21 (zx0 : List Int) : Int := rget (r7St_s2 zx0) (5 : Nat) (1 : Nat)
def r7St_22 (zx0 : List Int) : Int := rget (r7St_s2 zx0) (5 : Nat) (2 : Nat)
def r7St_23 (zx0 : List Int) : Int := rget (r7St_s2 zx0) (5 : Nat) (3 : Nat)
def r7St_24 (zx0 : List Int) : Int := rget (r7St_s2 zx0) (6 : Nat) (0 : Nat)
def r7St_25 (zx0 : List Int) : Int := rget (r7St_s2 zx0) (6 : Nat) (1 : Nat)
def r7St_26 (zx0 : List Int) : Int := rget (r7St_s2 zx0) (6 : Nat) (2 : Nat)
def r7St_27 (zx0 : List Int) : Int := rget (r7St_s2 zx0) (6 : Nat) (3 : Nat)
def r7St_28 (zx0 : List Int) : Int := rget (r7St_s2 zx0) (7 : Nat) (0 : Nat)
def r7St_29 (zx0 : List Int) : Int := rget (r7St_s2 zx0) (7 : Nat) (1 : Nat)
def r7St_30 (zx0 : List Int) : Int := rget (r7St_s2 zx0) (7 : Nat) (2 : Nat)
def r7St_31 (zx0 : List Int) : Int := rget (r7St_s2 zx0) (7 : Nat) (3 : Nat)
def r7St_32 (zx0 : List Int) : Int := rget (r7St_s2 zx0) (8 : Nat) (0 : Nat)
def r7St_33 (zx0 : List Int) : Int := rget (r7St_s2 zx0) (8 : Nat) (1 : Nat)
def r7St_34 (zx0 : List Int) : Int := rget (r7St_s2 zx0) (8 : Nat) (2 : Nat)
def r7St_35 (zx0 : List Int) : Int := rget (r7St_s2 zx0) (8 : Nat) (3 : Nat)
def r7St_36 (zx0 : List Int) : Int := rget (r7St_s2 zx0) (9 : Nat) (0 : Nat)
def r7St_37 (zx0 : List Int) : Int := rget (r7St_s2 zx0) (9 : Nat) (1 : Nat)
def r7St_38 (zx0 : List Int) : Int := rget (r7St_s2 zx0) (9 : Nat) (2 : Nat)
def r7St_39 (zx0 : List Int) : Int := rget (r7St_s2 zx0) (9 : Nat) (3 : Nat)
def r7St_40 (zx0 : List Int) : Int := rget (r7St_s2 zx0) (10 : Nat) (0 : Nat)
def r7St_41 (zx0 : List Int) : Int := rget (r7St_s2 zx0) (10 : Nat) (1 : Nat)
def r7St_42 (zx0 : List Int) : Int := rget (r7St_s2 zx0) (10 : Nat) (2 : Nat)
def r7St_43 (zx0 : List Int) : Int := rget (r7St_s2 zx0) (10 : Nat) (3 : Nat)
def r7St_44 (zx0 : List Int) : Int := rget (r7St_s2 zx0) (11 : Nat) (0 : Nat)
def r7St_45 (zx0 : List Int) : Int := rget (r7St_s2 zx0) (11 : Nat) (1 : Nat)
def r7St_46 (zx0 : List Int) : Int := rget (r7St_s2 zx0) (11 : Nat) (2 : Nat)
def r7St_47 (zx0 : List Int) : Int := rget (r7St_s2 zx0) (11 : Nat) (3 : Nat)
def r7St_48 : Int := (0 : Int)
theorem r7St_p (zx0 : List Int) : evG Try.prog tabUf0 2000 83 [0, 1, 2, 3, 4, 5, 7, 11] [] [] [.g [.int true .i64 (zx0.getD 0 0), .int true .i64 (zx0.getD 1 0), .int true .i64 (zx0.getD 2 0), .int true .i64 (zx0.getD 3 0), .int true .i64 (zx0.getD 4 0), .int true .i64 (zx0.getD 5 0), .int true .i64 (zx0.getD 6 0), .int true .i64 (zx0.getD 7 0), .int true .i64 (zx0.getD 8 0), .int true .i64 (zx0.getD 9 0), .int true .i64 (zx0.getD 10 0), .int true .i64 (zx0.getD 11 0), .int true .i64 (zx0.getD 12 0), .int true .i64 (zx0.getD 13 0), .int true .i64 (zx0.getD 14 0), .int true .i64 (zx0.getD 15 0), .int true .i64 (zx0.getD 16 0), .int true .i64 (zx0.getD 17 0), .int true .i64 (zx0.getD 18 0), .int true .i64 (zx0.getD 19 0), .int true .i64 (zx0.getD 20 0), .int true .i64 (zx0.getD 21 0), .int true .i64 (zx0.getD 22 0), .int true .i64 (zx0.getD 23 0), .int true .i64 (zx0.getD 24 0), .int true .i64 (zx0.getD 25 0), .int true .i64 (zx0.getD 26 0), .int true .i64 (zx0.getD 27 0), .int true .i64 (zx0.getD 28 0), .int true .i64 (zx0.getD 29 0), .int true .i64 (zx0.getD 30 0), .int true .i64 (zx0.getD 31 0), .int true .i64 (zx0.getD 32 0), .int true .i64 (zx0.getD 33 0), .int true .i64 (zx0.getD 34 0), .int true .i64 (zx0.getD 35 0), .int true .i64 (zx0.getD 36 0), .int true .i64 (zx0.getD 37 0), .int true .i64 (zx0.getD 38 0), .int true .i64 (zx0.getD 39 0), .int true .i64 (zx0.getD 40 0), .int true .i64 (zx0.getD 41 0), .int true .i64 (zx0.getD 42 0), .int true .i64 (zx0.getD 43 0), .int true .i64 (zx0.getD 44 0), .int true .i64 (zx0.getD 45 0), .int true .i64 (zx0.getD 46 0), .int true .i64 (zx0.getD 47 0)]] [] = some ([], LV.g [At.int true IntKind.i64 (r7St_0 zx0), At.int true IntKind.i64 (r7St_1 zx0), At.int true IntKind.i64 (r7St_2 zx0), At.int true IntKind.i64 (r7St_3 zx0), At.int true IntKind.i64 (r7St_4 zx0), At.int true IntKind.i64 (r7St_5 zx0), At.int true IntKind.i64 (r7St_6 zx0), At.int true IntKind.i64 (r7St_7 zx0), At.int true IntKind.i64 (r7St_8 zx0), At.int true IntKind.i64 (r7St_9 zx0), At.int true IntKind.i64 (r7St_10 zx0), At.int true IntKind.i64 (r7St_11 zx0), At.int true IntKind.i64 (r7St_12 zx0), At.int true IntKind.i64 (r7St_13 zx0), At.int true IntKind.i64 (r7St_14 zx0), At.int true IntKind.i64 (r7St_15 zx0), At.int true IntKind.i64 (r7St_16 zx0), At.int true IntKind.i64 (r7St_17 zx0), At.int true IntKind.i64 (r7St_18 zx0), At.int true IntKind.i64 (r7St_19 zx0), At.int true IntKind.i64 (r7St_20 zx0), At.int true IntKind.i64 (r7St_21 zx0), At.int true IntKind.i64 (r7St_22 zx0), At.int true IntKind.i64 (r7St_23 zx0), At.int true IntKind.i64 (r7St_24 zx0), At.int true IntKind.i64 (r7St_25 zx0), At.int true IntKind.i64 (r7St_26 zx0), At.int true IntKind.i64 (r7St_27 zx0), At.int true IntKind.i64 (r7St_28 zx0), At.int true IntKind.i64 (r7St_29 zx0), At.int true IntKind.i64 (r7St_30 zx0), At.int true IntKind.i64 (r7St_31 zx0), At.int true IntKind.i64 (r7St_32 zx0), At.int true IntKind.i64 (r7St_33 zx0), At.int true IntKind.i64 (r7St_34 zx0), At.int true IntKind.i64 (r7St_35 zx0), At.int true IntKind.i64 (r7St_36 zx0), At.int true IntKind.i64 (r7St_37 zx0), At.int true IntKind.i64 (r7St_38 zx0), At.int true IntKind.i64 (r7St_39 zx0), At.int true IntKind.i64 (r7St_40 zx0), At.int true IntKind.i64 (r7St_41 zx0), At.int true IntKind.i64 (r7St_42 zx0), At.int true IntKind.i64 (r7St_43 zx0), At.int true IntKind.i64 (r7St_44 zx0), At.int true IntKind.i64 (r7St_45 zx0), At.int true IntKind.i64 (r7St_46 zx0), At.int true IntKind.i64 (r7St_47 zx0), At.bool false false, At.bool false false, At.int false IntKind.i64 r7St_48], []) := by kernel_rfl
def r7St_c : Con
  | [.g zx0], [] => match rdI zx0 48 with
    | true => some ([], LV.g [At.int true IntKind.i64 (r7St_0 (gZs zx0)), At.int true IntKind.i64 (r7St_1 (gZs zx0)), At.int true IntKind.i64 (r7St_2 (gZs zx0)), At.int true IntKind.i64 (r7St_3 (gZs zx0)), At.int true IntKind.i64 (r7St_4 (gZs zx0)), At.int true IntKind.i64 (r7St_5 (gZs zx0)), At.int true IntKind.i64 (r7St_6 (gZs zx0)), At.int true IntKind.i64 (r7St_7 (gZs zx0)), At.int true IntKind.i64 (r7St_8 (gZs zx0)), At.int true IntKind.i64 (r7St_9 (gZs zx0)), At.int true IntKind.i64 (r7St_10 (gZs zx0)), At.int true IntKind.i64 (r7St_11 (gZs zx0)), At.int true IntKind.i64 (r7St_12 (gZs zx0)), At.int true IntKind.i64 (r7St_13 (gZs zx0)), At.int true IntKind.i64 (r7St_14 (gZs zx0)), At.int true IntKind.i64 (r7St_15 (gZs zx0)), At.int true IntKind.i64 (r7St_16 (gZs zx0)), At.int true IntKind.i64 (r7St_17 (gZs zx0)), At.int true IntKind.i64 (r7St_18 (gZs zx0)), At.int true IntKind.i64 (r7St_19 (gZs zx0)), At.int true IntKind.i64 (r7St_20 (gZs zx0)), At.int true IntKind.i64 (r7St_21 (gZs zx0)), At.int true IntKind.i64 (r7St_22 (gZs zx0)), At.int true IntKind.i64 (r7St_23 (gZs zx0)), At.int true IntKind.i64 (r7St_24 (gZs zx0)), At.int true IntKind.i64 (r7St_25 (gZs zx0)), At.int true IntKind.i64 (r7St_26 (gZs zx0)), At.int true IntKind.i64 (r7St_27 (gZs zx0)), At.int true IntKind.i64 (r7St_28 (gZs zx0)), At.int true IntKind.i64 (r7St_29 (gZs zx0)), At.int true IntKind.i64 (r7St_30 (gZs zx0)), At.int true IntKind.i64 (r7St_31 (gZs zx0)), At.int true IntKind.i64 (r7St_32 (gZs zx0)), At.int true IntKind.i64 (r7St_33 (gZs zx0)), At.int true IntKind.i64 (r7St_34 (gZs zx0)), At.int true IntKind.i64 (r7St_35 (gZs zx0)), At.int true IntKind.i64 (r7St_36 (gZs zx0)), At.int true IntKind.i64 (r7St_37 (gZs zx0)), At.int true IntKind.i64 (r7St_38 (gZs zx0)), At.int true IntKind.i64 (r7St_39 (gZs zx0)), At.int true IntKind.i64 (r7St_40 (gZs zx0)), At.int true IntKind.i64 (r7St_41 (gZs zx0)), At.int true IntKind.i64 (r7St_42 (gZs zx0)), At.int true IntKind.i64 (r7St_43 (gZs zx0)), At.int true IntKind.i64 (r7St_44 (gZs zx0)), At.int true IntKind.i64 (r7St_45 (gZs zx0)), At.int true IntKind.i64 (r7St_46 (gZs zx0)), At.int true IntKind.i64 (r7St_47 (gZs zx0)), At.bool false false, At.bool false false, At.int false IntKind.i64 r7St_48], [])
    | false => none
  | _, _ => none
theorem r7St_ok : ConOK Try.prog 83 (normC r7St_c) := normC_ok (by
  intro args bs obs lv out h ho φ vs w may ha hM
  unfold r7St_c at h
  split at h
  · rename_i zx0
    split at h
    · rename_i hz
      simp only [Option.some.injEq, Prod.mk.injEq] at h
      obtain ⟨rfl, rfl, rfl⟩ := h
      rw [rdI_oks hz] at ha
      exact evG_ok tabUf0_ok follows _ _ _ _ _ (r7St_p (gZs zx0)) ho φ vs w may ha hM
    · cases h
  · cases h)
theorem r7St_en : Enters Try.prog 83 := fun args => by kernel_rfl
-- 4759 626 315 ms

def tabUf1 : Tab := (83, normC r7St_c) :: tabUf0
theorem tabUf1_ok : TOK Try.prog tabUf1 := TOK.cons r7St_en r7St_ok (tabUf0_ok)

end Go.Proofs.Ytcdejlgophpdjaa
end

section
namespace Go.Proofs.Ytcdejlgophpdjaa
open Go Go.RowKit Go.Proofs.Ytcdejlgophpdjaa.V
set_option linter.unusedVariables false
set_option linter.unusedSectionVars false

namespace Vm
def rowsOf (f : Int → Int) (z : List Int) : List (List Int) := [[f (z.getD 0 0), f (z.getD 1 0), f (z.getD 2 0), f (z.getD 3 0)], [f (z.getD 4 0), f (z.getD 5 0), f (z.getD 6 0), f (z.getD 7 0)], [f (z.getD 8 0), f (z.getD 9 0), f (z.getD 10 0), f (z.getD 11 0)], [f (z.getD 12 0), f (z.getD 13 0), f (z.getD 14 0), f (z.getD 15 0)], [f (z.getD 16 0), f (z.getD 17 0), f (z.getD 18 0), f (z.getD 19 0)], [f (z.getD 20 0), f (z.getD 21 0), f (z.getD 22 0), f (z.getD 23 0)], [f (z.getD 24 0), f (z.getD 25 0), f (z.getD 26 0), f (z.getD 27 0)], [f (z.getD 28 0), f (z.getD 29 0), f (z.getD 30 0), f (z.getD 31 0)], [f (z.getD 32 0), f (z.getD 33 0), f (z.getD 34 0), f (z.getD 35 0)], [f (z.getD 36 0), f (z.getD 37 0), f (z.getD 38 0), f (z.getD 39 0)], [f (z.getD 40 0), f (z.getD 41 0), f (z.getD 42 0), f (z.getD 43 0)], [f (z.getD 44 0), f (z.getD 45 0), f (z.getD 46 0), f (z.getD 47 0)]]
theorem run_rows (z : List Int) : vRun_s2 z = rowsOf rCl_0 z := by
  rw [← cla_eq]; rfl
theorem st_rows (z : List Int) : r7St_s2 z = rowsOf rCl_0 z := by kernel_rfl
theorem four_in {a b c d : Int} (ha : In a) (hb : In b) (hc : In c) (hd : In d) : ∀ j, In ([a, b, c, d].getD j 0)
  | 0 => ha
  | 1 => hb
  | 2 => hc
  | 3 => hd
  | _ + 4 => (⟨by decide, by decide⟩ : In 0)
theorem rows_in (z : List Int) (i j : Nat) : In (rget (rowsOf rCl_0 z) i j) := by
  match i with
  | 0 => exact four_in (rcl_in _) (rcl_in _) (rcl_in _) (rcl_in _) j
  | 1 => exact four_in (rcl_in _) (rcl_in _) (rcl_in _) (rcl_in _) j
  | 2 => exact four_in (rcl_in _) (rcl_in _) (rcl_in _) (rcl_in _) j
  | 3 => exact four_in (rcl_in _) (rcl_in _) (rcl_in _) (rcl_in _) j
  | 4 => exact four_in (rcl_in _) (rcl_in _) (rcl_in _) (rcl_in _) j
  | 5 => exact four_in (rcl_in _) (rcl_in _) (rcl_in _) (rcl_in _) j
  | 6 => exact four_in (rcl_in _) (rcl_in _) (rcl_in _) (rcl_in _) j
  | 7 => exact four_in (rcl_in _) (rcl_in _) (rcl_in _) (rcl_in _) j
  | 8 => exact four_in (rcl_in _) (rcl_in _) (rcl_in _) (rcl_in _) j
  | 9 => exact four_in (rcl_in _) (rcl_in _) (rcl_in _) (rcl_in _) j
  | 10 => exact four_in (rcl_in _) (rcl_in _) (rcl_in _) (rcl_in _) j
  | 11 => exact four_in (rcl_in _) (rcl_in _) (rcl_in _) (rcl_in _) j
  | _ + 12 => exact (⟨by decide, by decide⟩ : In 0)
theorem rows_rg (z : List Int) : Rg (rowsOf rCl_0 z) := by
  refine ⟨rfl, fun i hi => ?_, rows_in z⟩
  match i, hi with
  | 0, _ => rfl
  | 1, _ => rfl
  | 2, _ => rfl
  | 3, _ => rfl
  | 4, _ => rfl
  | 5, _ => rfl
  | 6, _ => rfl
  | 7, _ => rfl
  | 8, _ => rfl
  | 9, _ => rfl
  | 10, _ => rfl
  | 11, _ => rfl

end Vm

end Go.Proofs.Ytcdejlgophpdjaa
end

section
namespace Go.Proofs.Ytcdejlgophpdjaa
open Go Go.RowKit Go.Proofs.Ytcdejlgophpdjaa.V
set_option linter.unusedVariables false

/-! (azulejo/isa.Program).Fuel -/
def pFuZ_0 : Int := Int.ofNat (0 : Nat)
theorem pFuZ_p (r0 : Bool) (p : List (List Int)) : evG Try.prog tabUe0 2000 87 [0, 2, 3, 5, 8, 9, 10, 11, 16] [] [] [.a (.slc false 0 0 0 5 0 0)] [⟨⟨0, 0, r0, some ⟨0, [.int .u8, .int .u8, .int .u8, .int .u8, .int .i16], p, none⟩⟩, []⟩] = some ([], LV.a (At.int false IntKind.i64 pFuZ_0), [none]) := by kernel_rfl
def pFuZ_c : Con
  | [.a (.slc false 0 0 0 5 0 0)], [⟨⟨0, 0, r0, some ⟨0, [.int .u8, .int .u8, .int .u8, .int .u8, .int .i16], p, none⟩⟩, []⟩] => some ([], LV.a (At.int false IntKind.i64 pFuZ_0), [none])
  | _, _ => none
theorem pFuZ_ok : ConOK Try.prog 87 (normC pFuZ_c) := normC_ok (by
  intro args bs obs lv out h ho φ vs w may ha hM
  unfold pFuZ_c at h
  split at h
  · simp only [Option.some.injEq, Prod.mk.injEq] at h
    obtain ⟨rfl, rfl, rfl⟩ := h
    rename_i r0 p
    exact evG_ok tabUe0_ok follows _ _ _ _ _ (pFuZ_p r0 p) ho φ vs w may ha hM
  · cases h)
theorem pFuZ_en : Enters Try.prog 87 := fun args => by kernel_rfl
-- 133 2 1 ms

def tabUx1 : Tab := (87, normC pFuZ_c) :: tabUe0
theorem tabUx1_ok : TOK Try.prog tabUx1 := TOK.cons pFuZ_en pFuZ_ok (tabUe0_ok)

end Go.Proofs.Ytcdejlgophpdjaa
end

section
namespace Go.Proofs.Ytcdejlgophpdjaa
open Go Go.RowKit Go.Proofs.Ytcdejlgophpdjaa.V
set_option linter.unusedVariables false

/-! (azulejo/isa.Program).Check -/
def pChZ_0 : Int := (0 : Int)
theorem pChZ_p (x1 r0 : Bool) (p : List (List Int)) : evG Try.prog tabUx1 2000 89 [0, 1, 4, 5, 6, 7, 10, 11, 12, 13, 14, 24, 29] [] [] [.a (.slc false 0 0 0 5 0 0), .a (.bool true x1)] [⟨⟨0, 0, r0, some ⟨0, [.int .u8, .int .u8, .int .u8, .int .u8, .int .i16], p, none⟩⟩, []⟩] = some ([], LV.a (At.int false IntKind.i64 pChZ_0), [none]) := by kernel_rfl
def pChZ_c : Con
  | [.a (.slc false 0 0 0 5 0 0), .a (.bool true x1)], [⟨⟨0, 0, r0, some ⟨0, [.int .u8, .int .u8, .int .u8, .int .u8, .int .i16], p, none⟩⟩, []⟩] => some ([], LV.a (At.int false IntKind.i64 pChZ_0), [none])
  | _, _ => none
theorem pChZ_ok : ConOK Try.prog 89 (normC pChZ_c) := normC_ok (by
  intro args bs obs lv out h ho φ vs w may ha hM
  unfold pChZ_c at h
  split at h
  · simp only [Option.some.injEq, Prod.mk.injEq] at h
    obtain ⟨rfl, rfl, rfl⟩ := h
    rename_i x1 r0 p
    exact evG_ok tabUx1_ok follows _ _ _ _ _ (pChZ_p x1 r0 p) ho φ vs w may ha hM
  · cases h)
theorem pChZ_en : Enters Try.prog 89 := fun args => by kernel_rfl
-- 86 2 1 ms

def tabUx2 : Tab := (89, normC pChZ_c) :: tabUx1
theorem tabUx2_ok : TOK Try.prog tabUx2 := TOK.cons pChZ_en pChZ_ok (tabUx1_ok)

end Go.Proofs.Ytcdejlgophpdjaa
end

section
namespace Go.Proofs.Ytcdejlgophpdjaa
open Go Go.RowKit Go.Proofs.Ytcdejlgophpdjaa.V
set_option linter.unusedVariables false

def vRaZ_D : Tab := (2, decC [(209, false)]) :: tabUx2
theorem vRaZ_D_ok : TOK Try.prog vRaZ_D := TOK.cons (fun args => by kernel_rfl) (fun _ _ _ _ _ h ho => (decC_ok h ho).elim) tabUx2_ok
/-! (*azulejo/vm.machine).range_ -/
def vRaZ_o (x1 x2 : Int) (g : List (List Int)) (gn : Bool) (st : Int) (r0 : Bool) (p : List (List Int)) : List Prop := [decide (x1 < x2) = false]
theorem vRaZ_p (x1 x2 : Int) (g : List (List Int)) (gn : Bool) (st : Int) (r0 : Bool) (p : List (List Int)) : evG Try.prog vRaZ_D 2000 127 [0, 1, 2, 6, 7, 8, 9, 13, 21] [] [0] [.a (.ptr 0 0), .a (.int true .i64 x1), .a (.int true .i64 x2)] (padBs [⟨⟨0, 51, false, some ⟨0, [.int .i64, .int .i64, .int .i64, .int .i64], g, some 12⟩⟩, [some (.bool true gn), some (.int true .i64 st), some (.slc false 1 0 0 5 0 0)]⟩, ⟨⟨0, 0, r0, some ⟨0, [.int .u8, .int .u8, .int .u8, .int .u8, .int .i16], p, none⟩⟩, []⟩]) = some (vRaZ_o x1 x2 g gn st r0 p, LV.a (At.bool false true), padOut [some (BC.mk (Hd.mk (nat_lit 0) (nat_lit 51) false (some (Rw.mk (nat_lit 0) [Kd.int IntKind.i64, Kd.int IntKind.i64, Kd.int IntKind.i64, Kd.int IntKind.i64] g (some (nat_lit 12))))) [some (At.bool true gn), some (At.int true IntKind.i64 st), some (At.slc false (nat_lit 1) (nat_lit 0) (nat_lit 0) (nat_lit 5) (nat_lit 0) (nat_lit 0))]), none]) := by kernel_rfl
def vRaZ_c0 : Con
  | [.a (.ptr 0 0), .a (.int true .i64 x1), .a (.int true .i64 x2)], [⟨⟨0, 51, false, some ⟨0, [.int .i64, .int .i64, .int .i64, .int .i64], g, some 12⟩⟩, [some (.bool true gn), some (.int true .i64 st), some (.slc false 1 0 0 5 0 0)]⟩, ⟨⟨0, 0, r0, some ⟨0, [.int .u8, .int .u8, .int .u8, .int .u8, .int .i16], p, none⟩⟩, []⟩] => some (vRaZ_o x1 x2 g gn st r0 p, LV.a (At.bool false true), [some (BC.mk (Hd.mk (nat_lit 0) (nat_lit 51) false (some (Rw.mk (nat_lit 0) [Kd.int IntKind.i64, Kd.int IntKind.i64, Kd.int IntKind.i64, Kd.int IntKind.i64] g (some (nat_lit 12))))) [some (At.bool true gn), some (At.int true IntKind.i64 st), some (At.slc false (nat_lit 1) (nat_lit 0) (nat_lit 0) (nat_lit 5) (nat_lit 0) (nat_lit 0))]), none])
  | _, _ => none
def vRaZ_c : Con := packC vRaZ_c0
theorem vRaZ_ok : ConOK Try.prog 127 (normC vRaZ_c) := normC_ok (packC_ok (by
  intro args bs obs lv out h ho φ vs w may ha hM
  unfold vRaZ_c0 at h
  split at h
  · simp only [Option.some.injEq, Prod.mk.injEq] at h
    obtain ⟨rfl, rfl, rfl⟩ := h
    rename_i x1 x2 g gn st r0 p
    exact evG_ok vRaZ_D_ok follows _ _ _ _ _ (vRaZ_p x1 x2 g gn st r0 p) ho φ vs w may ha hM
  · cases h))
theorem vRaZ_en : Enters Try.prog 127 := fun args => by kernel_rfl
-- 122 30 0 ms

def tabUx3 : Tab := (127, normC vRaZ_c) :: tabUx2
theorem tabUx3_ok : TOK Try.prog tabUx3 := TOK.cons vRaZ_en vRaZ_ok (tabUx2_ok)

end Go.Proofs.Ytcdejlgophpdjaa
end

section
namespace Go.Proofs.Ytcdejlgophpdjaa
open Go Go.RowKit Go.Proofs.Ytcdejlgophpdjaa.V
set_option linter.unusedVariables false

/-! azulejo/vm.Run -/
def vRunZ_s0 (zx1 : List Int) : List (List Int) := [[(zx1.getD 0 0), (zx1.getD 1 0), (zx1.getD 2 0), (zx1.getD 3 0)], [(zx1.getD 4 0), (zx1.getD 5 0), (zx1.getD 6 0), (zx1.getD 7 0)], [(zx1.getD 8 0), (zx1.getD 9 0), (zx1.getD 10 0), (zx1.getD 11 0)], [(zx1.getD 12 0), (zx1.getD 13 0), (zx1.getD 14 0), (zx1.getD 15 0)], [(zx1.getD 16 0), (zx1.getD 17 0), (zx1.getD 18 0), (zx1.getD 19 0)], [(zx1.getD 20 0), (zx1.getD 21 0), (zx1.getD 22 0), (zx1.getD 23 0)], [(zx1.getD 24 0), (zx1.getD 25 0), (zx1.getD 26 0), (zx1.getD 27 0)], [(zx1.getD 28 0), (zx1.getD 29 0), (zx1.getD 30 0), (zx1.getD 31 0)], [(zx1.getD 32 0), (zx1.getD 33 0), (zx1.getD 34 0), (zx1.getD 35 0)], [(zx1.getD 36 0), (zx1.getD 37 0), (zx1.getD 38 0), (zx1.getD 39 0)], [(zx1.getD 40 0), (zx1.getD 41 0), (zx1.getD 42 0), (zx1.getD 43 0)], [(zx1.getD 44 0), (zx1.getD 45 0), (zx1.getD 46 0), (zx1.getD 47 0)]]
def vRunZ_s1 (zx1 : List Int) : List (List Int) := rset (rset (rset (rset (rset (rset (rset (rset (rset (rset (rset (rset (vRunZ_s0 zx1) (0 : Nat) (0 : Nat) [fWi_0 (rget (vRunZ_s0 zx1) (0 : Nat) (0 : Nat)) (2147483647 : Int), fWi_0 (rget (vRunZ_s0 zx1) (0 : Nat) (1 : Nat)) (2147483647 : Int), fWi_0 (rget (vRunZ_s0 zx1) (0 : Nat) (2 : Nat)) (2147483647 : Int), fWi_0 (rget (vRunZ_s0 zx1) (0 : Nat) (3 : Nat)) (2147483647 : Int)]) (1 : Nat) (0 : Nat) [fWi_0 (rget (vRunZ_s0 zx1) (1 : Nat) (0 : Nat)) (2147483647 : Int), fWi_0 (rget (vRunZ_s0 zx1) (1 : Nat) (1 : Nat)) (2147483647 : Int), fWi_0 (rget (vRunZ_s0 zx1) (1 : Nat) (2 : Nat)) (2147483647 : Int), fWi_0 (rget (vRunZ_s0 zx1) (1 : Nat) (3 : Nat)) (2147483647 : Int)]) (2 : Nat) (0 : Nat) [fWi_0 (rget (vRunZ_s0 zx1) (2 : Nat) (0 : Nat)) (2147483647 : Int), fWi_0 (rget (vRunZ_s0 zx1) (2 : Nat) (1 : Nat)) (2147483647 : Int), fWi_0 (rget (vRunZ_s0 zx1) (2 : Nat) (2 : Nat)) (2147483647 : Int), fWi_0 (rget (vRunZ_s0 zx1) (2 : Nat) (3 : Nat)) (2147483647 : Int)]) (3 : Nat) (0 : Nat) [fWi_0 (rget (vRunZ_s0 zx1) (3 : Nat) (0 : Nat)) (2147483647 : Int), fWi_0 (rget (vRunZ_s0 zx1) (3 : Nat) (1 : Nat)) (2147483647 : Int), fWi_0 (rget (vRunZ_s0 zx1) (3 : Nat) (2 : Nat)) (2147483647 : Int), fWi_0 (rget (vRunZ_s0 zx1) (3 : Nat) (3 : Nat)) (2147483647 : Int)]) (4 : Nat) (0 : Nat) [fWi_0 (rget (vRunZ_s0 zx1) (4 : Nat) (0 : Nat)) (2147483647 : Int), fWi_0 (rget (vRunZ_s0 zx1) (4 : Nat) (1 : Nat)) (2147483647 : Int), fWi_0 (rget (vRunZ_s0 zx1) (4 : Nat) (2 : Nat)) (2147483647 : Int), fWi_0 (rget (vRunZ_s0 zx1) (4 : Nat) (3 : Nat)) (2147483647 : Int)]) (5 : Nat) (0 : Nat) [fWi_0 (rget (vRunZ_s0 zx1) (5 : Nat) (0 : Nat)) (2147483647 : Int), fWi_0 (rget (vRunZ_s0 zx1) (5 : Nat) (1 : Nat)) (2147483647 : Int), fWi_0 (rget (vRunZ_s0 zx1) (5 : Nat) (2 : Nat)) (2147483647 : Int), fWi_0 (rget (vRunZ_s0 zx1) (5 : Nat) (3 : Nat)) (2147483647 : Int)]) (6 : Nat) (0 : Nat) [fWi_0 (rget (vRunZ_s0 zx1) (6 : Nat) (0 : Nat)) (2147483647 : Int), fWi_0 (rget (vRunZ_s0 zx1) (6 : Nat) (1 : Nat)) (2147483647 : Int), fWi_0 (rget (vRunZ_s0 zx1) (6 : Nat) (2 : Nat)) (2147483647 : Int), fWi_0 (rget (vRunZ_s0 zx1) (6 : Nat) (3 : Nat)) (2147483647 : Int)]) (7 : Nat) (0 : Nat) [fWi_0 (rget (vRunZ_s0 zx1) (7 : Nat) (0 : Nat)) (2147483647 : Int), fWi_0 (rget (vRunZ_s0 zx1) (7 : Nat) (1 : Nat)) (2147483647 : Int), fWi_0 (rget (vRunZ_s0 zx1) (7 : Nat) (2 : Nat)) (2147483647 : Int), fWi_0 (rget (vRunZ_s0 zx1) (7 : Nat) (3 : Nat)) (2147483647 : Int)]) (8 : Nat) (0 : Nat) [fWi_0 (rget (vRunZ_s0 zx1) (8 : Nat) (0 : Nat)) (2147483647 : Int), fWi_0 (rget (vRunZ_s0 zx1) (8 : Nat) (1 : Nat)) (2147483647 : Int), fWi_0 (rget (vRunZ_s0 zx1) (8 : Nat) (2 : Nat)) (2147483647 : Int), fWi_0 (rget (vRunZ_s0 zx1) (8 : Nat) (3 : Nat)) (2147483647 : Int)]) (9 : Nat) (0 : Nat) [fWi_0 (rget (vRunZ_s0 zx1) (9 : Nat) (0 : Nat)) (2147483647 : Int), fWi_0 (rget (vRunZ_s0 zx1) (9 : Nat) (1 : Nat)) (2147483647 : Int), fWi_0 (rget (vRunZ_s0 zx1) (9 : Nat) (2 : Nat)) (2147483647 : Int), fWi_0 (rget (vRunZ_s0 zx1) (9 : Nat) (3 : Nat)) (2147483647 : Int)]) (10 : Nat) (0 : Nat) [fWi_0 (rget (vRunZ_s0 zx1) (10 : Nat) (0 : Nat)) (2147483647 : Int), fWi_0 (rget (vRunZ_s0 zx1) (10 : Nat) (1 : Nat)) (2147483647 : Int), fWi_0 (rget (vRunZ_s0 zx1) (10 : Nat) (2 : Nat)) (2147483647 : Int), fWi_0 (rget (vRunZ_s0 zx1) (10 : Nat) (3 : Nat)) (2147483647 : Int)]) (11 : Nat) (0 : Nat) [fWi_0 (rget (vRunZ_s0 zx1) (11 : Nat) (0 : Nat)) (2147483647 : Int), fWi_0 (rget (vRunZ_s0 zx1) (11 : Nat) (1 : Nat)) (2147483647 : Int), fWi_0 (rget (vRunZ_s0 zx1) (11 : Nat) (2 : Nat)) (2147483647 : Int), fWi_0 (rget (vRunZ_s0 zx1) (11 : Nat) (3 : Nat)) (2147483647 : Int)]
def vRunZ_0 (zx1 : List Int) : Int := rget (vRunZ_s1 zx1) (0 : Nat) (0 : Nat)
def vRunZ_1 (zx1 : List Int) : Int := rget (vRunZ_s1 zx1) (0 : Nat) (1 : Nat)
def vRunZ_2 (zx1 : List Int) : Int := rget (vRunZ_s1 zx1) (0 : Nat) (2 : Nat)
def vRunZ_3 (zx1 : List Int) : Int := rget (vRunZ_s1 zx1) (0 : Nat) (3 : Nat)
def vRunZ_4 (zx1 : List Int) : Int := rget (vRunZ_s1 zx1) (1 : Nat) (0 : Nat)
def vRunZ_5 (zx1 : List Int) : Int := rget (vRunZ_s1 zx1) (1 : Nat) (1 : Nat)
def vRunZ_6 (zx1 : List Int) : Int := rget (vRunZ_s1 zx1) (1 : Nat) (2 : Nat)
def vRunZ_7 (zx1 : List Int) : Int := rget (vRunZ_s1 zx1) (1 : Nat) (3 : Nat)
def vRunZ_8 (zx1 : List Int) : Int := rget (vRunZ_s1 zx1) (2 : Nat) (0 : Nat)
def vRunZ_9 (zx1 : List Int) : Int := rget (vRunZ_s1 zx1) (2 : Nat) (1 : Nat)
def vRunZ_10 (zx1 : List Int) : Int := rget (vRunZ_s1 zx1) (2 : Nat) (2 : Nat)
def vRunZ_11 (zx1 : List Int) : Int := rget (vRunZ_s1 zx1) (2 : Nat) (3 : Nat)
def vRunZ_12 (zx1 : List Int) : Int := rget (vRunZ_s1 zx1) (3 : Nat) (0 : Nat)
def vRunZ_13 (zx1 : List Int) : Int := rget (vRunZ_s1 zx1) (3 : Nat) (1 : Nat)
def vRunZ_14 (zx1 : List Int) : Int := rget (vRunZ_s1 zx1) (3 : Nat) (2 : Nat)
def vRunZ_15 (zx1 : List Int) : Int := rget (vRunZ_s1 zx1) (3 : Nat) (3 : Nat)
def vRunZ_16 (zx1 : List Int) : Int := rget (vRunZ_s1 zx1) (4 : Nat) (0 : Nat)
def vRunZ_17 (zx1 : List Int) : Int := rget (vRunZ_s1 zx1) (4 : Nat) (1 : Nat)
def vRunZ_18 (zx1 : List Int) : Int := rget (vRunZ_s1 zx1) (4 : Nat) (2 : Nat)
def vRunZ_19 (zx1 : List Int) : Int := rget (vRunZ_s1 zx1) (4 : Nat) (3 : Nat)
def vRunZ_20 (zx1 : List Int) : Int := rget (vRunZ_s1 zx1) (5 : Nat) (0 : Nat)
def vRunZ_21 (zx1 : List Int) : Int := rget (vRunZ_s1 zx1) (5 : Nat) (1 : Nat)
def vRunZ_22 (zx1 : List Int) : Int := rget (vRunZ_s1 zx1) (5 : Nat) (2 : Nat)
def vRunZ_23 (zx1 : List Int) : Int := rget (vRunZ_s1 zx1) (5 : Nat) (3 : Nat)
def vRunZ_24 (zx1 : List Int) : Int := rget (vRunZ_s1 zx1) (6 : Nat) (0 : Nat)
def vRunZ_25 (zx1 : List Int) : Int := rget (vRunZ_s1 zx1) (6 : Nat) (1 : Nat)
def vRunZ_26 (zx1 : List Int) : Int := rget (vRunZ_s1 zx1) (6 : Nat) (2 : Nat)
def vRunZ_27 (zx1 : List Int) : Int := rget (vRunZ_s1 zx1) (6 : Nat) (3 : Nat)
def vRunZ_28 (zx1 : List Int) : Int := rget (vRunZ_s1 zx1) (7 : Nat) (0 : Nat)
def vRunZ_29 (zx1 : List Int) : Int := rget (vRunZ_s1 zx1) (7 : Nat) (1 : Nat)
def vRunZ_30 (zx1 : List Int) : Int := rget (vRunZ_s1 zx1) (7 : Nat) (2 : Nat)
def vRunZ_31 (zx1 : List Int) : Int := rget (vRunZ_s1 zx1) (7 : Nat) (3 : Nat)
def vRunZ_32 (zx1 : List Int) : Int := rget (vRunZ_s1 zx1) (8 : Nat) (0 : Nat)
def vRunZ_33 (zx1 : List Int) : Int := rget (vRunZ_s1 zx1) (8 : Nat) (1 : Nat)
def vRunZ_34 (zx1 : List Int) : Int := rget (vRunZ_s1 zx1) (8 : Nat) (2 : Nat)
def vRunZ_35 (zx1 : List Int) : Int := rget (vRunZ_s1 zx1) (8 : Nat) (3 : Nat)
def vRunZ_36 (zx1 : List Int) : Int := rget (vRunZ_s1 zx1) (9 : Nat) (0 : Nat)
def vRunZ_37 (zx1 : List Int) : Int := rget (vRunZ_s1 zx1) (9 : Nat) (1 : Nat)
def vRunZ_38 (zx1 : List Int) : Int := rget (vRunZ_s1 zx1) (9 : Nat) (2 : Nat)
def vRunZ_39 (zx1 : List Int) : Int := rget (vRunZ_s1 zx1) (9 : Nat) (3 : Nat)
def vRunZ_40 (zx1 : List Int) : Int := rget (vRunZ_s1 zx1) (10 : Nat) (0 : Nat)
def vRunZ_41 (zx1 : List Int) : Int := rget (vRunZ_s1 zx1) (10 : Nat) (1 : Nat)
def vRunZ_42 (zx1 : List Int) : Int := rget (vRunZ_s1 zx1) (10 : Nat) (2 : Nat)
def vRunZ_43 (zx1 : List Int) : Int := rget (vRunZ_s1 zx1) (10 : Nat) (3 : Nat)
def vRunZ_44 (zx1 : List Int) : Int := rget (vRunZ_s1 zx1) (11 : Nat) (0 : Nat)
def vRunZ_45 (zx1 : List Int) : Int := rget (vRunZ_s1 zx1) (11 : Nat) (1 : Nat)
def vRunZ_46 (zx1 : List Int) : Int := rget (vRunZ_s1 zx1) (11 : Nat) (2 : Nat)
def vRunZ_47 (zx1 : List Int) : Int := rget (vRunZ_s1 zx1) (11 : Nat) (3 : Nat)
def vRunZ_48 : Int := (0 : Int)
def vRunZ_o (zx1 : List Int) (r0 : Bool) (p : List (List Int)) : List Prop := [decide ((0 : Int) < Int.ofNat (0 : Nat)) = false]
theorem vRunZ_p (zx1 : List Int) (r0 : Bool) (p : List (List Int)) : evG Try.prog tabUx3 2000 86 [0, 1, 3, 4, 5, 6, 7, 20, 21, 22, 36] [] [] [.a (.slc false 0 0 0 5 0 0), .g [.int true .i64 (zx1.getD 0 0), .int true .i64 (zx1.getD 1 0), .int true .i64 (zx1.getD 2 0), .int true .i64 (zx1.getD 3 0), .int true .i64 (zx1.getD 4 0), .int true .i64 (zx1.getD 5 0), .int true .i64 (zx1.getD 6 0), .int true .i64 (zx1.getD 7 0), .int true .i64 (zx1.getD 8 0), .int true .i64 (zx1.getD 9 0), .int true .i64 (zx1.getD 10 0), .int true .i64 (zx1.getD 11 0), .int true .i64 (zx1.getD 12 0), .int true .i64 (zx1.getD 13 0), .int true .i64 (zx1.getD 14 0), .int true .i64 (zx1.getD 15 0), .int true .i64 (zx1.getD 16 0), .int true .i64 (zx1.getD 17 0), .int true .i64 (zx1.getD 18 0), .int true .i64 (zx1.getD 19 0), .int true .i64 (zx1.getD 20 0), .int true .i64 (zx1.getD 21 0), .int true .i64 (zx1.getD 22 0), .int true .i64 (zx1.getD 23 0), .int true .i64 (zx1.getD 24 0), .int true .i64 (zx1.getD 25 0), .int true .i64 (zx1.getD 26 0), .int true .i64 (zx1.getD 27 0), .int true .i64 (zx1.getD 28 0), .int true .i64 (zx1.getD 29 0), .int true .i64 (zx1.getD 30 0), .int true .i64 (zx1.getD 31 0), .int true .i64 (zx1.getD 32 0), .int true .i64 (zx1.getD 33 0), .int true .i64 (zx1.getD 34 0), .int true .i64 (zx1.getD 35 0), .int true .i64 (zx1.getD 36 0), .int true .i64 (zx1.getD 37 0), .int true .i64 (zx1.getD 38 0), .int true .i64 (zx1.getD 39 0), .int true .i64 (zx1.getD 40 0), .int true .i64 (zx1.getD 41 0), .int true .i64 (zx1.getD 42 0), .int true .i64 (zx1.getD 43 0), .int true .i64 (zx1.getD 44 0), .int true .i64 (zx1.getD 45 0), .int true .i64 (zx1.getD 46 0), .int true .i64 (zx1.getD 47 0)]] [⟨⟨0, 0, r0, some ⟨0, [.int .u8, .int .u8, .int .u8, .int .u8, .int .i16], p, none⟩⟩, []⟩] = some (vRunZ_o zx1 r0 p, LV.g [At.int true IntKind.i64 (vRunZ_0 zx1), At.int true IntKind.i64 (vRunZ_1 zx1), At.int true IntKind.i64 (vRunZ_2 zx1), At.int true IntKind.i64 (vRunZ_3 zx1), At.int true IntKind.i64 (vRunZ_4 zx1), At.int true IntKind.i64 (vRunZ_5 zx1), At.int true IntKind.i64 (vRunZ_6 zx1), At.int true IntKind.i64 (vRunZ_7 zx1), At.int true IntKind.i64 (vRunZ_8 zx1), At.int true IntKind.i64 (vRunZ_9 zx1), At.int true IntKind.i64 (vRunZ_10 zx1), At.int true IntKind.i64 (vRunZ_11 zx1), At.int true IntKind.i64 (vRunZ_12 zx1), At.int true IntKind.i64 (vRunZ_13 zx1), At.int true IntKind.i64 (vRunZ_14 zx1), At.int true IntKind.i64 (vRunZ_15 zx1), At.int true IntKind.i64 (vRunZ_16 zx1), At.int true IntKind.i64 (vRunZ_17 zx1), At.int true IntKind.i64 (vRunZ_18 zx1), At.int true IntKind.i64 (vRunZ_19 zx1), At.int true IntKind.i64 (vRunZ_20 zx1), At.int true IntKind.i64 (vRunZ_21 zx1), At.int true IntKind.i64 (vRunZ_22 zx1), At.int true IntKind.i64 (vRunZ_23 zx1), At.int true IntKind.i64 (vRunZ_24 zx1), At.int true IntKind.i64 (vRunZ_25 zx1), At.int true IntKind.i64 (vRunZ_26 zx1), At.int true IntKind.i64 (vRunZ_27 zx1), At.int true IntKind.i64 (vRunZ_28 zx1), At.int true IntKind.i64 (vRunZ_29 zx1), At.int true IntKind.i64 (vRunZ_30 zx1), At.int true IntKind.i64 (vRunZ_31 zx1), At.int true IntKind.i64 (vRunZ_32 zx1), At.int true IntKind.i64 (vRunZ_33 zx1), At.int true IntKind.i64 (vRunZ_34 zx1), At.int true IntKind.i64 (vRunZ_35 zx1), At.int true IntKind.i64 (vRunZ_36 zx1), At.int true IntKind.i64 (vRunZ_37 zx1), At.int true IntKind.i64 (vRunZ_38 zx1), At.int true IntKind.i64 (vRunZ_39 zx1), At.int true IntKind.i64 (vRunZ_40 zx1), At.int true IntKind.i64 (vRunZ_41 zx1), At.int true IntKind.i64 (vRunZ_42 zx1), At.int true IntKind.i64 (vRunZ_43 zx1), At.int true IntKind.i64 (vRunZ_44 zx1), At.int true IntKind.i64 (vRunZ_45 zx1), At.int true IntKind.i64 (vRunZ_46 zx1), At.int true IntKind.i64 (vRunZ_47 zx1), At.bool true false, At.int true IntKind.i64 vRunZ_48], [none]) := by kernel_rfl
def vRunZ_c : Con
  | [.a (.slc false 0 0 0 5 0 0), .g zx1], [⟨⟨0, 0, r0, some ⟨0, [.int .u8, .int .u8, .int .u8, .int .u8, .int .i16], p, none⟩⟩, []⟩] => match rdI zx1 48 with
    | true => some (vRunZ_o (gZs zx1) r0 p, LV.g [At.int true IntKind.i64 (vRunZ_0 (gZs zx1)), At.int true IntKind.i64 (vRunZ_1 (gZs zx1)), At.int true IntKind.i64 (vRunZ_2 (gZs zx1)), At.int true IntKind.i64 (vRunZ_3 (gZs zx1)), At.int true IntKind.i64 (vRunZ_4 (gZs zx1)), At.int true IntKind.i64 (vRunZ_5 (gZs zx1)), At.int true IntKind.i64 (vRunZ_6 (gZs zx1)), At.int true IntKind.i64 (vRunZ_7 (gZs zx1)), At.int true IntKind.i64 (vRunZ_8 (gZs zx1)), At.int true IntKind.i64 (vRunZ_9 (gZs zx1)), At.int true IntKind.i64 (vRunZ_10 (gZs zx1)), At.int true IntKind.i64 (vRunZ_11 (gZs zx1)), At.int true IntKind.i64 (vRunZ_12 (gZs zx1)), At.int true IntKind.i64 (vRunZ_13 (gZs zx1)), At.int true IntKind.i64 (vRunZ_14 (gZs zx1)), At.int true IntKind.i64 (vRunZ_15 (gZs zx1)), At.int true IntKind.i64 (vRunZ_16 (gZs zx1)), At.int true IntKind.i64 (vRunZ_17 (gZs zx1)), At.int true IntKind.i64 (vRunZ_18 (gZs zx1)), At.int true IntKind.i64 (vRunZ_19 (gZs zx1)), At.int true IntKind.i64 (vRunZ_20 (gZs zx1)), At.int true IntKind.i64 (vRunZ_21 (gZs zx1)), At.int true IntKind.i64 (vRunZ_22 (gZs zx1)), At.int true IntKind.i64 (vRunZ_23 (gZs zx1)), At.int true IntKind.i64 (vRunZ_24 (gZs zx1)), At.int true IntKind.i64 (vRunZ_25 (gZs zx1)), At.int true IntKind.i64 (vRunZ_26 (gZs zx1)), At.int true IntKind.i64 (vRunZ_27 (gZs zx1)), At.int true IntKind.i64 (vRunZ_28 (gZs zx1)), At.int true IntKind.i64 (vRunZ_29 (gZs zx1)), At.int true IntKind.i64 (vRunZ_30 (gZs zx1)), At.int true IntKind.i64 (vRunZ_31 (gZs zx1)), At.int true IntKind.i64 (vRunZ_32 (gZs zx1)), At.int true IntKind.i64 (vRunZ_33 (gZs zx1)), At.int true IntKind.i64 (vRunZ_34 (gZs zx1)), At.int true IntKind.i64 (vRunZ_35 (gZs zx1)), At.int true IntKind.i64 (vRunZ_36 (gZs zx1)), At.int true IntKind.i64 (vRunZ_37 (gZs zx1)), At.int true IntKind.i64 (vRunZ_38 (gZs zx1)), At.int true IntKind.i64 (vRunZ_39 (gZs zx1)), At.int true IntKind.i64 (vRunZ_40 (gZs zx1)), At.int true IntKind.i64 (vRunZ_41 (gZs zx1)), At.int true IntKind.i64 (vRunZ_42 (gZs zx1)), At.int true IntKind.i64 (vRunZ_43 (gZs zx1)), At.int true IntKind.i64 (vRunZ_44 (gZs zx1)), At.int true IntKind.i64 (vRunZ_45 (gZs zx1)), At.int true IntKind.i64 (vRunZ_46 (gZs zx1)), At.int true IntKind.i64 (vRunZ_47 (gZs zx1)), At.bool true false, At.int true IntKind.i64 vRunZ_48], [none])
    | false => none
  | _, _ => none
theorem vRunZ_ok : ConOK Try.prog 86 (normC vRunZ_c) := normC_ok (by
  intro args bs obs lv out h ho φ vs w may ha hM
  unfold vRunZ_c at h
  split at h
  · rename_i zx1 r0 p
    split at h
    · rename_i hz
      simp only [Option.some.injEq, Prod.mk.injEq] at h
      obtain ⟨rfl, rfl, rfl⟩ := h
      rw [rdI_oks hz] at ha
      exact evG_ok tabUx3_ok follows _ _ _ _ _ (vRunZ_p (gZs zx1) r0 p) ho φ vs w may ha hM
    · cases h
  · cases h)
theorem vRunZ_en : Enters Try.prog 86 := fun args => by kernel_rfl
-- 3920 196 275 ms

def tabUx4 : Tab := (86, normC vRunZ_c) :: tabUx3
theorem tabUx4_ok : TOK Try.prog tabUx4 := TOK.cons vRunZ_en vRunZ_ok (tabUx3_ok)

end Go.Proofs.Ytcdejlgophpdjaa
end

section
namespace Go.Proofs.Ytcdejlgophpdjaa
open Go Go.RowKit Go.Proofs.Ytcdejlgophpdjaa.V
set_option linter.unusedVariables false

/-! azulejo/vm.Shade -/
def vShZ_s0 (x4 : Int) : Int := if x4 < (0 : Int) then (0 : Int) else x4
def vShZ_s1 (x1_0 x1_1 x1_2 x1_3 x2 x3 x4 : Int) : List Int := [vCol_0 x1_0, vCol_1 x1_1, vCol_2 x1_2, vCol_3 x1_3, fOf_0 x2, fOf_0 x3, if (65535 : Int) < vShZ_s0 x4 then (65535 : Int) else vShZ_s0 x4, (65536 : Int), (0 : Int), (0 : Int), (0 : Int), (0 : Int), (0 : Int), (0 : Int), (0 : Int), (0 : Int), (0 : Int), (0 : Int), (0 : Int), (0 : Int), (0 : Int), (0 : Int), (0 : Int), (0 : Int), (0 : Int), (0 : Int), (0 : Int), (0 : Int), (0 : Int), (0 : Int), (0 : Int), (0 : Int), (0 : Int), (0 : Int), (0 : Int), (0 : Int), (0 : Int), (0 : Int), (0 : Int), (0 : Int), (0 : Int), (0 : Int), (0 : Int), (0 : Int), (0 : Int), (0 : Int), (0 : Int), (0 : Int)]
def vShZ_0 (x1_0 x1_1 x1_2 x1_3 x2 x3 x4 : Int) : Int := vCol_0 (vRunZ_0 (vShZ_s1 x1_0 x1_1 x1_2 x1_3 x2 x3 x4))
def vShZ_1 (x1_0 x1_1 x1_2 x1_3 x2 x3 x4 : Int) : Int := vCol_1 (vRunZ_1 (vShZ_s1 x1_0 x1_1 x1_2 x1_3 x2 x3 x4))
def vShZ_2 (x1_0 x1_1 x1_2 x1_3 x2 x3 x4 : Int) : Int := vCol_2 (vRunZ_2 (vShZ_s1 x1_0 x1_1 x1_2 x1_3 x2 x3 x4))
def vShZ_3 (x1_0 x1_1 x1_2 x1_3 x2 x3 x4 : Int) : Int := vCol_3 (vRunZ_3 (vShZ_s1 x1_0 x1_1 x1_2 x1_3 x2 x3 x4))
def vShZ_o (x1_0 x1_1 x1_2 x1_3 x2 x3 x4 : Int) (r0 : Bool) (p : List (List Int)) : List Prop := [decide ((0 : Int) < Int.ofNat (0 : Nat)) = false]
theorem vShZ_p (x1_0 x1_1 x1_2 x1_3 x2 x3 x4 : Int) (r0 : Bool) (p : List (List Int)) : evG Try.prog tabUx4 2000 88 [0, 1, 2, 3, 4, 6, 10, 11, 12, 13] [] [] [.a (.slc false 0 0 0 5 0 0), .g [.int true .i64 x1_0, .int true .i64 x1_1, .int true .i64 x1_2, .int true .i64 x1_3], .a (.int true .i64 x2), .a (.int true .i64 x3), .a (.int true .i64 x4)] [⟨⟨0, 0, r0, some ⟨0, [.int .u8, .int .u8, .int .u8, .int .u8, .int .i16], p, none⟩⟩, []⟩] = some (vShZ_o x1_0 x1_1 x1_2 x1_3 x2 x3 x4 r0 p, LV.t [LV.g [At.int true IntKind.i64 (vShZ_0 x1_0 x1_1 x1_2 x1_3 x2 x3 x4), At.int true IntKind.i64 (vShZ_1 x1_0 x1_1 x1_2 x1_3 x2 x3 x4), At.int true IntKind.i64 (vShZ_2 x1_0 x1_1 x1_2 x1_3 x2 x3 x4), At.int true IntKind.i64 (vShZ_3 x1_0 x1_1 x1_2 x1_3 x2 x3 x4)], LV.a (At.bool true false), LV.a (At.int true IntKind.i64 vRunZ_48)], [none]) := by kernel_rfl
def vShZ_c : Con
  | [.a (.slc false 0 0 0 5 0 0), .g [.int true .i64 x1_0, .int true .i64 x1_1, .int true .i64 x1_2, .int true .i64 x1_3], .a (.int true .i64 x2), .a (.int true .i64 x3), .a (.int true .i64 x4)], [⟨⟨0, 0, r0, some ⟨0, [.int .u8, .int .u8, .int .u8, .int .u8, .int .i16], p, none⟩⟩, []⟩] => some (vShZ_o x1_0 x1_1 x1_2 x1_3 x2 x3 x4 r0 p, LV.t [LV.g [At.int true IntKind.i64 (vShZ_0 x1_0 x1_1 x1_2 x1_3 x2 x3 x4), At.int true IntKind.i64 (vShZ_1 x1_0 x1_1 x1_2 x1_3 x2 x3 x4), At.int true IntKind.i64 (vShZ_2 x1_0 x1_1 x1_2 x1_3 x2 x3 x4), At.int true IntKind.i64 (vShZ_3 x1_0 x1_1 x1_2 x1_3 x2 x3 x4)], LV.a (At.bool true false), LV.a (At.int true IntKind.i64 vRunZ_48)], [none])
  | _, _ => none
theorem vShZ_ok : ConOK Try.prog 88 (normC vShZ_c) := normC_ok (by
  intro args bs obs lv out h ho φ vs w may ha hM
  unfold vShZ_c at h
  split at h
  · simp only [Option.some.injEq, Prod.mk.injEq] at h
    obtain ⟨rfl, rfl, rfl⟩ := h
    rename_i x1_0 x1_1 x1_2 x1_3 x2 x3 x4 r0 p
    exact evG_ok tabUx4_ok follows _ _ _ _ _ (vShZ_p x1_0 x1_1 x1_2 x1_3 x2 x3 x4 r0 p) ho φ vs w may ha hM
  · cases h)
theorem vShZ_en : Enters Try.prog 88 := fun args => by kernel_rfl
-- 302 26 13 ms

def tabUx5 : Tab := (88, normC vShZ_c) :: tabUx4
theorem tabUx5_ok : TOK Try.prog tabUx5 := TOK.cons vShZ_en vShZ_ok (tabUx4_ok)

end Go.Proofs.Ytcdejlgophpdjaa
end

section
namespace Go.Proofs.Ytcdejlgophpdjaa
open Go Go.RowKit Go.Proofs.Ytcdejlgophpdjaa.V
set_option linter.unusedVariables false

/-! azulejo/azulejolaw08.VmNone -/
def lVmNa_s1 (n1 : Nat) (y0 : List (List Int)) : Bool := bif decide ((60 : Int) < Int.ofNat (List.length y0)) then true else decide ((100 : Int) < Int.ofNat n1)
def lVmNa_s2 (n1 : Nat) (x3 x4 x5 : Int) (y0 y1 : List (List Int)) : Int := vSh_0 (vRg_0 n1 y1) (vRg_1 n1 y1) (vRg_2 n1 y1) (vRg_3 n1 y1) x3 x4 x5 y0
def lVmNa_s3 (n1 : Nat) (x3 x4 x5 : Int) (y0 y1 : List (List Int)) : Bool := bif decide (lVmNa_s2 n1 x3 x4 x5 y0 y1 < (0 : Int)) then true else decide ((65536 : Int) < lVmNa_s2 n1 x3 x4 x5 y0 y1)
def lVmNa_s4 (n1 : Nat) (x3 x4 x5 : Int) (y0 y1 : List (List Int)) : Int := vSh_1 (vRg_0 n1 y1) (vRg_1 n1 y1) (vRg_2 n1 y1) (vRg_3 n1 y1) x3 x4 x5 y0
def lVmNa_s5 (n1 : Nat) (x3 x4 x5 : Int) (y0 y1 : List (List Int)) : Bool := bif decide (lVmNa_s4 n1 x3 x4 x5 y0 y1 < (0 : Int)) then true else decide ((65536 : Int) < lVmNa_s4 n1 x3 x4 x5 y0 y1)
def lVmNa_s6 (n1 : Nat) (x3 x4 x5 : Int) (y0 y1 : List (List Int)) : Int := vSh_2 (vRg_0 n1 y1) (vRg_1 n1 y1) (vRg_2 n1 y1) (vRg_3 n1 y1) x3 x4 x5 y0
def lVmNa_s7 (n1 : Nat) (x3 x4 x5 : Int) (y0 y1 : List (List Int)) : Bool := bif decide (lVmNa_s6 n1 x3 x4 x5 y0 y1 < (0 : Int)) then true else decide ((65536 : Int) < lVmNa_s6 n1 x3 x4 x5 y0 y1)
def lVmNa_s8 (n1 : Nat) (x3 x4 x5 : Int) (y0 y1 : List (List Int)) : Int := vSh_3 (vRg_0 n1 y1) (vRg_1 n1 y1) (vRg_2 n1 y1) (vRg_3 n1 y1) x3 x4 x5 y0
def lVmNa_s9 (n1 : Nat) (x3 x4 x5 : Int) (y0 y1 : List (List Int)) : Bool := bif decide (lVmNa_s8 n1 x3 x4 x5 y0 y1 < (0 : Int)) then true else decide ((65536 : Int) < lVmNa_s8 n1 x3 x4 x5 y0 y1)
def lVmNa_s10 (y0 : List (List Int)) : Bool := pCh_0 true y0 == (0 : Int)
def lVmNa_s11 (x2_0 x2_1 x2_2 x2_3 : Int) : List (List Int) := [[x2_0], [x2_1], [x2_2], [x2_3]]
def lVmNa_s12 (x2_0 x2_1 x2_2 x2_3 : Int) : Int := rget (lVmNa_s11 x2_0 x2_1 x2_2 x2_3) (0 : Nat) (0 : Nat)
def lVmNa_s13 (x2_0 x2_1 x2_2 x2_3 : Int) : Int := rget (lVmNa_s11 x2_0 x2_1 x2_2 x2_3) (1 : Nat) (0 : Nat)
def lVmNa_s14 (x2_0 x2_1 x2_2 x2_3 : Int) : Int := rget (lVmNa_s11 x2_0 x2_1 x2_2 x2_3) (2 : Nat) (0 : Nat)
def lVmNa_s15 (x2_0 x2_1 x2_2 x2_3 : Int) : Int := rget (lVmNa_s11 x2_0 x2_1 x2_2 x2_3) (3 : Nat) (0 : Nat)
def lVmNa_s16 (x2_0 x2_1 x2_2 x2_3 : Int) : Int := vRg_44 (lVmNa_s12 x2_0 x2_1 x2_2 x2_3) (lVmNa_s13 x2_0 x2_1 x2_2 x2_3) (lVmNa_s14 x2_0 x2_1 x2_2 x2_3) (lVmNa_s15 x2_0 x2_1 x2_2 x2_3)
def lVmNa_s17 (x2_0 x2_1 x2_2 x2_3 : Int) : Int := vRg_45 (lVmNa_s12 x2_0 x2_1 x2_2 x2_3) (lVmNa_s13 x2_0 x2_1 x2_2 x2_3) (lVmNa_s14 x2_0 x2_1 x2_2 x2_3) (lVmNa_s15 x2_0 x2_1 x2_2 x2_3)
def lVmNa_s18 (x2_0 x2_1 x2_2 x2_3 : Int) : Int := vRg_46 (lVmNa_s12 x2_0 x2_1 x2_2 x2_3) (lVmNa_s13 x2_0 x2_1 x2_2 x2_3) (lVmNa_s14 x2_0 x2_1 x2_2 x2_3) (lVmNa_s15 x2_0 x2_1 x2_2 x2_3)
def lVmNa_s19 (x2_0 x2_1 x2_2 x2_3 : Int) : Int := vRg_47 (lVmNa_s12 x2_0 x2_1 x2_2 x2_3) (lVmNa_s13 x2_0 x2_1 x2_2 x2_3) (lVmNa_s14 x2_0 x2_1 x2_2 x2_3) (lVmNa_s15 x2_0 x2_1 x2_2 x2_3)
def lVmNa_s20 (n1 : Nat) (x2_0 x2_1 x2_2 x2_3 : Int) (y1 : List (List Int)) : List Int := [vRg_0 n1 y1, vRg_1 n1 y1, vRg_2 n1 y1, vRg_3 n1 y1, vRg_4 n1 y1, vRg_5 n1 y1, vRg_6 n1 y1, vRg_7 n1 y1, vRg_8 n1 y1, vRg_9 n1 y1, vRg_10 n1 y1, vRg_11 n1 y1, vRg_12 n1 y1, vRg_13 n1 y1, vRg_14 n1 y1, vRg_15 n1 y1, vRg_16 n1 y1, vRg_17 n1 y1, vRg_18 n1 y1, vRg_19 n1 y1, vRg_20 n1 y1, vRg_21 n1 y1, vRg_22 n1 y1, vRg_23 n1 y1, vRg_24 n1 y1, vRg_25 n1 y1, vRg_26 n1 y1, vRg_27 n1 y1, vRg_28 n1 y1, vRg_29 n1 y1, vRg_30 n1 y1, vRg_31 n1 y1, vRg_32 n1 y1, vRg_33 n1 y1, vRg_34 n1 y1, vRg_35 n1 y1, vRg_36 n1 y1, vRg_37 n1 y1, vRg_38 n1 y1, vRg_39 n1 y1, vRg_40 n1 y1, vRg_41 n1 y1, vRg_42 n1 y1, vRg_43 n1 y1, lVmNa_s16 x2_0 x2_1 x2_2 x2_3, lVmNa_s17 x2_0 x2_1 x2_2 x2_3, lVmNa_s18 x2_0 x2_1 x2_2 x2_3, lVmNa_s19 x2_0 x2_1 x2_2 x2_3]
def lVmNa_s44 (n1 : Nat) (x2_0 x2_1 x2_2 x2_3 x3 x4 x5 : Int) (y0 y1 : List (List Int)) : Bool := decide (vRun_49 (lVmNa_s20 n1 x2_0 x2_1 x2_2 x2_3 y1) y0 ≤ pFu_0 y0)
def lVmNa_s45 (n1 : Nat) (x3 x4 x5 : Int) (y0 y1 : List (List Int)) : Int := vSh_5 (vRg_0 n1 y1) (vRg_1 n1 y1) (vRg_2 n1 y1) (vRg_3 n1 y1) x3 x4 x5 y0
def lVmNa_s46 (n1 : Nat) (x2_0 x2_1 x2_2 x2_3 : Int) (y0 y1 : List (List Int)) : Bool := !(vRun_0 (lVmNa_s20 n1 x2_0 x2_1 x2_2 x2_3 y1) y0 == fWi_0 (vRg_0 n1 y1) (2147483647 : Int) && (vRun_1 (lVmNa_s20 n1 x2_0 x2_1 x2_2 x2_3 y1) y0 == fWi_0 (vRg_1 n1 y1) (2147483647 : Int) && (vRun_2 (lVmNa_s20 n1 x2_0 x2_1 x2_2 x2_3 y1) y0 == fWi_0 (vRg_2 n1 y1) (2147483647 : Int) && vRun_3 (lVmNa_s20 n1 x2_0 x2_1 x2_2 x2_3 y1) y0 == fWi_0 (vRg_3 n1 y1) (2147483647 : Int))))
def lVmNa_s47 (n1 : Nat) (x2_0 x2_1 x2_2 x2_3 : Int) (y0 y1 : List (List Int)) : Bool := !(vRun_4 (lVmNa_s20 n1 x2_0 x2_1 x2_2 x2_3 y1) y0 == fWi_0 (vRg_4 n1 y1) (2147483647 : Int) && (vRun_5 (lVmNa_s20 n1 x2_0 x2_1 x2_2 x2_3 y1) y0 == fWi_0 (vRg_5 n1 y1) (2147483647 : Int) && (vRun_6 (lVmNa_s20 n1 x2_0 x2_1 x2_2 x2_3 y1) y0 == fWi_0 (vRg_6 n1 y1) (2147483647 : Int) && vRun_7 (lVmNa_s20 n1 x2_0 x2_1 x2_2 x2_3 y1) y0 == fWi_0 (vRg_7 n1 y1) (2147483647 : Int))))
def lVmNa_s48 (n1 : Nat) (x2_0 x2_1 x2_2 x2_3 : Int) (y0 y1 : List (List Int)) : Bool := !(vRun_8 (lVmNa_s20 n1 x2_0 x2_1 x2_2 x2_3 y1) y0 == fWi_0 (vRg_8 n1 y1) (2147483647 : Int) && (vRun_9 (lVmNa_s20 n1 x2_0 x2_1 x2_2 x2_3 y1) y0 == fWi_0 (vRg_9 n1 y1) (2147483647 : Int) && (vRun_10 (lVmNa_s20 n1 x2_0 x2_1 x2_2 x2_3 y1) y0 == fWi_0 (vRg_10 n1 y1) (2147483647 : Int) && vRun_11 (lVmNa_s20 n1 x2_0 x2_1 x2_2 x2_3 y1) y0 == fWi_0 (vRg_11 n1 y1) (2147483647 : Int))))
def lVmNa_s49 (n1 : Nat) (x2_0 x2_1 x2_2 x2_3 : Int) (y0 y1 : List (List Int)) : Bool := !(vRun_12 (lVmNa_s20 n1 x2_0 x2_1 x2_2 x2_3 y1) y0 == fWi_0 (vRg_12 n1 y1) (2147483647 : Int) && (vRun_13 (lVmNa_s20 n1 x2_0 x2_1 x2_2 x2_3 y1) y0 == fWi_0 (vRg_13 n1 y1) (2147483647 : Int) && (vRun_14 (lVmNa_s20 n1 x2_0 x2_1 x2_2 x2_3 y1) y0 == fWi_0 (vRg_14 n1 y1) (2147483647 : Int) && vRun_15 (lVmNa_s20 n1 x2_0 x2_1 x2_2 x2_3 y1) y0 == fWi_0 (vRg_15 n1 y1) (2147483647 : Int))))
def lVmNa_s50 (n1 : Nat) (x2_0 x2_1 x2_2 x2_3 : Int) (y0 y1 : List (List Int)) : Bool := !(vRun_16 (lVmNa_s20 n1 x2_0 x2_1 x2_2 x2_3 y1) y0 == fWi_0 (vRg_16 n1 y1) (2147483647 : Int) && (vRun_17 (lVmNa_s20 n1 x2_0 x2_1 x2_2 x2_3 y1) y0 == fWi_0 (vRg_17 n1 y1) (2147483647 : Int) && (vRun_18 (lVmNa_s20 n1 x2_0 x2_1 x2_2 x2_3 y1) y0 == fWi_0 (vRg_18 n1 y1) (2147483647 : Int) && vRun_19 (lVmNa_s20 n1 x2_0 x2_1 x2_2 x2_3 y1) y0 == fWi_0 (vRg_19 n1 y1) (2147483647 : Int))))
def lVmNa_s51 (n1 : Nat) (x2_0 x2_1 x2_2 x2_3 : Int) (y0 y1 : List (List Int)) : Bool := !(vRun_20 (lVmNa_s20 n1 x2_0 x2_1 x2_2 x2_3 y1) y0 == fWi_0 (vRg_20 n1 y1) (2147483647 : Int) && (vRun_21 (lVmNa_s20 n1 x2_0 x2_1 x2_2 x2_3 y1) y0 == fWi_0 (vRg_21 n1 y1) (2147483647 : Int) && (vRun_22 (lVmNa_s20 n1 x2_0 x2_1 x2_2 x2_3 y1) y0 == fWi_0 (vRg_22 n1 y1) (2147483647 : Int) && vRun_23 (lVmNa_s20 n1 x2_0 x2_1 x2_2 x2_3 y1) y0 == fWi_0 (vRg_23 n1 y1) (2147483647 : Int))))
def lVmNa_s52 (n1 : Nat) (x2_0 x2_1 x2_2 x2_3 : Int) (y0 y1 : List (List Int)) : Bool := !(vRun_24 (lVmNa_s20 n1 x2_0 x2_1 x2_2 x2_3 y1) y0 == fWi_0 (vRg_24 n1 y1) (2147483647 : Int) && (vRun_25 (lVmNa_s20 n1 x2_0 x2_1 x2_2 x2_3 y1) y0 == fWi_0 (vRg_25 n1 y1) (2147483647 : Int) && (vRun_26 (lVmNa_s20 n1 x2_0 x2_1 x2_2 x2_3 y1) y0 == fWi_0 (vRg_26 n1 y1) (2147483647 : Int) && vRun_27 (lVmNa_s20 n1 x2_0 x2_1 x2_2 x2_3 y1) y0 == fWi_0 (vRg_27 n1 y1) (2147483647 : Int))))
def lVmNa_s53 (n1 : Nat) (x2_0 x2_1 x2_2 x2_3 : Int) (y0 y1 : List (List Int)) : Bool := !(vRun_28 (lVmNa_s20 n1 x2_0 x2_1 x2_2 x2_3 y1) y0 == fWi_0 (vRg_28 n1 y1) (2147483647 : Int) && (vRun_29 (lVmNa_s20 n1 x2_0 x2_1 x2_2 x2_3 y1) y0 == fWi_0 (vRg_29 n1 y1) (2147483647 : Int) && (vRun_30 (lVmNa_s20 n1 x2_0 x2_1 x2_2 x2_3 y1) y0 == fWi_0 (vRg_30 n1 y1) (2147483647 : Int) && vRun_31 (lVmNa_s20 n1 x2_0 x2_1 x2_2 x2_3 y1) y0 == fWi_0 (vRg_31 n1 y1) (2147483647 : Int))))
def lVmNa_s54 (n1 : Nat) (x2_0 x2_1 x2_2 x2_3 : Int) (y0 y1 : List (List Int)) : Bool := !(vRun_32 (lVmNa_s20 n1 x2_0 x2_1 x2_2 x2_3 y1) y0 == fWi_0 (vRg_32 n1 y1) (2147483647 : Int) && (vRun_33 (lVmNa_s20 n1 x2_0 x2_1 x2_2 x2_3 y1) y0 == fWi_0 (vRg_33 n1 y1) (2147483647 : Int) && (vRun_34 (lVmNa_s20 n1 x2_0 x2_1 x2_2 x2_3 y1) y0 == fWi_0 (vRg_34 n1 y1) (2147483647 : Int) && vRun_35 (lVmNa_s20 n1 x2_0 x2_1 x2_2 x2_3 y1) y0 == fWi_0 (vRg_35 n1 y1) (2147483647 : Int))))
def lVmNa_s55 (n1 : Nat) (x2_0 x2_1 x2_2 x2_3 : Int) (y0 y1 : List (List Int)) : Bool := !(vRun_36 (lVmNa_s20 n1 x2_0 x2_1 x2_2 x2_3 y1) y0 == fWi_0 (vRg_36 n1 y1) (2147483647 : Int) && (vRun_37 (lVmNa_s20 n1 x2_0 x2_1 x2_2 x2_3 y1) y0 == fWi_0 (vRg_37 n1 y1) (2147483647 : Int) && (vRun_38 (lVmNa_s20 n1 x2_0 x2_1 x2_2 x2_3 y1) y0 == fWi_0 (vRg_38 n1 y1) (2147483647 : Int) && vRun_39 (lVmNa_s20 n1 x2_0 x2_1 x2_2 x2_3 y1) y0 == fWi_0 (vRg_39 n1 y1) (2147483647 : Int))))
def lVmNa_s56 (n1 : Nat) (x2_0 x2_1 x2_2 x2_3 : Int) (y0 y1 : List (List Int)) : Bool := !(vRun_40 (lVmNa_s20 n1 x2_0 x2_1 x2_2 x2_3 y1) y0 == fWi_0 (vRg_40 n1 y1) (2147483647 : Int) && (vRun_41 (lVmNa_s20 n1 x2_0 x2_1 x2_2 x2_3 y1) y0 == fWi_0 (vRg_41 n1 y1) (2147483647 : Int) && (vRun_42 (lVmNa_s20 n1 x2_0 x2_1 x2_2 x2_3 y1) y0 == fWi_0 (vRg_42 n1 y1) (2147483647 : Int) && vRun_43 (lVmNa_s20 n1 x2_0 x2_1 x2_2 x2_3 y1) y0 == fWi_0 (vRg_43 n1 y1) (2147483647 : Int))))
def lVmNa_0 (n1 : Nat) (x2_0 x2_1 x2_2 x2_3 x3 x4 x5 : Int) (y0 y1 : List (List Int)) : Bool := bif !vAw_0 then false else bif lVmNa_s1 n1 y0 then true else bif lVmNa_s3 n1 x3 x4 x5 y0 y1 || !lVmNa_s3 n1 x3 x4 x5 y0 y1 && (lVmNa_s5 n1 x3 x4 x5 y0 y1 || !lVmNa_s5 n1 x3 x4 x5 y0 y1 && (lVmNa_s7 n1 x3 x4 x5 y0 y1 || !lVmNa_s7 n1 x3 x4 x5 y0 y1 && lVmNa_s9 n1 x3 x4 x5 y0 y1)) then false else bif lVmNa_s10 y0 then bif lVmNa_s44 n1 x2_0 x2_1 x2_2 x2_3 x3 x4 x5 y0 y1 then decide (lVmNa_s45 n1 x3 x4 x5 y0 y1 ≤ pFu_0 y0) else false else bif lVmNa_s46 n1 x2_0 x2_1 x2_2 x2_3 y0 y1 || !lVmNa_s46 n1 x2_0 x2_1 x2_2 x2_3 y0 y1 && (lVmNa_s47 n1 x2_0 x2_1 x2_2 x2_3 y0 y1 || !lVmNa_s47 n1 x2_0 x2_1 x2_2 x2_3 y0 y1 && (lVmNa_s48 n1 x2_0 x2_1 x2_2 x2_3 y0 y1 || !lVmNa_s48 n1 x2_0 x2_1 x2_2 x2_3 y0 y1 && (lVmNa_s49 n1 x2_0 x2_1 x2_2 x2_3 y0 y1 || !lVmNa_s49 n1 x2_0 x2_1 x2_2 x2_3 y0 y1 && (lVmNa_s50 n1 x2_0 x2_1 x2_2 x2_3 y0 y1 || !lVmNa_s50 n1 x2_0 x2_1 x2_2 x2_3 y0 y1 && (lVmNa_s51 n1 x2_0 x2_1 x2_2 x2_3 y0 y1 || !lVmNa_s51 n1 x2_0 x2_1 x2_2 x2_3 y0 y1 && (lVmNa_s52 n1 x2_0 x2_1 x2_2 x2_3 y0 y1 || !lVmNa_s52 n1 x2_0 x2_1 x2_2 x2_3 y0 y1 && (lVmNa_s53 n1 x2_0 x2_1 x2_2 x2_3 y0 y1 || !lVmNa_s53 n1 x2_0 x2_1 x2_2 x2_3 y0 y1 && (lVmNa_s54 n1 x2_0 x2_1 x2_2 x2_3 y0 y1 || !lVmNa_s54 n1 x2_0 x2_1 x2_2 x2_3 y0 y1 && (lVmNa_s55 n1 x2_0 x2_1 x2_2 x2_3 y0 y1 || !lVmNa_s55 n1 x2_0 x2_1 x2_2 x2_3 y0 y1 && (lVmNa_s56 n1 x2_0 x2_1 x2_2 x2_3 y0 y1 || !lVmNa_s56 n1 x2_0 x2_1 x2_2 x2_3 y0 y1 && !(vRun_44 (lVmNa_s20 n1 x2_0 x2_1 x2_2 x2_3 y1) y0 == fWi_0 (lVmNa_s16 x2_0 x2_1 x2_2 x2_3) (2147483647 : Int) && (vRun_45 (lVmNa_s20 n1 x2_0 x2_1 x2_2 x2_3 y1) y0 == fWi_0 (lVmNa_s17 x2_0 x2_1 x2_2 x2_3) (2147483647 : Int) && (vRun_46 (lVmNa_s20 n1 x2_0 x2_1 x2_2 x2_3 y1) y0 == fWi_0 (lVmNa_s18 x2_0 x2_1 x2_2 x2_3) (2147483647 : Int) && vRun_47 (lVmNa_s20 n1 x2_0 x2_1 x2_2 x2_3 y1) y0 == fWi_0 (lVmNa_s19 x2_0 x2_1 x2_2 x2_3) (2147483647 : Int)))))))))))))) then false else bif !vRun_48 (lVmNa_s20 n1 x2_0 x2_1 x2_2 x2_3 y1) y0 then bif vRun_49 (lVmNa_s20 n1 x2_0 x2_1 x2_2 x2_3 y1) y0 == (0 : Int) then lVmNa_s45 n1 x3 x4 x5 y0 y1 == (0 : Int) else false else false
def lVmNa_o (n1 : Nat) (x2_0 x2_1 x2_2 x2_3 x3 x4 x5 : Int) (y0 y1 : List (List Int)) : List Prop := [decide ((0 : Int) < (0 : Int)) = false, (!pCh_s0 vAw_s1) = true → lok pCh_l29_st (18446744073709551616 : Nat) (pCh_l29_T.mk true (0 : Int) (Int.ofNat (1 : Nat)) (0 : Int) vAw_s1), (!pCh_s0 vAw_s1) = true → isX (X.e (0 : Nat)) (pCh_s1 true vAw_s1) = true → lok pFu_l29_st (18446744073709551616 : Nat) (pFu_l29_T.mk (0 : Int) (Int.ofNat (1 : Nat)) (Int.ofNat (1 : Nat)) (0 : Int) vAw_s1), vRun_s0 vAw_s1 = true → lok vRa5_l13_st (18446744073709551616 : Nat) (vRa5_l13_T.mk (Int.ofNat (1 : Nat)) false (0 : Int) (vRun_s2 vAw_s0) false (0 : Int) vAw_s1), (!!vAw_0) = true → (!lVmNa_s1 n1 y0) = true → (!pCh_s0 y0) = true → lok pCh_l29_st (18446744073709551616 : Nat) (pCh_l29_T.mk true (0 : Int) (Int.ofNat (List.length y0)) (0 : Int) y0), (!!vAw_0) = true → (!lVmNa_s1 n1 y0) = true → (!pCh_s0 y0) = true → isX (X.e (0 : Nat)) (pCh_s1 true y0) = true → lok pFu_l29_st (18446744073709551616 : Nat) (pFu_l29_T.mk (0 : Int) (Int.ofNat (List.length y0)) (Int.ofNat (List.length y0)) (0 : Int) y0), (!!vAw_0) = true → (!lVmNa_s1 n1 y0) = true → vRun_s0 y0 = true → lok vRa5_l13_st (18446744073709551616 : Nat) (vRa5_l13_T.mk (Int.ofNat (List.length y0)) false (0 : Int) (vRun_s2 (lVmNa_s20 n1 x2_0 x2_1 x2_2 x2_3 y1)) false (0 : Int) y0), (!!vAw_0) = true → (!lVmNa_s1 n1 y0) = true → (!pCh_s0 y0) = true → lok pCh_l29_st (18446744073709551616 : Nat) (pCh_l29_T.mk true (0 : Int) (Int.ofNat (List.length y0)) (0 : Int) y0), (!!vAw_0) = true → (!lVmNa_s1 n1 y0) = true → (!pCh_s0 y0) = true → isX (X.e (0 : Nat)) (pCh_s1 true y0) = true → lok pFu_l29_st (18446744073709551616 : Nat) (pFu_l29_T.mk (0 : Int) (Int.ofNat (List.length y0)) (Int.ofNat (List.length y0)) (0 : Int) y0), (!!vAw_0) = true → (!lVmNa_s1 n1 y0) = true → vRun_s0 y0 = true → lok vRa5_l13_st (18446744073709551616 : Nat) (vRa5_l13_T.mk (Int.ofNat (List.length y0)) false (0 : Int) (vRun_s2 (vSh_s1 (vRg_0 n1 y1) (vRg_1 n1 y1) (vRg_2 n1 y1) (vRg_3 n1 y1) x3 x4 x5)) false (0 : Int) y0), (!!vAw_0) = true → (!lVmNa_s1 n1 y0) = true → (!lVmNa_s3 n1 x3 x4 x5 y0 y1 && (!lVmNa_s5 n1 x3 x4 x5 y0 y1 && (!lVmNa_s7 n1 x3 x4 x5 y0 y1 && !lVmNa_s9 n1 x3 x4 x5 y0 y1))) = true → (!pCh_s0 y0) = true → lok pCh_l29_st (18446744073709551616 : Nat) (pCh_l29_T.mk true (0 : Int) (Int.ofNat (List.length y0)) (0 : Int) y0), (!!vAw_0) = true → (!lVmNa_s1 n1 y0) = true → (!lVmNa_s3 n1 x3 x4 x5 y0 y1 && (!lVmNa_s5 n1 x3 x4 x5 y0 y1 && (!lVmNa_s7 n1 x3 x4 x5 y0 y1 && !lVmNa_s9 n1 x3 x4 x5 y0 y1))) = true → (!pCh_s0 y0) = true → isX (X.e (0 : Nat)) (pCh_s1 true y0) = true → lok pFu_l29_st (18446744073709551616 : Nat) (pFu_l29_T.mk (0 : Int) (Int.ofNat (List.length y0)) (Int.ofNat (List.length y0)) (0 : Int) y0), (!!vAw_0) = true → (!lVmNa_s1 n1 y0) = true → (!lVmNa_s3 n1 x3 x4 x5 y0 y1 && (!lVmNa_s5 n1 x3 x4 x5 y0 y1 && (!lVmNa_s7 n1 x3 x4 x5 y0 y1 && !lVmNa_s9 n1 x3 x4 x5 y0 y1))) = true → lVmNa_s10 y0 = true → lok pFu_l29_st (18446744073709551616 : Nat) (pFu_l29_T.mk (0 : Int) (Int.ofNat (List.length y0)) (Int.ofNat (List.length y0)) (0 : Int) y0), (!!vAw_0) = true → (!lVmNa_s1 n1 y0) = true → (!lVmNa_s3 n1 x3 x4 x5 y0 y1 && (!lVmNa_s5 n1 x3 x4 x5 y0 y1 && (!lVmNa_s7 n1 x3 x4 x5 y0 y1 && !lVmNa_s9 n1 x3 x4 x5 y0 y1))) = true → lVmNa_s10 y0 = true → lVmNa_s44 n1 x2_0 x2_1 x2_2 x2_3 x3 x4 x5 y0 y1 = true → lok pFu_l29_st (18446744073709551616 : Nat) (pFu_l29_T.mk (0 : Int) (Int.ofNat (List.length y0)) (Int.ofNat (List.length y0)) (0 : Int) y0)]
theorem lVmNa_p (n1 : Nat) (x2_0 x2_1 x2_2 x2_3 x3 x4 x5 : Int) (y0 y1 : List (List Int)) : evG Try.prog tabUx5 2000 21 [0, 1, 2, 3, 4, 5, 8, 12, 13, 14, 15, 17, 19, 20, 21, 23, 31, 49, 50, 51, 58, 62, 75, 76, 77, 85] [] [] [.a (.vec 0 0 5), .a (.slc true 1 0 0 1 0 n1), .g [.int true .i64 x2_0, .int true .i64 x2_1, .int true .i64 x2_2, .int true .i64 x2_3], .a (.int true .i64 x3), .a (.int true .i64 x4), .a (.int true .i64 x5)] [⟨⟨0, 0, true, some ⟨0, [.int .u8, .int .u8, .int .u8, .int .u8, .int .i16], y0, none⟩⟩, []⟩, ⟨⟨0, 0, true, some ⟨0, [.int .i32], y1, none⟩⟩, []⟩] = some (lVmNa_o n1 x2_0 x2_1 x2_2 x2_3 x3 x4 x5 y0 y1, LV.a (At.bool true (lVmNa_0 n1 x2_0 x2_1 x2_2 x2_3 x3 x4 x5 y0 y1)), [none, none]) := by kernel_rfl
def lVmNa_c : Con
  | [.a (.vec 0 0 5), .a (.slc true 1 0 0 1 0 n1), .g [.int true .i64 x2_0, .int true .i64 x2_1, .int true .i64 x2_2, .int true .i64 x2_3], .a (.int true .i64 x3), .a (.int true .i64 x4), .a (.int true .i64 x5)], [⟨⟨0, 0, true, some ⟨0, [.int .u8, .int .u8, .int .u8, .int .u8, .int .i16], y0, none⟩⟩, []⟩, ⟨⟨0, 0, true, some ⟨0, [.int .i32], y1, none⟩⟩, []⟩] => some (lVmNa_o n1 x2_0 x2_1 x2_2 x2_3 x3 x4 x5 y0 y1, LV.a (At.bool true (lVmNa_0 n1 x2_0 x2_1 x2_2 x2_3 x3 x4 x5 y0 y1)), [none, none])
  | _, _ => none
theorem lVmNa_ok : ConOK Try.prog 21 (normC lVmNa_c) := normC_ok (by
  intro args bs obs lv out h ho φ vs w may ha hM
  unfold lVmNa_c at h
  split at h
  · simp only [Option.some.injEq, Prod.mk.injEq] at h
    obtain ⟨rfl, rfl, rfl⟩ := h
    rename_i n1 x2_0 x2_1 x2_2 x2_3 x3 x4 x5 y0 y1
    exact evG_ok tabUx5_ok follows _ _ _ _ _ (lVmNa_p n1 x2_0 x2_1 x2_2 x2_3 x3 x4 x5 y0 y1) ho φ vs w may ha hM
  · cases h)
theorem lVmNa_en : Enters Try.prog 21 := fun args => by kernel_rfl
-- 4512 1431 73877 ms

def tabUx6 : Tab := (21, normC lVmNa_c) :: tabUx5
theorem tabUx6_ok : TOK Try.prog tabUx6 := TOK.cons lVmNa_en lVmNa_ok (tabUx5_ok)

end Go.Proofs.Ytcdejlgophpdjaa
end

section
namespace Go.Proofs.Ytcdejlgophpdjaa
open Go Go.RowKit Go.Proofs.Ytcdejlgophpdjaa.V
set_option linter.unusedVariables false

/-! azulejo/azulejolaw08.VmNone -/
def lVmNb_s0 (n1 : Nat) : Bool := decide ((100 : Int) < Int.ofNat n1)
def lVmNb_s1 (n1 : Nat) (x3 x4 x5 : Int) (y1 : List (List Int)) : Int := vShZ_0 (vRg_0 n1 y1) (vRg_1 n1 y1) (vRg_2 n1 y1) (vRg_3 n1 y1) x3 x4 x5
def lVmNb_s2 (n1 : Nat) (x3 x4 x5 : Int) (y1 : List (List Int)) : Bool := bif decide (lVmNb_s1 n1 x3 x4 x5 y1 < (0 : Int)) then true else decide ((65536 : Int) < lVmNb_s1 n1 x3 x4 x5 y1)
def lVmNb_s3 (n1 : Nat) (x3 x4 x5 : Int) (y1 : List (List Int)) : Int := vShZ_1 (vRg_0 n1 y1) (vRg_1 n1 y1) (vRg_2 n1 y1) (vRg_3 n1 y1) x3 x4 x5
def lVmNb_s4 (n1 : Nat) (x3 x4 x5 : Int) (y1 : List (List Int)) : Bool := bif decide (lVmNb_s3 n1 x3 x4 x5 y1 < (0 : Int)) then true else decide ((65536 : Int) < lVmNb_s3 n1 x3 x4 x5 y1)
def lVmNb_s5 (n1 : Nat) (x3 x4 x5 : Int) (y1 : List (List Int)) : Int := vShZ_2 (vRg_0 n1 y1) (vRg_1 n1 y1) (vRg_2 n1 y1) (vRg_3 n1 y1) x3 x4 x5
def lVmNb_s6 (n1 : Nat) (x3 x4 x5 : Int) (y1 : List (List Int)) : Bool := bif decide (lVmNb_s5 n1 x3 x4 x5 y1 < (0 : Int)) then true else decide ((65536 : Int) < lVmNb_s5 n1 x3 x4 x5 y1)
def lVmNb_s7 (n1 : Nat) (x3 x4 x5 : Int) (y1 : List (List Int)) : Int := vShZ_3 (vRg_0 n1 y1) (vRg_1 n1 y1) (vRg_2 n1 y1) (vRg_3 n1 y1) x3 x4 x5
def lVmNb_0 (n1 : Nat) (x3 x4 x5 : Int) (y1 : List (List Int)) : Bool := bif !vAw_0 then false else bif lVmNb_s0 n1 then true else bif lVmNb_s2 n1 x3 x4 x5 y1 || !lVmNb_s2 n1 x3 x4 x5 y1 && (lVmNb_s4 n1 x3 x4 x5 y1 || !lVmNb_s4 n1 x3 x4 x5 y1 && (lVmNb_s6 n1 x3 x4 x5 y1 || !lVmNb_s6 n1 x3 x4 x5 y1 && bif decide (lVmNb_s7 n1 x3 x4 x5 y1 < (0 : Int)) then true else decide ((65536 : Int) < lVmNb_s7 n1 x3 x4 x5 y1))) then false else bif decide (vRunZ_48 ≤ pFuZ_0) then decide (vRunZ_48 ≤ pFuZ_0) else false
def lVmNb_o (n1 : Nat) (x2_0 x2_1 x2_2 x2_3 x3 x4 x5 : Int) (y0 y1 : List (List Int)) : List Prop := [decide ((0 : Int) < (0 : Int)) = false, (!pCh_s0 vAw_s1) = true → lok pCh_l29_st (18446744073709551616 : Nat) (pCh_l29_T.mk true (0 : Int) (Int.ofNat (1 : Nat)) (0 : Int) vAw_s1), (!pCh_s0 vAw_s1) = true → isX (X.e (0 : Nat)) (pCh_s1 true vAw_s1) = true → lok pFu_l29_st (18446744073709551616 : Nat) (pFu_l29_T.mk (0 : Int) (Int.ofNat (1 : Nat)) (Int.ofNat (1 : Nat)) (0 : Int) vAw_s1), vRun_s0 vAw_s1 = true → lok vRa5_l13_st (18446744073709551616 : Nat) (vRa5_l13_T.mk (Int.ofNat (1 : Nat)) false (0 : Int) (vRun_s2 vAw_s0) false (0 : Int) vAw_s1), (!!vAw_0) = true → (!lVmNb_s0 n1) = true → decide ((0 : Int) < Int.ofNat (0 : Nat)) = false, (!!vAw_0) = true → (!lVmNb_s0 n1) = true → decide ((0 : Int) < Int.ofNat (0 : Nat)) = false]
theorem lVmNb_p (n1 : Nat) (x2_0 x2_1 x2_2 x2_3 x3 x4 x5 : Int) (y0 y1 : List (List Int)) : evG Try.prog tabUx5 2000 21 [0, 1, 2, 3, 4, 5, 8, 12, 13, 14, 15, 17, 19, 20, 21, 23, 31, 49, 50, 51, 58, 62, 75, 76, 77, 85] [] [] [.a (.slc false 0 0 0 5 0 0), .a (.slc true 1 0 0 1 0 n1), .g [.int true .i64 x2_0, .int true .i64 x2_1, .int true .i64 x2_2, .int true .i64 x2_3], .a (.int true .i64 x3), .a (.int true .i64 x4), .a (.int true .i64 x5)] [⟨⟨0, 0, true, some ⟨0, [.int .u8, .int .u8, .int .u8, .int .u8, .int .i16], y0, none⟩⟩, []⟩, ⟨⟨0, 0, true, some ⟨0, [.int .i32], y1, none⟩⟩, []⟩] = some (lVmNb_o n1 x2_0 x2_1 x2_2 x2_3 x3 x4 x5 y0 y1, LV.a (At.bool true (lVmNb_0 n1 x3 x4 x5 y1)), [none, none]) := by kernel_rfl
def lVmNb_c : Con
  | [.a (.slc false 0 0 0 5 0 0), .a (.slc true 1 0 0 1 0 n1), .g [.int true .i64 x2_0, .int true .i64 x2_1, .int true .i64 x2_2, .int true .i64 x2_3], .a (.int true .i64 x3), .a (.int true .i64 x4), .a (.int true .i64 x5)], [⟨⟨0, 0, true, some ⟨0, [.int .u8, .int .u8, .int .u8, .int .u8, .int .i16], y0, none⟩⟩, []⟩, ⟨⟨0, 0, true, some ⟨0, [.int .i32], y1, none⟩⟩, []⟩] => some (lVmNb_o n1 x2_0 x2_1 x2_2 x2_3 x3 x4 x5 y0 y1, LV.a (At.bool true (lVmNb_0 n1 x3 x4 x5 y1)), [none, none])
  | _, _ => none
theorem lVmNb_ok : ConOK Try.prog 21 (normC lVmNb_c) := normC_ok (by
  intro args bs obs lv out h ho φ vs w may ha hM
  unfold lVmNb_c at h
  split at h
  · simp only [Option.some.injEq, Prod.mk.injEq] at h
    obtain ⟨rfl, rfl, rfl⟩ := h
    rename_i n1 x2_0 x2_1 x2_2 x2_3 x3 x4 x5 y0 y1
    exact evG_ok tabUx5_ok follows _ _ _ _ _ (lVmNb_p n1 x2_0 x2_1 x2_2 x2_3 x3 x4 x5 y0 y1) ho φ vs w may ha hM
  · cases h)
theorem lVmNb_en : Enters Try.prog 21 := fun args => by kernel_rfl
-- 1847 406 15 ms

def tabUx7 : Tab := (21, normC lVmNb_c) :: tabUx5
theorem tabUx7_ok : TOK Try.prog tabUx7 := TOK.cons lVmNb_en lVmNb_ok (tabUx5_ok)

end Go.Proofs.Ytcdejlgophpdjaa
end

