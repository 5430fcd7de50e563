/-
  Contracts of functions of the program, each run on the local memory (printed by a program of this session's own: wip/tools).
-/
import Derived.Test.YtcdejlgophpdjaaQVmRuns4
section
namespace Go.Proofs.Ytcdejlgophpdjaa
open Go Go.RowKit Go.Proofs.Ytcdejlgophpdjaa.V
set_option linter.unusedVariables false

/-! azulejo/azulejoref07.Run -/
noncomputable def r7Ru2_l26738665_code : Go.Code := loopOf (subs (bodyOf Try.prog 85) 1 26738665)
structure r7Ru2_l26738665_T where
  a0 : Int
  a1 : Int
  a2 : Int
  a3 : Int
  a4 : List (List Int)
  a5 : List (List Int)
  a6 : Bool
  a7 : Bool
  a8 : Int
  a9 : Int
  a10 : Int
  a11 : Int
  a12 : Int
  a13 : Int
  deriving Inhabited
def r7Ru2_l26738665_hd0 (v : r7Ru2_l26738665_T) : HS := HS.mk [(nat_lit 0, LV.a (At.vec (nat_lit 0) (nat_lit 0) (nat_lit 5))), (nat_lit 1, LV.a (At.ptr (nat_lit 1) (nat_lit 0))), (nat_lit 3, LV.a (At.int true IntKind.i64 (r7Ru2_l26738665_T.a0 v))), (nat_lit 8, LV.a (At.int true IntKind.i64 (r7Ru2_l26738665_T.a1 v))), (nat_lit 9, LV.a (At.ptr (nat_lit 2) (nat_lit 0))), (nat_lit 12, LV.a (At.int true IntKind.i64 (r7Ru2_l26738665_T.a2 v))), (nat_lit 19, LV.a (At.int true IntKind.i64 (r7Ru2_l26738665_T.a3 v)))] [BC.mk (Hd.mk (nat_lit 0) (nat_lit 0) true (some (Rw.mk (nat_lit 0) [Kd.int IntKind.i64, Kd.int IntKind.i64, Kd.int IntKind.i64, Kd.int IntKind.i64, Kd.int IntKind.i64] (r7Ru2_l26738665_T.a4 v) none))) [], BC.mk (Hd.mk (nat_lit 0) (nat_lit 51) false (some (Rw.mk (nat_lit 0) [Kd.int IntKind.i64, Kd.int IntKind.i64, Kd.int IntKind.i64, Kd.int IntKind.i64] (r7Ru2_l26738665_T.a5 v) (some (nat_lit 12))))) [some (At.bool true (r7Ru2_l26738665_T.a6 v)), some (At.bool true (r7Ru2_l26738665_T.a7 v)), some (At.int true IntKind.i64 (r7Ru2_l26738665_T.a8 v))], BC.mk (Hd.mk (nat_lit 0) (nat_lit 5) true none) [some (At.int true IntKind.i64 (r7Ru2_l26738665_T.a9 v)), some (At.int true IntKind.i64 (r7Ru2_l26738665_T.a10 v)), some (At.int true IntKind.i64 (r7Ru2_l26738665_T.a11 v)), some (At.int true IntKind.i64 (r7Ru2_l26738665_T.a12 v)), some (At.int true IntKind.i64 (r7Ru2_l26738665_T.a13 v))]]
def r7Ru2_l26738665_hd (v : r7Ru2_l26738665_T) : HS := padH (r7Ru2_l26738665_hd0 v)
def r7Ru2_l26738665_s0 (v : r7Ru2_l26738665_T) : Bool := decide (r7Ru2_l26738665_T.a3 v < r7Ru2_l26738665_T.a13 v)
def r7Ru2_l26738665_s1 (v : r7Ru2_l26738665_T) : Int := IntKind.wrap IntKind.i64 (r7Ru2_l26738665_T.a1 v + (1 : Int))
def r7Ru2_l26738665_s2 (v : r7Ru2_l26738665_T) : Int := IntKind.wrap IntKind.i64 (r7Ru2_l26738665_s1 v + r7Ru2_l26738665_T.a12 v)
def r7Ru2_l26738665_st (v : r7Ru2_l26738665_T) : List Prop × List (X × Bool × r7Ru2_l26738665_T) := ([r7Ru2_l26738665_s0 v = true → lok r7Ru1_l3_st (18446744073709551616 : Nat) (r7Ru1_l3_T.mk (r7Ru2_l26738665_s2 v) (r7Ru2_l26738665_s1 v) (r7Ru2_l26738665_T.a4 v) (r7Ru2_l26738665_T.a5 v) (r7Ru2_l26738665_T.a6 v) (r7Ru2_l26738665_T.a7 v) (r7Ru2_l26738665_T.a8 v))], [(X.e (7 : Nat), !r7Ru2_l26738665_s0 v, r7Ru2_l26738665_T.mk (r7Ru2_l26738665_T.a0 v) (r7Ru2_l26738665_T.a1 v) (r7Ru2_l26738665_T.a2 v) (r7Ru2_l26738665_T.a3 v) (r7Ru2_l26738665_T.a4 v) (r7Ru2_l26738665_T.a5 v) (r7Ru2_l26738665_T.a6 v) (r7Ru2_l26738665_T.a7 v) (r7Ru2_l26738665_T.a8 v) (r7Ru2_l26738665_T.a9 v) (r7Ru2_l26738665_T.a10 v) (r7Ru2_l26738665_T.a11 v) (r7Ru2_l26738665_T.a12 v) (r7Ru2_l26738665_T.a13 v)), (X.n, r7Ru2_l26738665_s0 v, r7Ru2_l26738665_T.mk (r7Ru2_l26738665_T.a0 v) (r7Ru2_l26738665_T.a1 v) (r7Ru2_l26738665_T.a2 v) (IntKind.wrap IntKind.i64 (r7Ru2_l26738665_T.a3 v + (1 : Int))) (r7Ru2_l26738665_T.a4 v) (r7Ru1_0 (r7Ru2_l26738665_s1 v) (r7Ru2_l26738665_s2 v) (r7Ru2_l26738665_T.a4 v) (r7Ru2_l26738665_T.a5 v) (r7Ru2_l26738665_T.a6 v) (r7Ru2_l26738665_T.a7 v) (r7Ru2_l26738665_T.a8 v)) (r7Ru1_1 (r7Ru2_l26738665_s1 v) (r7Ru2_l26738665_s2 v) (r7Ru2_l26738665_T.a4 v) (r7Ru2_l26738665_T.a5 v) (r7Ru2_l26738665_T.a6 v) (r7Ru2_l26738665_T.a7 v) (r7Ru2_l26738665_T.a8 v)) (r7Ru1_2 (r7Ru2_l26738665_s1 v) (r7Ru2_l26738665_s2 v) (r7Ru2_l26738665_T.a4 v) (r7Ru2_l26738665_T.a5 v) (r7Ru2_l26738665_T.a6 v) (r7Ru2_l26738665_T.a7 v) (r7Ru2_l26738665_T.a8 v)) (r7Ru1_3 (r7Ru2_l26738665_s1 v) (r7Ru2_l26738665_s2 v) (r7Ru2_l26738665_T.a4 v) (r7Ru2_l26738665_T.a5 v) (r7Ru2_l26738665_T.a6 v) (r7Ru2_l26738665_T.a7 v) (r7Ru2_l26738665_T.a8 v)) (r7Ru2_l26738665_T.a9 v) (r7Ru2_l26738665_T.a10 v) (r7Ru2_l26738665_T.a11 v) (r7Ru2_l26738665_T.a12 v) (r7Ru2_l26738665_T.a13 v))])
def r7Ru2_l26738665_rd : HS → Option r7Ru2_l26738665_T := rdS [.i, .i, .i, .i, .r, .r, .b, .b, .i, .i, .i, .i, .i, .i] (fun l => r7Ru2_l26738665_T.mk (gI l 0) (gI l 1) (gI l 2) (gI l 3) (gR l 4) (gR l 5) (gB l 6) (gB l 7) (gI l 8) (gI l 9) (gI l 10) (gI l 11) (gI l 12) (gI l 13)) r7Ru2_l26738665_hd
def r7Ru2_l26738665_sum : V.Sum := loopS r7Ru2_l26738665_hd r7Ru2_l26738665_rd r7Ru2_l26738665_st 18446744073709551616 [X.e (7 : Nat)] [0, 1, 2, 3, 8, 9, 10, 11, 12, 13, 14, 15, 16, 17, 18, 19, 30, 51, 62, 63, 66, 81, 91, 103, 123, 126, 149, 151, 165, 175, 186, 199, 208, 212] [0, 1, 3, 8, 9, 12, 19] [1] [] [] 7
theorem r7Ru2_l26738665_E : ∀ v, bodyF Try.prog tabUc1 (ntOf Try.prog 85) [0, 1, 2, 3, 8, 9, 10, 11, 12, 13, 14, 15, 16, 17, 18, 19, 30, 51, 62, 63, 66, 81, 91, 103, 123, 126, 149, 151, 165, 175, 186, 199, 208, 212] [0, 1, 3, 8, 9, 12, 19] [] 2000 [1] [] r7Ru2_l26738665_code 106954660 (r7Ru2_l26738665_hd v) = some ((r7Ru2_l26738665_st v).1, (r7Ru2_l26738665_st v).2.map fun q => (q.1, q.2.1, r7Ru2_l26738665_hd q.2.2)) := fun v => by kernel_rfl
theorem r7Ru2_l26738665_R : ∀ h v, r7Ru2_l26738665_rd h = some v → h = r7Ru2_l26738665_hd v := rdS_ok fun l => by kernel_rfl
set_option maxRecDepth 100000 in
theorem r7Ru2_l26738665_sok : SumOK Try.prog (ntOf Try.prog 85) [0, 1, 2, 3, 8, 9, 10, 11, 12, 13, 14, 15, 16, 17, 18, 19, 30, 51, 62, 63, 66, 81, 91, 103, 123, 126, 149, 151, 165, 175, 186, 199, 208, 212] (.block (blockOf (subs (bodyOf Try.prog 85) 1 26738665)) (.loop r7Ru2_l26738665_code)) r7Ru2_l26738665_sum := loopS_ok tabUc1_ok follows r7Ru2_l26738665_E r7Ru2_l26738665_R (fun v => by kernel_rfl) (LOK_of _ _ (LOK_nil'))
noncomputable def r7Ru2_l3_code : Go.Code := loopOf (subs (bodyOf Try.prog 85) 1 3)
structure r7Ru2_l3_T where
  a0 : Int
  a1 : Int
  a2 : List (List Int)
  a3 : List (List Int)
  a4 : Bool
  a5 : Bool
  a6 : Int
  deriving Inhabited
def r7Ru2_l3_hd0 (v : r7Ru2_l3_T) : HS := HS.mk [(nat_lit 0, LV.a (At.vec (nat_lit 0) (nat_lit 0) (nat_lit 5))), (nat_lit 1, LV.a (At.ptr (nat_lit 1) (nat_lit 0))), (nat_lit 3, LV.a (At.int true IntKind.i64 (r7Ru2_l3_T.a0 v))), (nat_lit 8, LV.a (At.int true IntKind.i64 (r7Ru2_l3_T.a1 v)))] [BC.mk (Hd.mk (nat_lit 0) (nat_lit 0) true (some (Rw.mk (nat_lit 0) [Kd.int IntKind.i64, Kd.int IntKind.i64, Kd.int IntKind.i64, Kd.int IntKind.i64, Kd.int IntKind.i64] (r7Ru2_l3_T.a2 v) none))) [], BC.mk (Hd.mk (nat_lit 0) (nat_lit 51) false (some (Rw.mk (nat_lit 0) [Kd.int IntKind.i64, Kd.int IntKind.i64, Kd.int IntKind.i64, Kd.int IntKind.i64] (r7Ru2_l3_T.a3 v) (some (nat_lit 12))))) [some (At.bool true (r7Ru2_l3_T.a4 v)), some (At.bool true (r7Ru2_l3_T.a5 v)), some (At.int true IntKind.i64 (r7Ru2_l3_T.a6 v))]]
def r7Ru2_l3_hd (v : r7Ru2_l3_T) : HS := padH (r7Ru2_l3_hd0 v)
def r7Ru2_l3_s0 (v : r7Ru2_l3_T) : Bool := bif decide (r7Ru2_l3_T.a1 v < r7Ru2_l3_T.a0 v) then !r7Ru2_l3_T.a5 v else false
def r7Ru2_l3_s5 (v : r7Ru2_l3_T) : Bool := decide (rget (r7Ru2_l3_T.a2 v) (Int.toNat (r7Ru2_l3_T.a1 v)) (3 : Nat) < (12 : Int))
def r7Ru2_l3_s6 (v : r7Ru2_l3_T) : Bool := rget (r7Ru2_l3_T.a2 v) (Int.toNat (r7Ru2_l3_T.a1 v)) (0 : Nat) == (1 : Int)
def r7Ru2_l3_s7 (v : r7Ru2_l3_T) : Bool := rget (r7Ru2_l3_T.a2 v) (Int.toNat (r7Ru2_l3_T.a1 v)) (0 : Nat) == (2 : Int)
def r7Ru2_l3_s8 (v : r7Ru2_l3_T) : Bool := rget (r7Ru2_l3_T.a2 v) (Int.toNat (r7Ru2_l3_T.a1 v)) (0 : Nat) == (8 : Int)
def r7Ru2_l3_s9 (v : r7Ru2_l3_T) : Bool := rget (r7Ru2_l3_T.a2 v) (Int.toNat (r7Ru2_l3_T.a1 v)) (0 : Nat) == (9 : Int)
def r7Ru2_l3_s10 (v : r7Ru2_l3_T) : Int := Int.tmod (rget (r7Ru2_l3_T.a2 v) (Int.toNat (r7Ru2_l3_T.a1 v)) (3 : Nat)) (4 : Int)
def r7Ru2_l3_s11 (v : r7Ru2_l3_T) : Bool := rget (r7Ru2_l3_T.a2 v) (Int.toNat (r7Ru2_l3_T.a1 v)) (0 : Nat) == (10 : Int)
def r7Ru2_l3_s12 (v : r7Ru2_l3_T) : Int := Int.tmod (IntKind.wrap IntKind.i64 (Int.tmod (rget (r7Ru2_l3_T.a2 v) (Int.toNat (r7Ru2_l3_T.a1 v)) (4 : Nat)) (4 : Int) + (4 : Int))) (4 : Int)
def r7Ru2_l3_s13 (v : r7Ru2_l3_T) : Bool := rget (r7Ru2_l3_T.a2 v) (Int.toNat (r7Ru2_l3_T.a1 v)) (0 : Nat) == (14 : Int)
def r7Ru2_l3_s14 (v : r7Ru2_l3_T) : Int := IntKind.wrap IntKind.i64 (rget (r7Ru2_l3_T.a2 v) (Int.toNat (r7Ru2_l3_T.a1 v)) (2 : Nat) + (0 : Int))
def r7Ru2_l3_s15 : Int := IntKind.wrap IntKind.i64 ((0 : Int) + (1 : Int))
def r7Ru2_l3_s16 (v : r7Ru2_l3_T) : Int := IntKind.wrap IntKind.i64 (rget (r7Ru2_l3_T.a2 v) (Int.toNat (r7Ru2_l3_T.a1 v)) (2 : Nat) + r7Ru2_l3_s15)
def r7Ru2_l3_s17 : Int := IntKind.wrap IntKind.i64 (r7Ru2_l3_s15 + (1 : Int))
def r7Ru2_l3_s18 (v : r7Ru2_l3_T) : Int := IntKind.wrap IntKind.i64 (rget (r7Ru2_l3_T.a2 v) (Int.toNat (r7Ru2_l3_T.a1 v)) (2 : Nat) + r7Ru2_l3_s17)
def r7Ru2_l3_s19 (v : r7Ru2_l3_T) : Int := IntKind.wrap IntKind.i64 (rget (r7Ru2_l3_T.a2 v) (Int.toNat (r7Ru2_l3_T.a1 v)) (2 : Nat) + IntKind.wrap IntKind.i64 (r7Ru2_l3_s17 + (1 : Int)))
def r7Ru2_l3_s20 (v : r7Ru2_l3_T) : Bool := bif decide ((3 : Int) ≤ rget (r7Ru2_l3_T.a2 v) (Int.toNat (r7Ru2_l3_T.a1 v)) (0 : Nat)) then decide (rget (r7Ru2_l3_T.a2 v) (Int.toNat (r7Ru2_l3_T.a1 v)) (0 : Nat) ≤ (7 : Int)) else false
def r7Ru2_l3_s21 (v : r7Ru2_l3_T) : Bool := bif r7Ru2_l3_s20 v then true else bif r7Ru2_l3_s6 v then true else bif r7Ru2_l3_s7 v then true else bif r7Ru2_l3_s8 v then true else bif r7Ru2_l3_s9 v then true else bif r7Ru2_l3_s11 v then true else bif r7Ru2_l3_s13 v then true else false
def r7Ru2_l3_s22 (v : r7Ru2_l3_T) : Bool := rget (r7Ru2_l3_T.a2 v) (Int.toNat (r7Ru2_l3_T.a1 v)) (0 : Nat) == (12 : Int)
def r7Ru2_l3_s23 (v : r7Ru2_l3_T) : Nat := Int.toNat (rget (r7Ru2_l3_T.a2 v) (Int.toNat (r7Ru2_l3_T.a1 v)) (2 : Nat))
def r7Ru2_l3_s24 (v : r7Ru2_l3_T) : List (List Int) := [[rget (r7Ru2_l3_T.a3 v) (r7Ru2_l3_s23 v) (0 : Nat)], [rget (r7Ru2_l3_T.a3 v) (r7Ru2_l3_s23 v) (1 : Nat)], [rget (r7Ru2_l3_T.a3 v) (r7Ru2_l3_s23 v) (2 : Nat)], [rget (r7Ru2_l3_T.a3 v) (r7Ru2_l3_s23 v) (3 : Nat)]]
def r7Ru2_l3_s25 (v : r7Ru2_l3_T) : Int := rget (r7Ru2_l3_s24 v) (0 : Nat) (0 : Nat)
def r7Ru2_l3_s26 : List (List Int) := [[(0 : Int)], [(0 : Int)], [(0 : Int)], [(0 : Int)]]
def r7Ru2_l3_s30 (v : r7Ru2_l3_T) : Bool := decide (r7Ru2_l3_s25 v < (0 : Int))
def r7Ru2_l3_s31 (v : r7Ru2_l3_T) : Int := IntKind.wrap IntKind.i64 (r7Ru2_l3_T.a1 v + (1 : Int))
def r7Ru2_l3_s32 (v : r7Ru2_l3_T) : Int := bif bif rget (r7Ru2_l3_T.a2 v) (Int.toNat (r7Ru2_l3_T.a1 v)) (0 : Nat) == (11 : Int) then r7Ru2_l3_s30 v else false then IntKind.wrap IntKind.i64 (r7Ru2_l3_s31 v + rget (r7Ru2_l3_T.a2 v) (Int.toNat (r7Ru2_l3_T.a1 v)) (4 : Nat)) else r7Ru2_l3_s31 v
def r7Ru2_l3_s33 (v : r7Ru2_l3_T) : Nat := Int.toNat (rget (r7Ru2_l3_T.a2 v) (Int.toNat (r7Ru2_l3_T.a1 v)) (1 : Nat))
def r7Ru2_l3_s34 (v : r7Ru2_l3_T) : Int := rget (r7Ru2_l3_s24 v) (1 : Nat) (0 : Nat)
def r7Ru2_l3_s35 (v : r7Ru2_l3_T) : Int := rget (r7Ru2_l3_s24 v) (2 : Nat) (0 : Nat)
def r7Ru2_l3_s36 (v : r7Ru2_l3_T) : Int := rget (r7Ru2_l3_s24 v) (3 : Nat) (0 : Nat)
def r7Ru2_l3_s37 (v : r7Ru2_l3_T) : List Int := [IntKind.wrap IntKind.i64 (rget (r7Ru2_l3_T.a2 v) (Int.toNat (r7Ru2_l3_T.a1 v)) (4 : Nat) * (256 : Int))]
def r7Ru2_l3_s38 (v : r7Ru2_l3_T) : Nat := Int.toNat (rget (r7Ru2_l3_T.a2 v) (Int.toNat (r7Ru2_l3_T.a1 v)) (3 : Nat))
def r7Ru2_l3_s39 (v : r7Ru2_l3_T) : List (List Int) := bif r7Ru2_l3_s5 v then [[rget (r7Ru2_l3_T.a3 v) (r7Ru2_l3_s38 v) (0 : Nat)], [rget (r7Ru2_l3_T.a3 v) (r7Ru2_l3_s38 v) (1 : Nat)], [rget (r7Ru2_l3_T.a3 v) (r7Ru2_l3_s38 v) (2 : Nat)], [rget (r7Ru2_l3_T.a3 v) (r7Ru2_l3_s38 v) (3 : Nat)]] else r7Ru2_l3_s26
def r7Ru2_l3_s40 (v : r7Ru2_l3_T) : Int := rget (r7Ru2_l3_s39 v) (0 : Nat) (0 : Nat)
def r7Ru2_l3_s41 (v : r7Ru2_l3_T) : Int := rget (r7Ru2_l3_s39 v) (1 : Nat) (0 : Nat)
def r7Ru2_l3_s42 (v : r7Ru2_l3_T) : Int := rget (r7Ru2_l3_s39 v) (2 : Nat) (0 : Nat)
def r7Ru2_l3_s43 (v : r7Ru2_l3_T) : Int := rget (r7Ru2_l3_s39 v) (3 : Nat) (0 : Nat)
def r7Ru2_l3_s44 (v : r7Ru2_l3_T) : List Int := [rDo_0 (r7Ru2_l3_s25 v) (r7Ru2_l3_s34 v) (r7Ru2_l3_s35 v) (r7Ru2_l3_s36 v) (r7Ru2_l3_s40 v) (r7Ru2_l3_s41 v) (r7Ru2_l3_s42 v) (r7Ru2_l3_s43 v)]
def r7Ru2_l3_s45 (v : r7Ru2_l3_T) : List Int := [rget (r7Ru2_l3_s24 v) (Int.toNat (r7Ru2_l3_s10 v)) (0 : Nat)]
def r7Ru2_l3_s46 (v : r7Ru2_l3_T) : List (List Int) := bif r7Ru2_l3_s6 v then [[r7Ru2_l3_s25 v], [r7Ru2_l3_s34 v], [r7Ru2_l3_s35 v], [r7Ru2_l3_s36 v]] else bif r7Ru2_l3_s7 v then [r7Ru2_l3_s37 v, r7Ru2_l3_s37 v, r7Ru2_l3_s37 v, r7Ru2_l3_s37 v] else bif r7Ru2_l3_s8 v then [r7Ru2_l3_s44 v, r7Ru2_l3_s44 v, r7Ru2_l3_s44 v, r7Ru2_l3_s44 v] else bif r7Ru2_l3_s9 v then [r7Ru2_l3_s45 v, r7Ru2_l3_s45 v, r7Ru2_l3_s45 v, r7Ru2_l3_s45 v] else bif r7Ru2_l3_s11 v then List.set [[rget (r7Ru2_l3_T.a3 v) (r7Ru2_l3_s33 v) (0 : Nat)], [rget (r7Ru2_l3_T.a3 v) (r7Ru2_l3_s33 v) (1 : Nat)], [rget (r7Ru2_l3_T.a3 v) (r7Ru2_l3_s33 v) (2 : Nat)], [rget (r7Ru2_l3_T.a3 v) (r7Ru2_l3_s33 v) (3 : Nat)]] (Int.toNat (r7Ru2_l3_s10 v)) [rget (r7Ru2_l3_s24 v) (Int.toNat (r7Ru2_l3_s12 v)) (0 : Nat)] else bif r7Ru2_l3_s13 v then rset (rset (rset (rset r7Ru2_l3_s26 (0 : Nat) (0 : Nat) [rDo_0 (rget (r7Ru2_l3_T.a3 v) (Int.toNat (r7Ru2_l3_s14 v)) (0 : Nat)) (rget (r7Ru2_l3_T.a3 v) (Int.toNat (r7Ru2_l3_s14 v)) (1 : Nat)) (rget (r7Ru2_l3_T.a3 v) (Int.toNat (r7Ru2_l3_s14 v)) (2 : Nat)) (rget (r7Ru2_l3_T.a3 v) (Int.toNat (r7Ru2_l3_s14 v)) (3 : Nat)) (r7Ru2_l3_s40 v) (r7Ru2_l3_s41 v) (r7Ru2_l3_s42 v) (r7Ru2_l3_s43 v)]) (1 : Nat) (0 : Nat) [rDo_0 (rget (r7Ru2_l3_T.a3 v) (Int.toNat (r7Ru2_l3_s16 v)) (0 : Nat)) (rget (r7Ru2_l3_T.a3 v) (Int.toNat (r7Ru2_l3_s16 v)) (1 : Nat)) (rget (r7Ru2_l3_T.a3 v) (Int.toNat (r7Ru2_l3_s16 v)) (2 : Nat)) (rget (r7Ru2_l3_T.a3 v) (Int.toNat (r7Ru2_l3_s16 v)) (3 : Nat)) (r7Ru2_l3_s40 v) (r7Ru2_l3_s41 v) (r7Ru2_l3_s42 v) (r7Ru2_l3_s43 v)]) (2 : Nat) (0 : Nat) [rDo_0 (rget (r7Ru2_l3_T.a3 v) (Int.toNat (r7Ru2_l3_s18 v)) (0 : Nat)) (rget (r7Ru2_l3_T.a3 v) (Int.toNat (r7Ru2_l3_s18 v)) (1 : Nat)) (rget (r7Ru2_l3_T.a3 v) (Int.toNat (r7Ru2_l3_s18 v)) (2 : Nat)) (rget (r7Ru2_l3_T.a3 v) (Int.toNat (r7Ru2_l3_s18 v)) (3 : Nat)) (r7Ru2_l3_s40 v) (r7Ru2_l3_s41 v) (r7Ru2_l3_s42 v) (r7Ru2_l3_s43 v)]) (3 : Nat) (0 : Nat) [rDo_0 (rget (r7Ru2_l3_T.a3 v) (Int.toNat (r7Ru2_l3_s19 v)) (0 : Nat)) (rget (r7Ru2_l3_T.a3 v) (Int.toNat (r7Ru2_l3_s19 v)) (1 : Nat)) (rget (r7Ru2_l3_T.a3 v) (Int.toNat (r7Ru2_l3_s19 v)) (2 : Nat)) (rget (r7Ru2_l3_T.a3 v) (Int.toNat (r7Ru2_l3_s19 v)) (3 : Nat)) (r7Ru2_l3_s40 v) (r7Ru2_l3_s41 v) (r7Ru2_l3_s42 v) (r7Ru2_l3_s43 v)] else r7Ru2_l3_s26
def r7Ru2_l3_s47 (v : r7Ru2_l3_T) : List (List Int) := bif r7Ru2_l3_s20 v then rset (rset (rset (rset (r7Ru2_l3_s46 v) (0 : Nat) (0 : Nat) [r7n_0 (rget (r7Ru2_l3_T.a2 v) (Int.toNat (r7Ru2_l3_T.a1 v)) (0 : Nat)) (r7Ru2_l3_s25 v) (r7Ru2_l3_s40 v)]) (1 : Nat) (0 : Nat) [r7n_0 (rget (r7Ru2_l3_T.a2 v) (Int.toNat (r7Ru2_l3_T.a1 v)) (0 : Nat)) (r7Ru2_l3_s34 v) (r7Ru2_l3_s41 v)]) (2 : Nat) (0 : Nat) [r7n_0 (rget (r7Ru2_l3_T.a2 v) (Int.toNat (r7Ru2_l3_T.a1 v)) (0 : Nat)) (r7Ru2_l3_s35 v) (r7Ru2_l3_s42 v)]) (3 : Nat) (0 : Nat) [r7n_0 (rget (r7Ru2_l3_T.a2 v) (Int.toNat (r7Ru2_l3_T.a1 v)) (0 : Nat)) (r7Ru2_l3_s36 v) (r7Ru2_l3_s43 v)] else r7Ru2_l3_s46 v
def r7Ru2_l3_s48 (v : r7Ru2_l3_T) : List (List Int) := bif r7Ru2_l3_s21 v then List.set (r7Ru2_l3_T.a3 v) (r7Ru2_l3_s33 v) [rget (r7Ru2_l3_s47 v) (0 : Nat) (0 : Nat), rget (r7Ru2_l3_s47 v) (1 : Nat) (0 : Nat), rget (r7Ru2_l3_s47 v) (2 : Nat) (0 : Nat), rget (r7Ru2_l3_s47 v) (3 : Nat) (0 : Nat)] else r7Ru2_l3_T.a3 v
def r7Ru2_l3_s49 (v : r7Ru2_l3_T) : Bool := bif rget (r7Ru2_l3_T.a2 v) (Int.toNat (r7Ru2_l3_T.a1 v)) (0 : Nat) == (13 : Int) then r7Ru2_l3_s30 v else false
def r7Ru2_l3_s50 (v : r7Ru2_l3_T) : Bool := bif r7Ru2_l3_s49 v then true else bif rget (r7Ru2_l3_T.a2 v) (Int.toNat (r7Ru2_l3_T.a1 v)) (0 : Nat) == (0 : Int) then true else r7Ru2_l3_T.a5 v
def r7Ru2_l3_s51 (v : r7Ru2_l3_T) : Int := IntKind.wrap IntKind.i64 (r7Ru2_l3_T.a6 v + (1 : Int))
def r7Ru2_l3_s52 (v : r7Ru2_l3_T) : Option (X × r7Ru2_l26738665_T) := lrun r7Ru2_l26738665_st (18446744073709551616 : Nat) (r7Ru2_l26738665_T.mk (r7Ru2_l3_T.a0 v) (r7Ru2_l3_T.a1 v) (r7Ru2_l3_s32 v) (0 : Int) (r7Ru2_l3_T.a2 v) (r7Ru2_l3_s48 v) (bif r7Ru2_l3_s49 v then true else r7Ru2_l3_T.a4 v) (r7Ru2_l3_s50 v) (r7Ru2_l3_s51 v) (rget (r7Ru2_l3_T.a2 v) (Int.toNat (r7Ru2_l3_T.a1 v)) (0 : Nat)) (rget (r7Ru2_l3_T.a2 v) (Int.toNat (r7Ru2_l3_T.a1 v)) (1 : Nat)) (rget (r7Ru2_l3_T.a2 v) (Int.toNat (r7Ru2_l3_T.a1 v)) (2 : Nat)) (rget (r7Ru2_l3_T.a2 v) (Int.toNat (r7Ru2_l3_T.a1 v)) (3 : Nat)) (rget (r7Ru2_l3_T.a2 v) (Int.toNat (r7Ru2_l3_T.a1 v)) (4 : Nat)))
def r7Ru2_l3_st (v : r7Ru2_l3_T) : List Prop × List (X × Bool × r7Ru2_l3_T) := ([r7Ru2_l3_s0 v = true → (0 : Int) ≤ r7Ru2_l3_T.a1 v ∧ r7Ru2_l3_T.a1 v < Int.ofNat (List.length (r7Ru2_l3_T.a2 v)), r7Ru2_l3_s0 v = true → (0 : Int) ≤ rget (r7Ru2_l3_T.a2 v) (Int.toNat (r7Ru2_l3_T.a1 v)) (2 : Nat) ∧ rget (r7Ru2_l3_T.a2 v) (Int.toNat (r7Ru2_l3_T.a1 v)) (2 : Nat) < Int.ofNat (12 : Nat), r7Ru2_l3_s0 v = true → r7Ru2_l3_s5 v = true → (0 : Int) ≤ rget (r7Ru2_l3_T.a2 v) (Int.toNat (r7Ru2_l3_T.a1 v)) (3 : Nat) ∧ rget (r7Ru2_l3_T.a2 v) (Int.toNat (r7Ru2_l3_T.a1 v)) (3 : Nat) < Int.ofNat (12 : Nat), r7Ru2_l3_s0 v = true → r7Ru2_l3_s6 v = false → r7Ru2_l3_s7 v = false → r7Ru2_l3_s8 v = false → r7Ru2_l3_s9 v = true → (0 : Int) ≤ r7Ru2_l3_s10 v ∧ r7Ru2_l3_s10 v < Int.ofNat (4 : Nat), r7Ru2_l3_s0 v = true → r7Ru2_l3_s6 v = false → r7Ru2_l3_s7 v = false → r7Ru2_l3_s8 v = false → r7Ru2_l3_s9 v = false → r7Ru2_l3_s11 v = true → (0 : Int) ≤ rget (r7Ru2_l3_T.a2 v) (Int.toNat (r7Ru2_l3_T.a1 v)) (1 : Nat) ∧ rget (r7Ru2_l3_T.a2 v) (Int.toNat (r7Ru2_l3_T.a1 v)) (1 : Nat) < Int.ofNat (12 : Nat), r7Ru2_l3_s0 v = true → r7Ru2_l3_s6 v = false → r7Ru2_l3_s7 v = false → r7Ru2_l3_s8 v = false → r7Ru2_l3_s9 v = false → r7Ru2_l3_s11 v = true → (0 : Int) ≤ r7Ru2_l3_s12 v ∧ r7Ru2_l3_s12 v < Int.ofNat (4 : Nat), r7Ru2_l3_s0 v = true → r7Ru2_l3_s6 v = false → r7Ru2_l3_s7 v = false → r7Ru2_l3_s8 v = false → r7Ru2_l3_s9 v = false → r7Ru2_l3_s11 v = true → (0 : Int) ≤ r7Ru2_l3_s10 v ∧ r7Ru2_l3_s10 v < Int.ofNat (4 : Nat), r7Ru2_l3_s0 v = true → r7Ru2_l3_s6 v = false → r7Ru2_l3_s7 v = false → r7Ru2_l3_s8 v = false → r7Ru2_l3_s9 v = false → r7Ru2_l3_s11 v = false → r7Ru2_l3_s13 v = true → (0 : Int) ≤ r7Ru2_l3_s14 v ∧ r7Ru2_l3_s14 v < Int.ofNat (12 : Nat), r7Ru2_l3_s0 v = true → r7Ru2_l3_s6 v = false → r7Ru2_l3_s7 v = false → r7Ru2_l3_s8 v = false → r7Ru2_l3_s9 v = false → r7Ru2_l3_s11 v = false → r7Ru2_l3_s13 v = true → (0 : Int) ≤ r7Ru2_l3_s16 v ∧ r7Ru2_l3_s16 v < Int.ofNat (12 : Nat), r7Ru2_l3_s0 v = true → r7Ru2_l3_s6 v = false → r7Ru2_l3_s7 v = false → r7Ru2_l3_s8 v = false → r7Ru2_l3_s9 v = false → r7Ru2_l3_s11 v = false → r7Ru2_l3_s13 v = true → (0 : Int) ≤ r7Ru2_l3_s18 v ∧ r7Ru2_l3_s18 v < Int.ofNat (12 : Nat), r7Ru2_l3_s0 v = true → r7Ru2_l3_s6 v = false → r7Ru2_l3_s7 v = false → r7Ru2_l3_s8 v = false → r7Ru2_l3_s9 v = false → r7Ru2_l3_s11 v = false → r7Ru2_l3_s13 v = true → (0 : Int) ≤ r7Ru2_l3_s19 v ∧ r7Ru2_l3_s19 v < Int.ofNat (12 : Nat), r7Ru2_l3_s0 v = true → r7Ru2_l3_s21 v = true → (0 : Int) ≤ rget (r7Ru2_l3_T.a2 v) (Int.toNat (r7Ru2_l3_T.a1 v)) (1 : Nat) ∧ rget (r7Ru2_l3_T.a2 v) (Int.toNat (r7Ru2_l3_T.a1 v)) (1 : Nat) < Int.ofNat (12 : Nat), r7Ru2_l3_s0 v = true → r7Ru2_l3_s22 v = true → lok r7Ru2_l26738665_st (18446744073709551616 : Nat) (r7Ru2_l26738665_T.mk (r7Ru2_l3_T.a0 v) (r7Ru2_l3_T.a1 v) (r7Ru2_l3_s32 v) (0 : Int) (r7Ru2_l3_T.a2 v) (r7Ru2_l3_s48 v) (bif r7Ru2_l3_s49 v then true else r7Ru2_l3_T.a4 v) (r7Ru2_l3_s50 v) (r7Ru2_l3_s51 v) (rget (r7Ru2_l3_T.a2 v) (Int.toNat (r7Ru2_l3_T.a1 v)) (0 : Nat)) (rget (r7Ru2_l3_T.a2 v) (Int.toNat (r7Ru2_l3_T.a1 v)) (1 : Nat)) (rget (r7Ru2_l3_T.a2 v) (Int.toNat (r7Ru2_l3_T.a1 v)) (2 : Nat)) (rget (r7Ru2_l3_T.a2 v) (Int.toNat (r7Ru2_l3_T.a1 v)) (3 : Nat)) (rget (r7Ru2_l3_T.a2 v) (Int.toNat (r7Ru2_l3_T.a1 v)) (4 : Nat)))], [(X.e (0 : Nat), !r7Ru2_l3_s0 v, r7Ru2_l3_T.mk (r7Ru2_l3_T.a0 v) (r7Ru2_l3_T.a1 v) (r7Ru2_l3_T.a2 v) (r7Ru2_l3_T.a3 v) (r7Ru2_l3_T.a4 v) (r7Ru2_l3_T.a5 v) (r7Ru2_l3_T.a6 v)), (X.n, r7Ru2_l3_s0 v && bif r7Ru2_l3_s22 v then isX (X.e (7 : Nat)) (r7Ru2_l3_s52 v) else true, r7Ru2_l3_T.mk (bif r7Ru2_l3_s22 v then r7Ru2_l26738665_T.a0 (V.valOf (r7Ru2_l3_s52 v)) else r7Ru2_l3_T.a0 v) (bif r7Ru2_l3_s22 v then IntKind.wrap IntKind.i64 (IntKind.wrap IntKind.i64 (r7Ru2_l26738665_T.a1 (V.valOf (r7Ru2_l3_s52 v)) + (1 : Int)) + rget (r7Ru2_l3_T.a2 v) (Int.toNat (r7Ru2_l3_T.a1 v)) (3 : Nat)) else r7Ru2_l3_s32 v) (r7Ru2_l3_T.a2 v) (bif r7Ru2_l3_s22 v then r7Ru2_l26738665_T.a5 (V.valOf (r7Ru2_l3_s52 v)) else r7Ru2_l3_s48 v) (bif r7Ru2_l3_s22 v then r7Ru2_l26738665_T.a6 (V.valOf (r7Ru2_l3_s52 v)) else bif r7Ru2_l3_s49 v then true else r7Ru2_l3_T.a4 v) (bif r7Ru2_l3_s22 v then r7Ru2_l26738665_T.a7 (V.valOf (r7Ru2_l3_s52 v)) else r7Ru2_l3_s50 v) (bif r7Ru2_l3_s22 v then r7Ru2_l26738665_T.a8 (V.valOf (r7Ru2_l3_s52 v)) else r7Ru2_l3_s51 v))])
def r7Ru2_l3_rd : HS → Option r7Ru2_l3_T := rdS [.i, .i, .r, .r, .b, .b, .i] (fun l => r7Ru2_l3_T.mk (gI l 0) (gI l 1) (gR l 2) (gR l 3) (gB l 4) (gB l 5) (gI l 6)) r7Ru2_l3_hd
def r7Ru2_l3_sum : V.Sum := loopS r7Ru2_l3_hd r7Ru2_l3_rd r7Ru2_l3_st 18446744073709551616 [X.e (0 : Nat)] [0, 1, 2, 3, 8, 9, 10, 11, 12, 13, 14, 15, 16, 17, 18, 19, 30, 51, 62, 63, 66, 81, 91, 103, 123, 126, 149, 151, 165, 175, 186, 199, 208, 212] [0, 1, 3, 8] [1] [] [] 0
theorem r7Ru2_l3_E : ∀ v, bodyF Try.prog tabUc1 (ntOf Try.prog 85) [0, 1, 2, 3, 8, 9, 10, 11, 12, 13, 14, 15, 16, 17, 18, 19, 30, 51, 62, 63, 66, 81, 91, 103, 123, 126, 149, 151, 165, 175, 186, 199, 208, 212] [0, 1, 3, 8] [(26738665, r7Ru2_l26738665_sum)] 2000 [1] [] r7Ru2_l3_code 12 (r7Ru2_l3_hd v) = some ((r7Ru2_l3_st v).1, (r7Ru2_l3_st v).2.map fun q => (q.1, q.2.1, r7Ru2_l3_hd q.2.2)) := fun v => by kernel_rfl
theorem r7Ru2_l3_R : ∀ h v, r7Ru2_l3_rd h = some v → h = r7Ru2_l3_hd v := rdS_ok fun l => by kernel_rfl
set_option maxRecDepth 100000 in
theorem r7Ru2_l3_sok : SumOK Try.prog (ntOf Try.prog 85) [0, 1, 2, 3, 8, 9, 10, 11, 12, 13, 14, 15, 16, 17, 18, 19, 30, 51, 62, 63, 66, 81, 91, 103, 123, 126, 149, 151, 165, 175, 186, 199, 208, 212] (.block (blockOf (subs (bodyOf Try.prog 85) 1 3)) (.loop r7Ru2_l3_code)) r7Ru2_l3_sum := loopS_ok tabUc1_ok follows r7Ru2_l3_E r7Ru2_l3_R (fun v => by kernel_rfl) (LOK_of _ _ (LOK_cons (show subs r7Ru2_l3_code 12 26738665 = [.block (blockOf (subs (bodyOf Try.prog 85) 1 26738665)) (.loop r7Ru2_l26738665_code)] from by kernel_rfl) r7Ru2_l26738665_sok (LOK_nil')))
def r7Ru2_0 (x2 x3 : Int) (p g : List (List Int)) (gn ov : Bool) (st : Int) : List (List Int) := r7Ru2_l3_T.a3 (V.valOf (lrun r7Ru2_l3_st (18446744073709551616 : Nat) (r7Ru2_l3_T.mk x3 x2 p g gn ov st)))
def r7Ru2_1 (x2 x3 : Int) (p g : List (List Int)) (gn ov : Bool) (st : Int) : Bool := r7Ru2_l3_T.a4 (V.valOf (lrun r7Ru2_l3_st (18446744073709551616 : Nat) (r7Ru2_l3_T.mk x3 x2 p g gn ov st)))
def r7Ru2_2 (x2 x3 : Int) (p g : List (List Int)) (gn ov : Bool) (st : Int) : Bool := r7Ru2_l3_T.a5 (V.valOf (lrun r7Ru2_l3_st (18446744073709551616 : Nat) (r7Ru2_l3_T.mk x3 x2 p g gn ov st)))
def r7Ru2_3 (x2 x3 : Int) (p g : List (List Int)) (gn ov : Bool) (st : Int) : Int := r7Ru2_l3_T.a6 (V.valOf (lrun r7Ru2_l3_st (18446744073709551616 : Nat) (r7Ru2_l3_T.mk x3 x2 p g gn ov st)))
def r7Ru2_o (x2 x3 : Int) (r0 : Bool) (p g : List (List Int)) (gn ov : Bool) (st : Int) : List Prop := [lok r7Ru2_l3_st (18446744073709551616 : Nat) (r7Ru2_l3_T.mk x3 x2 p g gn ov st)]
theorem r7Ru2_p (x2 x3 : Int) (r0 : Bool) (p g : List (List Int)) (gn ov : Bool) (st : Int) : evG Try.prog tabUc1 2000 85 [0, 1, 2, 3, 8, 9, 10, 11, 12, 13, 14, 15, 16, 17, 18, 19, 30, 51, 62, 63, 66, 81, 91, 103, 123, 126, 149, 151, 165, 175, 186, 199, 208, 212] [(3, r7Ru2_l3_sum), (26738665, r7Ru2_l26738665_sum)] [1] [.a (.vec 0 0 5), .a (.ptr 1 0), .a (.int true .i64 x2), .a (.int true .i64 x3)] (padBs [⟨⟨0, 0, r0, some ⟨0, [.int .i64, .int .i64, .int .i64, .int .i64, .int .i64], p, none⟩⟩, []⟩, ⟨⟨0, 51, false, some ⟨0, [.int .i64, .int .i64, .int .i64, .int .i64], g, some 12⟩⟩, [some (.bool true gn), some (.bool true ov), some (.int true .i64 st)]⟩]) = some (r7Ru2_o x2 x3 r0 p g gn ov st, LV.t [], padOut [none, some (BC.mk (Hd.mk (nat_lit 0) (nat_lit 51) false (some (Rw.mk (nat_lit 0) [Kd.int IntKind.i64, Kd.int IntKind.i64, Kd.int IntKind.i64, Kd.int IntKind.i64] (r7Ru2_0 x2 x3 p g gn ov st) (some (nat_lit 12))))) [some (At.bool true (r7Ru2_1 x2 x3 p g gn ov st)), some (At.bool true (r7Ru2_2 x2 x3 p g gn ov st)), some (At.int true IntKind.i64 (r7Ru2_3 x2 x3 p g gn ov st))])]) := by kernel_rfl
def r7Ru2_c0 : Con
  | [.a (.vec 0 0 5), .a (.ptr 1 0), .a (.int true .i64 x2), .a (.int true .i64 x3)], [⟨⟨0, 0, r0, some ⟨0, [.int .i64, .int .i64, .int .i64, .int .i64, .int .i64], p, none⟩⟩, []⟩, ⟨⟨0, 51, false, some ⟨0, [.int .i64, .int .i64, .int .i64, .int .i64], g, some 12⟩⟩, [some (.bool true gn), some (.bool true ov), some (.int true .i64 st)]⟩] => some (r7Ru2_o x2 x3 r0 p g gn ov st, LV.t [], [none, some (BC.mk (Hd.mk (nat_lit 0) (nat_lit 51) false (some (Rw.mk (nat_lit 0) [Kd.int IntKind.i64, Kd.int IntKind.i64, Kd.int IntKind.i64, Kd.int IntKind.i64] (r7Ru2_0 x2 x3 p g gn ov st) (some (nat_lit 12))))) [some (At.bool true (r7Ru2_1 x2 x3 p g gn ov st)), some (At.bool true (r7Ru2_2 x2 x3 p g gn ov st)), some (At.int true IntKind.i64 (r7Ru2_3 x2 x3 p g gn ov st))])])
  | _, _ => none
def r7Ru2_c : Con := packC r7Ru2_c0
theorem r7Ru2_ok : ConOK Try.prog 85 (normC r7Ru2_c) := normC_ok (packC_ok (by
  intro args bs obs lv out h ho φ vs w may ha hM
  unfold r7Ru2_c0 at h
  split at h
  · simp only [Option.some.injEq, Prod.mk.injEq] at h
    obtain ⟨rfl, rfl, rfl⟩ := h
    rename_i x2 x3 r0 p g gn ov st
    exact evG_okL' tabUc1_ok follows (LOK_cons (show subs (bodyOf Try.prog 85) 1 3 = [.block (blockOf (subs (bodyOf Try.prog 85) 1 3)) (.loop r7Ru2_l3_code)] from by kernel_rfl) r7Ru2_l3_sok (LOK_cons (show subs (bodyOf Try.prog 85) 1 26738665 = [.block (blockOf (subs (bodyOf Try.prog 85) 1 26738665)) (.loop r7Ru2_l26738665_code)] from by kernel_rfl) r7Ru2_l26738665_sok (LOK_nil'))) _ _ _ _ _ (r7Ru2_p x2 x3 r0 p g gn ov st) ho φ vs w may ha hM
  · cases h))
theorem r7Ru2_en : Enters Try.prog 85 := fun args => by kernel_rfl
-- 254067 971 12 ms

def tabUc2 : Tab := (85, normC r7Ru2_c) :: tabUc1
theorem tabUc2_ok : TOK Try.prog tabUc2 := TOK.cons r7Ru2_en r7Ru2_ok (tabUc1_ok)

end Go.Proofs.Ytcdejlgophpdjaa
end

section
namespace Go.Proofs.Ytcdejlgophpdjaa
open Go Go.RowKit Go.Proofs.Ytcdejlgophpdjaa.V
set_option linter.unusedVariables false
set_option linter.unusedSectionVars false

namespace Vm

/-- Within bounds. -/
def In (x : Int) : Prop := -2147483647 ≤ x ∧ x ≤ 2147483647

theorem rcl_eq (x : Int) : rCl_0 x = if 2147483647 < x then 2147483647 else if x < -2147483647 then -2147483647 else x := by
  unfold rCl_0
  by_cases a : 2147483647 < x
  · rw [decide_eq_true a, if_pos a]; rfl
  · rw [decide_eq_false a, if_neg a]
    by_cases b : x < -2147483647
    · rw [decide_eq_true b, if_pos b]; rfl
    · rw [decide_eq_false b, if_neg b]; rfl
theorem rcl_in (x : Int) : In (rCl_0 x) := by
  rw [rcl_eq]; unfold In
  split
  · omega
  · split <;> omega
theorem rcl_id {x : Int} (h : In x) : rCl_0 x = x := by
  unfold In at h
  rw [rcl_eq, if_neg (by omega), if_neg (by omega)]
theorem cla_eq : fCla_0 = rCl_0 := by
  funext x
  have e : fWi_s1 2147483647 = -2147483647 := by decide
  rw [rcl_eq]
  unfold fCla_0 fWi_0 fWi_s0
  rw [e]
  split <;> split <;> first | omega | (split <;> omega)
theorem add_eq (x y : Int) : fAd_0 x y = rAd_0 x y := by
  unfold fAd_0 rAd_0
  rw [cla_eq]
theorem add_in (x y : Int) : In (rAd_0 x y) := rcl_in _
theorem sub_eq {y : Int} (x : Int) (h : In y) : fSu_0 x y = rAd_0 x (IntKind.wrap .i64 (0 - y)) := by
  unfold In at h
  unfold fSu_0 rAd_0
  rw [cla_eq, w64_in (n := 0 - y) (by omega) (by omega), rcl_id (x := y) h, rcl_id (x := 0 - y) (by unfold In; omega), show rCl_0 x - y = rCl_0 x + (0 - y) by omega]
theorem sub_in (x y : Int) : In (fSu_0 x y) := by
  unfold fSu_0
  rw [cla_eq]; exact rcl_in _
theorem prod_in {x y : Int} (h : In x) (k : In y) : -4611686018427387904 ≤ x * y ∧ x * y ≤ 4611686018427387904 := by
  unfold In at h k
  have := Int.natAbs_mul x y
  have a : x.natAbs ≤ 2147483647 := by omega
  have b : y.natAbs ≤ 2147483647 := by omega
  have c : x.natAbs * y.natAbs ≤ 2147483647 * 2147483647 := Nat.mul_le_mul a b
  omega
theorem flo_eq {z : Int} (h1 : -4611686018427387904 ≤ z) (h2 : z ≤ 4611686018427387904) : rFlo_0 z 65536 = z / 65536 := by
  unfold rFlo_0 rFlo_s0 rFlo_s3
  rw [decide_eq_false (show ¬ (65536 : Int) < 0 by decide)]
  show (bif decide (0 ≤ z) then IntKind.wrap .i64 (Int.tdiv z 65536) else IntKind.wrap .i64 (0 - IntKind.wrap .i64 (Int.tdiv (IntKind.wrap .i64 (IntKind.wrap .i64 (65536 - 1) - z)) 65536))) = _
  by_cases a : 0 ≤ z
  · rw [decide_eq_true a]
    show IntKind.wrap .i64 (Int.tdiv z 65536) = _
    rw [Int.tdiv_eq_ediv_of_nonneg a, w64_in (by omega) (by omega)]
  · rw [decide_eq_false a]
    show IntKind.wrap .i64 (0 - IntKind.wrap .i64 (Int.tdiv (IntKind.wrap .i64 (IntKind.wrap .i64 (65536 - 1) - z)) 65536)) = _
    rw [w64_in (n := 65536 - 1) (by decide) (by decide), w64_in (n := 65536 - 1 - z) (by omega) (by omega), Int.tdiv_eq_ediv_of_nonneg (by omega), w64_in (n := (65536 - 1 - z) / 65536) (by omega) (by omega), w64_in (by omega) (by omega)]
    omega
theorem mul_eq (x y : Int) : fMu_0 x y = rMu_0 x y := by
  have p := prod_in (rcl_in x) (rcl_in y)
  unfold fMu_0 rMu_0 rMu_s0
  rw [cla_eq, w64_in (n := rCl_0 x * rCl_0 y) (by omega) (by omega), flo_eq p.1 p.2, sh16]
theorem mul_in (x y : Int) : In (rMu_0 x y) := rcl_in _
theorem min_eq {x y : Int} (h : In x) (k : In y) : vMi1_0 x y = r7n_0 6 x y := by
  unfold vMi1_0
  rw [cla_eq, rcl_id h, rcl_id k]
  show _ = (bif true == decide (x < y) then x else y)
  by_cases c : x < y
  · rw [decide_eq_true c, if_neg (by omega)]; rfl
  · rw [decide_eq_false c]
    by_cases d : y < x
    · rw [if_pos d]; rfl
    · rw [if_neg d]; show x = y; omega
theorem max_eq {x y : Int} (h : In x) (k : In y) : vMa1_0 x y = r7n_0 7 x y := by
  unfold vMa1_0
  rw [cla_eq, rcl_id h, rcl_id k]
  show _ = (bif false == decide (x < y) then x else y)
  by_cases c : x < y
  · rw [decide_eq_true c, if_pos c]; rfl
  · rw [decide_eq_false c, if_neg c]; rfl
theorem dot_eq (a b c d e f g h : Int) : vDo_0 a b c d e f g h = rDo_0 a b c d e f g h := by
  unfold vDo_0 rDo_0
  rw [add_eq, add_eq, add_eq, add_eq, mul_eq, mul_eq, mul_eq, mul_eq]
  have z : rAd_0 0 (rMu_0 a e) = rMu_0 a e := by
    have m := mul_in a e
    unfold rAd_0
    rw [rcl_id m, show rCl_0 0 = 0 from rfl, Int.zero_add]
    unfold In at m
    rw [w64_in (by omega) (by omega), rcl_id m]
  rw [z]
theorem min_in {x y : Int} (h : In x) (k : In y) : In (vMi1_0 x y) := by
  unfold vMi1_0
  rw [cla_eq, rcl_id h, rcl_id k]
  split <;> assumption
theorem max_in {x y : Int} (h : In x) (k : In y) : In (vMa1_0 x y) := by
  unfold vMa1_0
  rw [cla_eq, rcl_id h, rcl_id k]
  split <;> assumption
theorem dot_in (a b c d e f g h : Int) : In (rDo_0 a b c d e f g h) := rcl_in _

/-- Registers: twelve rows of four numbers within bounds. -/
structure Rg (g : List (List Int)) : Prop where
  len : g.length = 12
  row : ∀ i, i < 12 → (g.getD i []).length = 4
  inn : ∀ i j, In (rget g i j)
theorem Rg.set {g : List (List Int)} (R : Rg g) {d : Nat} {a b c e : Int} (ha : In a) (hb : In b) (hc : In c) (he : In e) : Rg (g.set d [a, b, c, e]) := by
  have gd : ∀ k, (g.set d [a, b, c, e]).getD k [] = if d = k ∧ k < g.length then [a, b, c, e] else g.getD k [] := fun k => by
    rw [List.getD_eq_getElem?_getD, List.getElem?_set, List.getD_eq_getElem?_getD]
    by_cases h : d = k
    · subst h
      by_cases q : d < g.length
      · rw [if_pos rfl, if_pos q, if_pos ⟨rfl, q⟩]; rfl
      · rw [if_pos rfl, if_neg q, if_neg (fun c => q c.2), List.getElem?_eq_none (by omega)]
    · rw [if_neg h, if_neg (fun c => h c.1)]
  refine ⟨by rw [List.length_set]; exact R.len, fun i hi => ?_, fun i j => ?_⟩
  · rw [gd]
    split
    · rfl
    · exact R.row i hi
  · unfold rget
    rw [gd]
    split
    · match j with
      | 0 => exact ha
      | 1 => exact hb
      | 2 => exact hc
      | 3 => exact he
      | j + 4 => exact (⟨by decide, by decide⟩ : In 0)
    · exact R.inn i j
theorem Rg.four {g : List (List Int)} (R : Rg g) {d : Nat} (hd : d < 12) : g.getD d [] = [rget g d 0, rget g d 1, rget g d 2, rget g d 3] := by
  have := R.row d hd
  unfold rget
  generalize g.getD d [] = r at this
  match r, this with
  | [a, b, c, e], _ => rfl

theorem and3_mod (a m : Int) (hm : m = 256 ∨ m = 65536) : ((Int.toNat (a % m) &&& Int.toNat ((3 : Int) % m) : Nat) : Int) = a % 4 := by
  have e : Int.toNat ((3 : Int) % m) = 2 ^ 2 - 1 := by rcases hm with rfl | rfl <;> rfl
  rw [e, Nat.and_two_pow_sub_one_eq_mod]
  rcases hm with rfl | rfl
  · have : 0 ≤ a % 256 := Int.emod_nonneg _ (by decide)
    omega
  · have : 0 ≤ a % 65536 := Int.emod_nonneg _ (by decide)
    omega
theorem s32_eq (x : Int) (p : List (List Int)) : vSt1_s32 x p = rget p (Int.toNat x) 3 % 4 := by
  have := and3_mod (rget p (Int.toNat x) 3) 256 (.inl rfl)
  have b := ld_u8 x p
  unfold vSt1_s32 at b ⊢
  rw [wu8] at b ⊢
  have e : vSt1_s31 = 256 := by decide
  rw [e] at b ⊢
  simp only [Int.ofNat_eq_natCast] at b ⊢
  omega
theorem s35_eq (x : Int) (p : List (List Int)) : vSt1_s35 x p = rget p (Int.toNat x) 4 % 4 := by
  have := and3_mod (rget p (Int.toNat x) 4) 65536 (.inr rfl)
  have c := and3 (rget p (Int.toNat x) 4) 65536 (.inr rfl)
  unfold vSt1_s35
  have e : vSt1_s34 = 65536 := by decide
  rw [e]
  have w : ∀ n : Nat, n ≤ 3 → IntKind.wrap .i16 (Int.ofNat n) = (n : Int) := fun n h => by
    match n, h with
    | 0, _ => rfl
    | 1, _ => rfl
    | 2, _ => rfl
    | 3, _ => rfl
  rw [w _ c]
  exact this
end Vm

end Go.Proofs.Ytcdejlgophpdjaa
end

section
namespace Go.Proofs.Ytcdejlgophpdjaa
open Go Go.RowKit Go.Proofs.Ytcdejlgophpdjaa.V
set_option linter.unusedVariables false
set_option linter.unusedSectionVars false

namespace Vm
section
variable {p q g : List (List Int)} {i : Nat} {gn : Bool} {to st : Int} (B : Pb p) (hi : i < p.length) (I : Ins p i) (R : Rg g) (E : ∀ j, j < 5 → rget q i j = rget p i j)

theorem gI (l : List (List Int)) (j : Nat) : rget l (Int.toNat (i : Int)) j = rget l i j := by rw [Int.toNat_natCast]
include E
theorem qp {j : Nat} (hj : j < 5) : rget q (Int.toNat (i : Int)) j = rget p (Int.toNat (i : Int)) j := by rw [Int.toNat_natCast, E j hj]
theorem xa0 : r7Ru1_l3_s24 (r7Ru1_l3_T.mk to (i : Int) q g gn false st) = vSt1_s12 (i : Int) g p := by
  show rget g (Int.toNat (rget q (Int.toNat (i : Int)) 2)) 0 = rget g (Int.toNat (rget p (Int.toNat (i : Int)) 2)) 0
  rw [qp E (by decide)]
theorem xa1 : r7Ru1_l3_s32 (r7Ru1_l3_T.mk to (i : Int) q g gn false st) = vSt1_s20 (i : Int) g p := by
  show rget g (Int.toNat (rget q (Int.toNat (i : Int)) 2)) 1 = rget g (Int.toNat (rget p (Int.toNat (i : Int)) 2)) 1
  rw [qp E (by decide)]
theorem xa2 : r7Ru1_l3_s33 (r7Ru1_l3_T.mk to (i : Int) q g gn false st) = vSt1_s21 (i : Int) g p := by
  show rget g (Int.toNat (rget q (Int.toNat (i : Int)) 2)) 2 = rget g (Int.toNat (rget p (Int.toNat (i : Int)) 2)) 2
  rw [qp E (by decide)]
theorem xa3 : r7Ru1_l3_s34 (r7Ru1_l3_T.mk to (i : Int) q g gn false st) = vSt1_s22 (i : Int) g p := by
  show rget g (Int.toNat (rget q (Int.toNat (i : Int)) 2)) 3 = rget g (Int.toNat (rget p (Int.toNat (i : Int)) 2)) 3
  rw [qp E (by decide)]
theorem x5 : r7Ru1_l3_s5 (r7Ru1_l3_T.mk to (i : Int) q g gn false st) = vSt1_s25 (i : Int) p := by
  show decide (rget q (Int.toNat (i : Int)) 3 < 12) = decide (rget p (Int.toNat (i : Int)) 3 < 12)
  rw [qp E (by decide)]
theorem xb0 : r7Ru1_l3_s38 (r7Ru1_l3_T.mk to (i : Int) q g gn false st) = vSt1_s26 (i : Int) g p := by
  unfold r7Ru1_l3_s38 r7Ru1_l3_s37 vSt1_s26
  rw [x5 E]
  cases vSt1_s25 (i : Int) p with
  | false => rfl
  | true =>
    show rget g (Int.toNat (rget q (Int.toNat (i : Int)) 3)) 0 = rget g (Int.toNat (rget p (Int.toNat (i : Int)) 3)) 0
    rw [qp E (by decide)]
theorem xb1 : r7Ru1_l3_s39 (r7Ru1_l3_T.mk to (i : Int) q g gn false st) = vSt1_s27 (i : Int) g p := by
  unfold r7Ru1_l3_s39 r7Ru1_l3_s37 vSt1_s27
  rw [x5 E]
  cases vSt1_s25 (i : Int) p with
  | false => rfl
  | true =>
    show rget g (Int.toNat (rget q (Int.toNat (i : Int)) 3)) 1 = rget g (Int.toNat (rget p (Int.toNat (i : Int)) 3)) 1
    rw [qp E (by decide)]
theorem xb2 : r7Ru1_l3_s40 (r7Ru1_l3_T.mk to (i : Int) q g gn false st) = vSt1_s28 (i : Int) g p := by
  unfold r7Ru1_l3_s40 r7Ru1_l3_s37 vSt1_s28
  rw [x5 E]
  cases vSt1_s25 (i : Int) p with
  | false => rfl
  | true =>
    show rget g (Int.toNat (rget q (Int.toNat (i : Int)) 3)) 2 = rget g (Int.toNat (rget p (Int.toNat (i : Int)) 3)) 2
    rw [qp E (by decide)]
theorem xb3 : r7Ru1_l3_s41 (r7Ru1_l3_T.mk to (i : Int) q g gn false st) = vSt1_s29 (i : Int) g p := by
  unfold r7Ru1_l3_s41 r7Ru1_l3_s37 vSt1_s29
  rw [x5 E]
  cases vSt1_s25 (i : Int) p with
  | false => rfl
  | true =>
    show rget g (Int.toNat (rget q (Int.toNat (i : Int)) 3)) 3 = rget g (Int.toNat (rget p (Int.toNat (i : Int)) 3)) 3
    rw [qp E (by decide)]
theorem x31 : r7Ru1_l3_s31 (r7Ru1_l3_T.mk to (i : Int) q g gn false st) = Int.toNat (rget p (Int.toNat (i : Int)) 1) := by
  show Int.toNat (rget q (Int.toNat (i : Int)) 1) = _
  rw [qp E (by decide)]
omit E
include R
theorem ia0 : In (vSt1_s12 (i : Int) g p) := R.inn _ _
theorem ia1 : In (vSt1_s20 (i : Int) g p) := R.inn _ _
theorem ia2 : In (vSt1_s21 (i : Int) g p) := R.inn _ _
theorem ia3 : In (vSt1_s22 (i : Int) g p) := R.inn _ _
theorem ib0 : In (vSt1_s26 (i : Int) g p) := by
  unfold vSt1_s26
  cases vSt1_s25 (i : Int) p
  · exact (⟨by decide, by decide⟩ : In 0)
  · exact R.inn _ _
theorem ib1 : In (vSt1_s27 (i : Int) g p) := by
  unfold vSt1_s27
  cases vSt1_s25 (i : Int) p
  · exact (⟨by decide, by decide⟩ : In 0)
  · exact R.inn _ _
theorem ib2 : In (vSt1_s28 (i : Int) g p) := by
  unfold vSt1_s28
  cases vSt1_s25 (i : Int) p
  · exact (⟨by decide, by decide⟩ : In 0)
  · exact R.inn _ _
theorem ib3 : In (vSt1_s29 (i : Int) g p) := by
  unfold vSt1_s29
  cases vSt1_s25 (i : Int) p
  · exact (⟨by decide, by decide⟩ : In 0)
  · exact R.inn _ _
omit R
include B hi I R E
theorem rs0 (hc : rget p i 0 = 0) : (bif r7Ru1_l3_s21 (r7Ru1_l3_T.mk to (i : Int) q g gn false st) then List.set g (r7Ru1_l3_s31 (r7Ru1_l3_T.mk to (i : Int) q g gn false st)) [rget (r7Ru1_l3_s45 (r7Ru1_l3_T.mk to (i : Int) q g gn false st)) 0 0, rget (r7Ru1_l3_s45 (r7Ru1_l3_T.mk to (i : Int) q g gn false st)) 1 0, rget (r7Ru1_l3_s45 (r7Ru1_l3_T.mk to (i : Int) q g gn false st)) 2 0, rget (r7Ru1_l3_s45 (r7Ru1_l3_T.mk to (i : Int) q g gn false st)) 3 0] else g) = vSt1_2 (i : Int) g p ∧ Rg (vSt1_2 (i : Int) g p) ∧ (bif r7Ru1_l3_s46 (r7Ru1_l3_T.mk to (i : Int) q g gn false st) then true else gn) = vSt1_3 (i : Int) g gn p ∧ (bif r7Ru1_l3_s46 (r7Ru1_l3_T.mk to (i : Int) q g gn false st) then true else bif rget q (Int.toNat (i : Int)) 0 == 0 then true else false) = !vSt1_1 (i : Int) g p ∧ (vSt1_1 (i : Int) g p = true → (bif bif rget q (Int.toNat (i : Int)) 0 == 11 then r7Ru1_l3_s29 (r7Ru1_l3_T.mk to (i : Int) q g gn false st) else false then IntKind.wrap .i64 (r7Ru1_l3_s30 (r7Ru1_l3_T.mk to (i : Int) q g gn false st) + rget q (Int.toNat (i : Int)) 4) else r7Ru1_l3_s30 (r7Ru1_l3_T.mk to (i : Int) q g gn false st)) = vSt1_0 (i : Int) g p) := by
  have hp : rget p (Int.toNat (i : Int)) 0 = 0 := by rw [Int.toNat_natCast, hc]
  have hq : rget q (Int.toNat (i : Int)) 0 = 0 := by rw [qp E (by decide), hp]
  have r6 : r7Ru1_l3_s6 (r7Ru1_l3_T.mk to (i : Int) q g gn false st) = false := by
    show (rget q (Int.toNat (i : Int)) 0 == 1) = _
    rw [hq]; rfl
  have r7 : r7Ru1_l3_s7 (r7Ru1_l3_T.mk to (i : Int) q g gn false st) = false := by
    show (rget q (Int.toNat (i : Int)) 0 == 2) = _
    rw [hq]; rfl
  have r8 : r7Ru1_l3_s8 (r7Ru1_l3_T.mk to (i : Int) q g gn false st) = false := by
    show (rget q (Int.toNat (i : Int)) 0 == 8) = _
    rw [hq]; rfl
  have r9 : r7Ru1_l3_s9 (r7Ru1_l3_T.mk to (i : Int) q g gn false st) = false := by
    show (rget q (Int.toNat (i : Int)) 0 == 9) = _
    rw [hq]; rfl
  have r11 : r7Ru1_l3_s11 (r7Ru1_l3_T.mk to (i : Int) q g gn false st) = false := by
    show (rget q (Int.toNat (i : Int)) 0 == 10) = _
    rw [hq]; rfl
  have r13 : r7Ru1_l3_s13 (r7Ru1_l3_T.mk to (i : Int) q g gn false st) = false := by
    show (rget q (Int.toNat (i : Int)) 0 == 14) = _
    rw [hq]; rfl
  have r20 : r7Ru1_l3_s20 (r7Ru1_l3_T.mk to (i : Int) q g gn false st) = false := by
    show (bif decide (3 ≤ rget q (Int.toNat (i : Int)) 0) then decide (rget q (Int.toNat (i : Int)) 0 ≤ 7) else false) = _
    rw [hq]; rfl
  have r21 : r7Ru1_l3_s21 (r7Ru1_l3_T.mk to (i : Int) q g gn false st) = false := by
    unfold r7Ru1_l3_s21
    rw [r20, r6, r7, r8, r9, r11, r13]; rfl
  have v0 : vSt1_s0 (i : Int) p = true := by
    unfold vSt1_s0
    rw [hp]; rfl
  have v1 : vSt1_s1 (i : Int) p = false := by
    unfold vSt1_s1
    rw [hp]; rfl
  have v2 : vSt1_s2 (i : Int) p = false := by
    unfold vSt1_s2
    rw [hp]; rfl
  have v3 : vSt1_s3 (i : Int) p = false := by
    unfold vSt1_s3
    rw [hp]; rfl
  have v4 : vSt1_s4 (i : Int) p = false := by
    unfold vSt1_s4
    rw [hp]; rfl
  have v5 : vSt1_s5 (i : Int) p = false := by
    unfold vSt1_s5
    rw [hp]; rfl
  have v6 : vSt1_s6 (i : Int) p = false := by
    unfold vSt1_s6
    rw [hp]; rfl
  have v7 : vSt1_s7 (i : Int) p = false := by
    unfold vSt1_s7
    rw [hp]; rfl
  have v8 : vSt1_s8 (i : Int) p = false := by
    unfold vSt1_s8
    rw [hp]; rfl
  have v9 : vSt1_s9 (i : Int) p = false := by
    unfold vSt1_s9
    rw [hp]; rfl
  have v10 : vSt1_s10 (i : Int) p = false := by
    unfold vSt1_s10
    rw [hp]; rfl
  have v11 : vSt1_s11 (i : Int) p = false := by
    unfold vSt1_s11
    rw [hp]; rfl
  have v16 : vSt1_s16 (i : Int) p = false := by
    unfold vSt1_s16
    rw [hp]; rfl
  have v17 : vSt1_s17 (i : Int) p = false := by
    unfold vSt1_s17
    rw [hp]; rfl
  have v36 : vSt1_s36 (i : Int) p = false := by
    unfold vSt1_s36
    rw [hp]; rfl
  have v18 : vSt1_s18 (i : Int) g p = true := by
    unfold vSt1_s18
    rw [v0, v1, v2, v3, v4, v5, v6, v7, v8, v9, v10, v11, v16, v17]
    rfl
  have r29 : r7Ru1_l3_s29 (r7Ru1_l3_T.mk to (i : Int) q g gn false st) = vSt1_s15 (i : Int) g p := by
    unfold r7Ru1_l3_s29 vSt1_s15
    rw [xa0 E]
  have r46 : r7Ru1_l3_s46 (r7Ru1_l3_T.mk to (i : Int) q g gn false st) = false := by
    show (bif rget q (Int.toNat (i : Int)) 0 == 13 then r7Ru1_l3_s29 (r7Ru1_l3_T.mk to (i : Int) q g gn false st) else false) = _
    rw [hq, r29]; rfl
  have e2 : vSt1_2 (i : Int) g p = g := by
    unfold vSt1_2
    rw [v18, v1, v2, v3, v4, v5, v6, v7, v8, v9, v10, v11, v17, v36]
    rfl
  rw [r21, e2, r46, hq]
  refine ⟨rfl, R, ?_, ?_, ?_⟩
  · unfold vSt1_3
    rw [v18, v0]; rfl
  · unfold vSt1_1
    rw [v18, v0]; rfl
  · intro h
    unfold vSt1_1 at h
    rw [v18, v0] at h
    exact absurd (show false = true from h) (by decide)
theorem rs1 (hc : rget p i 0 = 1) : (bif r7Ru1_l3_s21 (r7Ru1_l3_T.mk to (i : Int) q g gn false st) then List.set g (r7Ru1_l3_s31 (r7Ru1_l3_T.mk to (i : Int) q g gn false st)) [rget (r7Ru1_l3_s45 (r7Ru1_l3_T.mk to (i : Int) q g gn false st)) 0 0, rget (r7Ru1_l3_s45 (r7Ru1_l3_T.mk to (i : Int) q g gn false st)) 1 0, rget (r7Ru1_l3_s45 (r7Ru1_l3_T.mk to (i : Int) q g gn false st)) 2 0, rget (r7Ru1_l3_s45 (r7Ru1_l3_T.mk to (i : Int) q g gn false st)) 3 0] else g) = vSt1_2 (i : Int) g p ∧ Rg (vSt1_2 (i : Int) g p) ∧ (bif r7Ru1_l3_s46 (r7Ru1_l3_T.mk to (i : Int) q g gn false st) then true else gn) = vSt1_3 (i : Int) g gn p ∧ (bif r7Ru1_l3_s46 (r7Ru1_l3_T.mk to (i : Int) q g gn false st) then true else bif rget q (Int.toNat (i : Int)) 0 == 0 then true else false) = !vSt1_1 (i : Int) g p ∧ (vSt1_1 (i : Int) g p = true → (bif bif rget q (Int.toNat (i : Int)) 0 == 11 then r7Ru1_l3_s29 (r7Ru1_l3_T.mk to (i : Int) q g gn false st) else false then IntKind.wrap .i64 (r7Ru1_l3_s30 (r7Ru1_l3_T.mk to (i : Int) q g gn false st) + rget q (Int.toNat (i : Int)) 4) else r7Ru1_l3_s30 (r7Ru1_l3_T.mk to (i : Int) q g gn false st)) = vSt1_0 (i : Int) g p) := by
  have hp : rget p (Int.toNat (i : Int)) 0 = 1 := by rw [Int.toNat_natCast, hc]
  have hq : rget q (Int.toNat (i : Int)) 0 = 1 := by rw [qp E (by decide), hp]
  have r6 : r7Ru1_l3_s6 (r7Ru1_l3_T.mk to (i : Int) q g gn false st) = true := by
    show (rget q (Int.toNat (i : Int)) 0 == 1) = _
    rw [hq]; rfl
  have r7 : r7Ru1_l3_s7 (r7Ru1_l3_T.mk to (i : Int) q g gn false st) = false := by
    show (rget q (Int.toNat (i : Int)) 0 == 2) = _
    rw [hq]; rfl
  have r8 : r7Ru1_l3_s8 (r7Ru1_l3_T.mk to (i : Int) q g gn false st) = false := by
    show (rget q (Int.toNat (i : Int)) 0 == 8) = _
    rw [hq]; rfl
  have r9 : r7Ru1_l3_s9 (r7Ru1_l3_T.mk to (i : Int) q g gn false st) = false := by
    show (rget q (Int.toNat (i : Int)) 0 == 9) = _
    rw [hq]; rfl
  have r11 : r7Ru1_l3_s11 (r7Ru1_l3_T.mk to (i : Int) q g gn false st) = false := by
    show (rget q (Int.toNat (i : Int)) 0 == 10) = _
    rw [hq]; rfl
  have r13 : r7Ru1_l3_s13 (r7Ru1_l3_T.mk to (i : Int) q g gn false st) = false := by
    show (rget q (Int.toNat (i : Int)) 0 == 14) = _
    rw [hq]; rfl
  have r20 : r7Ru1_l3_s20 (r7Ru1_l3_T.mk to (i : Int) q g gn false st) = false := by
    show (bif decide (3 ≤ rget q (Int.toNat (i : Int)) 0) then decide (rget q (Int.toNat (i : Int)) 0 ≤ 7) else false) = _
    rw [hq]; rfl
  have r21 : r7Ru1_l3_s21 (r7Ru1_l3_T.mk to (i : Int) q g gn false st) = true := by
    unfold r7Ru1_l3_s21
    rw [r20, r6, r7, r8, r9, r11, r13]; rfl
  have v0 : vSt1_s0 (i : Int) p = false := by
    unfold vSt1_s0
    rw [hp]; rfl
  have v1 : vSt1_s1 (i : Int) p = true := by
    unfold vSt1_s1
    rw [hp]; rfl
  have v2 : vSt1_s2 (i : Int) p = false := by
    unfold vSt1_s2
    rw [hp]; rfl
  have v3 : vSt1_s3 (i : Int) p = false := by
    unfold vSt1_s3
    rw [hp]; rfl
  have v4 : vSt1_s4 (i : Int) p = false := by
    unfold vSt1_s4
    rw [hp]; rfl
  have v5 : vSt1_s5 (i : Int) p = false := by
    unfold vSt1_s5
    rw [hp]; rfl
  have v6 : vSt1_s6 (i : Int) p = false := by
    unfold vSt1_s6
    rw [hp]; rfl
  have v7 : vSt1_s7 (i : Int) p = false := by
    unfold vSt1_s7
    rw [hp]; rfl
  have v8 : vSt1_s8 (i : Int) p = false := by
    unfold vSt1_s8
    rw [hp]; rfl
  have v9 : vSt1_s9 (i : Int) p = false := by
    unfold vSt1_s9
    rw [hp]; rfl
  have v10 : vSt1_s10 (i : Int) p = false := by
    unfold vSt1_s10
    rw [hp]; rfl
  have v11 : vSt1_s11 (i : Int) p = false := by
    unfold vSt1_s11
    rw [hp]; rfl
  have v16 : vSt1_s16 (i : Int) p = false := by
    unfold vSt1_s16
    rw [hp]; rfl
  have v17 : vSt1_s17 (i : Int) p = false := by
    unfold vSt1_s17
    rw [hp]; rfl
  have v36 : vSt1_s36 (i : Int) p = false := by
    unfold vSt1_s36
    rw [hp]; rfl
  have v18 : vSt1_s18 (i : Int) g p = false := by
    unfold vSt1_s18
    rw [v0, v1, v2, v3, v4, v5, v6, v7, v8, v9, v10, v11, v16, v17]
    rfl
  have r29 : r7Ru1_l3_s29 (r7Ru1_l3_T.mk to (i : Int) q g gn false st) = vSt1_s15 (i : Int) g p := by
    unfold r7Ru1_l3_s29 vSt1_s15
    rw [xa0 E]
  have r46 : r7Ru1_l3_s46 (r7Ru1_l3_T.mk to (i : Int) q g gn false st) = false := by
    show (bif rget q (Int.toNat (i : Int)) 0 == 13 then r7Ru1_l3_s29 (r7Ru1_l3_T.mk to (i : Int) q g gn false st) else false) = _
    rw [hq, r29]; rfl
  have e2 : vSt1_2 (i : Int) g p = g.set (Int.toNat (rget p (Int.toNat (i : Int)) 1)) [vSt1_s12 (i : Int) g p, vSt1_s20 (i : Int) g p, vSt1_s21 (i : Int) g p, vSt1_s22 (i : Int) g p] := by
    unfold vSt1_2
    rw [v18, v1, v2, v3, v4, v5, v6, v7, v8, v9, v10, v11, v17, v36]; rfl
  have e4 : [rget (r7Ru1_l3_s45 (r7Ru1_l3_T.mk to (i : Int) q g gn false st)) 0 0, rget (r7Ru1_l3_s45 (r7Ru1_l3_T.mk to (i : Int) q g gn false st)) 1 0, rget (r7Ru1_l3_s45 (r7Ru1_l3_T.mk to (i : Int) q g gn false st)) 2 0, rget (r7Ru1_l3_s45 (r7Ru1_l3_T.mk to (i : Int) q g gn false st)) 3 0] = [vSt1_s12 (i : Int) g p, vSt1_s20 (i : Int) g p, vSt1_s21 (i : Int) g p, vSt1_s22 (i : Int) g p] ∧ Rg (g.set (Int.toNat (rget p (Int.toNat (i : Int)) 1)) [vSt1_s12 (i : Int) g p, vSt1_s20 (i : Int) g p, vSt1_s21 (i : Int) g p, vSt1_s22 (i : Int) g p]) := by
    unfold r7Ru1_l3_s45 r7Ru1_l3_s44
    rw [r20, r6, r7, r8, r9, r11, r13]
    refine ⟨?_, R.set (ia0 R) (ia1 R) (ia2 R) (ia3 R)⟩
    show [r7Ru1_l3_s24 (r7Ru1_l3_T.mk to (i : Int) q g gn false st), r7Ru1_l3_s32 (r7Ru1_l3_T.mk to (i : Int) q g gn false st), r7Ru1_l3_s33 (r7Ru1_l3_T.mk to (i : Int) q g gn false st), r7Ru1_l3_s34 (r7Ru1_l3_T.mk to (i : Int) q g gn false st)] = _
    rw [xa0 E, xa1 E, xa2 E, xa3 E]
  rw [r21, x31 E, r46, hq, e4.1, e2]
  refine ⟨rfl, e4.2, ?_, ?_, ?_⟩
  · unfold vSt1_3
    rw [v18]; rfl
  · unfold vSt1_1
    rw [v18]; rfl
  · intro _
    unfold vSt1_0
    rw [v18]; rfl
theorem rs2 (hc : rget p i 0 = 2) : (bif r7Ru1_l3_s21 (r7Ru1_l3_T.mk to (i : Int) q g gn false st) then List.set g (r7Ru1_l3_s31 (r7Ru1_l3_T.mk to (i : Int) q g gn false st)) [rget (r7Ru1_l3_s45 (r7Ru1_l3_T.mk to (i : Int) q g gn false st)) 0 0, rget (r7Ru1_l3_s45 (r7Ru1_l3_T.mk to (i : Int) q g gn false st)) 1 0, rget (r7Ru1_l3_s45 (r7Ru1_l3_T.mk to (i : Int) q g gn false st)) 2 0, rget (r7Ru1_l3_s45 (r7Ru1_l3_T.mk to (i : Int) q g gn false st)) 3 0] else g) = vSt1_2 (i : Int) g p ∧ Rg (vSt1_2 (i : Int) g p) ∧ (bif r7Ru1_l3_s46 (r7Ru1_l3_T.mk to (i : Int) q g gn false st) then true else gn) = vSt1_3 (i : Int) g gn p ∧ (bif r7Ru1_l3_s46 (r7Ru1_l3_T.mk to (i : Int) q g gn false st) then true else bif rget q (Int.toNat (i : Int)) 0 == 0 then true else false) = !vSt1_1 (i : Int) g p ∧ (vSt1_1 (i : Int) g p = true → (bif bif rget q (Int.toNat (i : Int)) 0 == 11 then r7Ru1_l3_s29 (r7Ru1_l3_T.mk to (i : Int) q g gn false st) else false then IntKind.wrap .i64 (r7Ru1_l3_s30 (r7Ru1_l3_T.mk to (i : Int) q g gn false st) + rget q (Int.toNat (i : Int)) 4) else r7Ru1_l3_s30 (r7Ru1_l3_T.mk to (i : Int) q g gn false st)) = vSt1_0 (i : Int) g p) := by
  have hp : rget p (Int.toNat (i : Int)) 0 = 2 := by rw [Int.toNat_natCast, hc]
  have hq : rget q (Int.toNat (i : Int)) 0 = 2 := by rw [qp E (by decide), hp]
  have r6 : r7Ru1_l3_s6 (r7Ru1_l3_T.mk to (i : Int) q g gn false st) = false := by
    show (rget q (Int.toNat (i : Int)) 0 == 1) = _
    rw [hq]; rfl
  have r7 : r7Ru1_l3_s7 (r7Ru1_l3_T.mk to (i : Int) q g gn false st) = true := by
    show (rget q (Int.toNat (i : Int)) 0 == 2) = _
    rw [hq]; rfl
  have r8 : r7Ru1_l3_s8 (r7Ru1_l3_T.mk to (i : Int) q g gn false st) = false := by
    show (rget q (Int.toNat (i : Int)) 0 == 8) = _
    rw [hq]; rfl
  have r9 : r7Ru1_l3_s9 (r7Ru1_l3_T.mk to (i : Int) q g gn false st) = false := by
    show (rget q (Int.toNat (i : Int)) 0 == 9) = _
    rw [hq]; rfl
  have r11 : r7Ru1_l3_s11 (r7Ru1_l3_T.mk to (i : Int) q g gn false st) = false := by
    show (rget q (Int.toNat (i : Int)) 0 == 10) = _
    rw [hq]; rfl
  have r13 : r7Ru1_l3_s13 (r7Ru1_l3_T.mk to (i : Int) q g gn false st) = false := by
    show (rget q (Int.toNat (i : Int)) 0 == 14) = _
    rw [hq]; rfl
  have r20 : r7Ru1_l3_s20 (r7Ru1_l3_T.mk to (i : Int) q g gn false st) = false := by
    show (bif decide (3 ≤ rget q (Int.toNat (i : Int)) 0) then decide (rget q (Int.toNat (i : Int)) 0 ≤ 7) else false) = _
    rw [hq]; rfl
  have r21 : r7Ru1_l3_s21 (r7Ru1_l3_T.mk to (i : Int) q g gn false st) = true := by
    unfold r7Ru1_l3_s21
    rw [r20, r6, r7, r8, r9, r11, r13]; rfl
  have v0 : vSt1_s0 (i : Int) p = false := by
    unfold vSt1_s0
    rw [hp]; rfl
  have v1 : vSt1_s1 (i : Int) p = false := by
    unfold vSt1_s1
    rw [hp]; rfl
  have v2 : vSt1_s2 (i : Int) p = true := by
    unfold vSt1_s2
    rw [hp]; rfl
  have v3 : vSt1_s3 (i : Int) p = false := by
    unfold vSt1_s3
    rw [hp]; rfl
  have v4 : vSt1_s4 (i : Int) p = false := by
    unfold vSt1_s4
    rw [hp]; rfl
  have v5 : vSt1_s5 (i : Int) p = false := by
    unfold vSt1_s5
    rw [hp]; rfl
  have v6 : vSt1_s6 (i : Int) p = false := by
    unfold vSt1_s6
    rw [hp]; rfl
  have v7 : vSt1_s7 (i : Int) p = false := by
    unfold vSt1_s7
    rw [hp]; rfl
  have v8 : vSt1_s8 (i : Int) p = false := by
    unfold vSt1_s8
    rw [hp]; rfl
  have v9 : vSt1_s9 (i : Int) p = false := by
    unfold vSt1_s9
    rw [hp]; rfl
  have v10 : vSt1_s10 (i : Int) p = false := by
    unfold vSt1_s10
    rw [hp]; rfl
  have v11 : vSt1_s11 (i : Int) p = false := by
    unfold vSt1_s11
    rw [hp]; rfl
  have v16 : vSt1_s16 (i : Int) p = false := by
    unfold vSt1_s16
    rw [hp]; rfl
  have v17 : vSt1_s17 (i : Int) p = false := by
    unfold vSt1_s17
    rw [hp]; rfl
  have v36 : vSt1_s36 (i : Int) p = false := by
    unfold vSt1_s36
    rw [hp]; rfl
  have v18 : vSt1_s18 (i : Int) g p = false := by
    unfold vSt1_s18
    rw [v0, v1, v2, v3, v4, v5, v6, v7, v8, v9, v10, v11, v16, v17]
    rfl
  have r29 : r7Ru1_l3_s29 (r7Ru1_l3_T.mk to (i : Int) q g gn false st) = vSt1_s15 (i : Int) g p := by
    unfold r7Ru1_l3_s29 vSt1_s15
    rw [xa0 E]
  have r46 : r7Ru1_l3_s46 (r7Ru1_l3_T.mk to (i : Int) q g gn false st) = false := by
    show (bif rget q (Int.toNat (i : Int)) 0 == 13 then r7Ru1_l3_s29 (r7Ru1_l3_T.mk to (i : Int) q g gn false st) else false) = _
    rw [hq, r29]; rfl
  have e2 : vSt1_2 (i : Int) g p = g.set (Int.toNat (rget p (Int.toNat (i : Int)) 1)) [vSt1_s24 (i : Int) p, vSt1_s24 (i : Int) p, vSt1_s24 (i : Int) p, vSt1_s24 (i : Int) p] := by
    unfold vSt1_2
    rw [v18, v1, v2, v3, v4, v5, v6, v7, v8, v9, v10, v11, v17, v36]; rfl
  have e4 : [rget (r7Ru1_l3_s45 (r7Ru1_l3_T.mk to (i : Int) q g gn false st)) 0 0, rget (r7Ru1_l3_s45 (r7Ru1_l3_T.mk to (i : Int) q g gn false st)) 1 0, rget (r7Ru1_l3_s45 (r7Ru1_l3_T.mk to (i : Int) q g gn false st)) 2 0, rget (r7Ru1_l3_s45 (r7Ru1_l3_T.mk to (i : Int) q g gn false st)) 3 0] = [vSt1_s24 (i : Int) p, vSt1_s24 (i : Int) p, vSt1_s24 (i : Int) p, vSt1_s24 (i : Int) p] ∧ Rg (g.set (Int.toNat (rget p (Int.toNat (i : Int)) 1)) [vSt1_s24 (i : Int) p, vSt1_s24 (i : Int) p, vSt1_s24 (i : Int) p, vSt1_s24 (i : Int) p]) := by
    have bm := B.m i
    have w : IntKind.wrap .i64 (rget q (Int.toNat (i : Int)) 4 * 256) = vSt1_s24 (i : Int) p ∧ In (vSt1_s24 (i : Int) p) := by
      unfold vSt1_s24
      rw [qp E (by decide), gI, w64_in (n := rget p i 4) (by omega) (by omega), show (2 : Int) ^ min (Int.toNat 8) (IntKind.bits .i64) = 256 by decide]
      refine ⟨rfl, ?_⟩
      rw [w64_in (by omega) (by omega)]
      unfold In; omega
    unfold r7Ru1_l3_s45 r7Ru1_l3_s44
    rw [r20, r6, r7, r8, r9, r11, r13]
    refine ⟨?_, R.set w.2 w.2 w.2 w.2⟩
    show [IntKind.wrap .i64 (rget q (Int.toNat (i : Int)) 4 * 256), IntKind.wrap .i64 (rget q (Int.toNat (i : Int)) 4 * 256), IntKind.wrap .i64 (rget q (Int.toNat (i : Int)) 4 * 256), IntKind.wrap .i64 (rget q (Int.toNat (i : Int)) 4 * 256)] = _
    rw [w.1]
  rw [r21, x31 E, r46, hq, e4.1, e2]
  refine ⟨rfl, e4.2, ?_, ?_, ?_⟩
  · unfold vSt1_3
    rw [v18]; rfl
  · unfold vSt1_1
    rw [v18]; rfl
  · intro _
    unfold vSt1_0
    rw [v18]; rfl
theorem rs3 (hc : rget p i 0 = 3) : (bif r7Ru1_l3_s21 (r7Ru1_l3_T.mk to (i : Int) q g gn false st) then List.set g (r7Ru1_l3_s31 (r7Ru1_l3_T.mk to (i : Int) q g gn false st)) [rget (r7Ru1_l3_s45 (r7Ru1_l3_T.mk to (i : Int) q g gn false st)) 0 0, rget (r7Ru1_l3_s45 (r7Ru1_l3_T.mk to (i : Int) q g gn false st)) 1 0, rget (r7Ru1_l3_s45 (r7Ru1_l3_T.mk to (i : Int) q g gn false st)) 2 0, rget (r7Ru1_l3_s45 (r7Ru1_l3_T.mk to (i : Int) q g gn false st)) 3 0] else g) = vSt1_2 (i : Int) g p ∧ Rg (vSt1_2 (i : Int) g p) ∧ (bif r7Ru1_l3_s46 (r7Ru1_l3_T.mk to (i : Int) q g gn false st) then true else gn) = vSt1_3 (i : Int) g gn p ∧ (bif r7Ru1_l3_s46 (r7Ru1_l3_T.mk to (i : Int) q g gn false st) then true else bif rget q (Int.toNat (i : Int)) 0 == 0 then true else false) = !vSt1_1 (i : Int) g p ∧ (vSt1_1 (i : Int) g p = true → (bif bif rget q (Int.toNat (i : Int)) 0 == 11 then r7Ru1_l3_s29 (r7Ru1_l3_T.mk to (i : Int) q g gn false st) else false then IntKind.wrap .i64 (r7Ru1_l3_s30 (r7Ru1_l3_T.mk to (i : Int) q g gn false st) + rget q (Int.toNat (i : Int)) 4) else r7Ru1_l3_s30 (r7Ru1_l3_T.mk to (i : Int) q g gn false st)) = vSt1_0 (i : Int) g p) := by
  have hp : rget p (Int.toNat (i : Int)) 0 = 3 := by rw [Int.toNat_natCast, hc]
  have hq : rget q (Int.toNat (i : Int)) 0 = 3 := by rw [qp E (by decide), hp]
  have r6 : r7Ru1_l3_s6 (r7Ru1_l3_T.mk to (i : Int) q g gn false st) = false := by
    show (rget q (Int.toNat (i : Int)) 0 == 1) = _
    rw [hq]; rfl
  have r7 : r7Ru1_l3_s7 (r7Ru1_l3_T.mk to (i : Int) q g gn false st) = false := by
    show (rget q (Int.toNat (i : Int)) 0 == 2) = _
    rw [hq]; rfl
  have r8 : r7Ru1_l3_s8 (r7Ru1_l3_T.mk to (i : Int) q g gn false st) = false := by
    show (rget q (Int.toNat (i : Int)) 0 == 8) = _
    rw [hq]; rfl
  have r9 : r7Ru1_l3_s9 (r7Ru1_l3_T.mk to (i : Int) q g gn false st) = false := by
    show (rget q (Int.toNat (i : Int)) 0 == 9) = _
    rw [hq]; rfl
  have r11 : r7Ru1_l3_s11 (r7Ru1_l3_T.mk to (i : Int) q g gn false st) = false := by
    show (rget q (Int.toNat (i : Int)) 0 == 10) = _
    rw [hq]; rfl
  have r13 : r7Ru1_l3_s13 (r7Ru1_l3_T.mk to (i : Int) q g gn false st) = false := by
    show (rget q (Int.toNat (i : Int)) 0 == 14) = _
    rw [hq]; rfl
  have r20 : r7Ru1_l3_s20 (r7Ru1_l3_T.mk to (i : Int) q g gn false st) = true := by
    show (bif decide (3 ≤ rget q (Int.toNat (i : Int)) 0) then decide (rget q (Int.toNat (i : Int)) 0 ≤ 7) else false) = _
    rw [hq]; rfl
  have r21 : r7Ru1_l3_s21 (r7Ru1_l3_T.mk to (i : Int) q g gn false st) = true := by
    unfold r7Ru1_l3_s21
    rw [r20, r6, r7, r8, r9, r11, r13]; rfl
  have v0 : vSt1_s0 (i : Int) p = false := by
    unfold vSt1_s0
    rw [hp]; rfl
  have v1 : vSt1_s1 (i : Int) p = false := by
    unfold vSt1_s1
    rw [hp]; rfl
  have v2 : vSt1_s2 (i : Int) p = false := by
    unfold vSt1_s2
    rw [hp]; rfl
  have v3 : vSt1_s3 (i : Int) p = true := by
    unfold vSt1_s3
    rw [hp]; rfl
  have v4 : vSt1_s4 (i : Int) p = false := by
    unfold vSt1_s4
    rw [hp]; rfl
  have v5 : vSt1_s5 (i : Int) p = false := by
    unfold vSt1_s5
    rw [hp]; rfl
  have v6 : vSt1_s6 (i : Int) p = false := by
    unfold vSt1_s6
    rw [hp]; rfl
  have v7 : vSt1_s7 (i : Int) p = false := by
    unfold vSt1_s7
    rw [hp]; rfl
  have v8 : vSt1_s8 (i : Int) p = false := by
    unfold vSt1_s8
    rw [hp]; rfl
  have v9 : vSt1_s9 (i : Int) p = false := by
    unfold vSt1_s9
    rw [hp]; rfl
  have v10 : vSt1_s10 (i : Int) p = false := by
    unfold vSt1_s10
    rw [hp]; rfl
  have v11 : vSt1_s11 (i : Int) p = false := by
    unfold vSt1_s11
    rw [hp]; rfl
  have v16 : vSt1_s16 (i : Int) p = false := by
    unfold vSt1_s16
    rw [hp]; rfl
  have v17 : vSt1_s17 (i : Int) p = false := by
    unfold vSt1_s17
    rw [hp]; rfl
  have v36 : vSt1_s36 (i : Int) p = false := by
    unfold vSt1_s36
    rw [hp]; rfl
  have v18 : vSt1_s18 (i : Int) g p = false := by
    unfold vSt1_s18
    rw [v0, v1, v2, v3, v4, v5, v6, v7, v8, v9, v10, v11, v16, v17]
    rfl
  have r29 : r7Ru1_l3_s29 (r7Ru1_l3_T.mk to (i : Int) q g gn false st) = vSt1_s15 (i : Int) g p := by
    unfold r7Ru1_l3_s29 vSt1_s15
    rw [xa0 E]
  have r46 : r7Ru1_l3_s46 (r7Ru1_l3_T.mk to (i : Int) q g gn false st) = false := by
    show (bif rget q (Int.toNat (i : Int)) 0 == 13 then r7Ru1_l3_s29 (r7Ru1_l3_T.mk to (i : Int) q g gn false st) else false) = _
    rw [hq, r29]; rfl
  have e2 : vSt1_2 (i : Int) g p = g.set (Int.toNat (rget p (Int.toNat (i : Int)) 1)) [fAd_0 (vSt1_s12 (i : Int) g p) (vSt1_s26 (i : Int) g p), fAd_0 (vSt1_s20 (i : Int) g p) (vSt1_s27 (i : Int) g p), fAd_0 (vSt1_s21 (i : Int) g p) (vSt1_s28 (i : Int) g p), fAd_0 (vSt1_s22 (i : Int) g p) (vSt1_s29 (i : Int) g p)] := by
    unfold vSt1_2
    rw [v18, v1, v2, v3, v4, v5, v6, v7, v8, v9, v10, v11, v17, v36]; rfl
  have e4 : [rget (r7Ru1_l3_s45 (r7Ru1_l3_T.mk to (i : Int) q g gn false st)) 0 0, rget (r7Ru1_l3_s45 (r7Ru1_l3_T.mk to (i : Int) q g gn false st)) 1 0, rget (r7Ru1_l3_s45 (r7Ru1_l3_T.mk to (i : Int) q g gn false st)) 2 0, rget (r7Ru1_l3_s45 (r7Ru1_l3_T.mk to (i : Int) q g gn false st)) 3 0] = [fAd_0 (vSt1_s12 (i : Int) g p) (vSt1_s26 (i : Int) g p), fAd_0 (vSt1_s20 (i : Int) g p) (vSt1_s27 (i : Int) g p), fAd_0 (vSt1_s21 (i : Int) g p) (vSt1_s28 (i : Int) g p), fAd_0 (vSt1_s22 (i : Int) g p) (vSt1_s29 (i : Int) g p)] ∧ Rg (g.set (Int.toNat (rget p (Int.toNat (i : Int)) 1)) [fAd_0 (vSt1_s12 (i : Int) g p) (vSt1_s26 (i : Int) g p), fAd_0 (vSt1_s20 (i : Int) g p) (vSt1_s27 (i : Int) g p), fAd_0 (vSt1_s21 (i : Int) g p) (vSt1_s28 (i : Int) g p), fAd_0 (vSt1_s22 (i : Int) g p) (vSt1_s29 (i : Int) g p)]) := by
    unfold r7Ru1_l3_s45 r7Ru1_l3_s44
    rw [r20, r6, r7, r8, r9, r11, r13]
    refine ⟨?_, R.set (by rw [add_eq]; exact add_in _ _) (by rw [add_eq]; exact add_in _ _) (by rw [add_eq]; exact add_in _ _) (by rw [add_eq]; exact add_in _ _)⟩
    show [r7n_0 (rget q (Int.toNat (i : Int)) 0) (r7Ru1_l3_s24 (r7Ru1_l3_T.mk to (i : Int) q g gn false st)) (r7Ru1_l3_s38 (r7Ru1_l3_T.mk to (i : Int) q g gn false st)), r7n_0 (rget q (Int.toNat (i : Int)) 0) (r7Ru1_l3_s32 (r7Ru1_l3_T.mk to (i : Int) q g gn false st)) (r7Ru1_l3_s39 (r7Ru1_l3_T.mk to (i : Int) q g gn false st)), r7n_0 (rget q (Int.toNat (i : Int)) 0) (r7Ru1_l3_s33 (r7Ru1_l3_T.mk to (i : Int) q g gn false st)) (r7Ru1_l3_s40 (r7Ru1_l3_T.mk to (i : Int) q g gn false st)), r7n_0 (rget q (Int.toNat (i : Int)) 0) (r7Ru1_l3_s34 (r7Ru1_l3_T.mk to (i : Int) q g gn false st)) (r7Ru1_l3_s41 (r7Ru1_l3_T.mk to (i : Int) q g gn false st))] = _
    rw [hq, xa0 E, xa1 E, xa2 E, xa3 E, xb0 E, xb1 E, xb2 E, xb3 E]
    rw [add_eq, add_eq, add_eq, add_eq]
    try rfl
  rw [r21, x31 E, r46, hq, e4.1, e2]
  refine ⟨rfl, e4.2, ?_, ?_, ?_⟩
  · unfold vSt1_3
    rw [v18]; rfl
  · unfold vSt1_1
    rw [v18]; rfl
  · intro _
    unfold vSt1_0
    rw [v18]; rfl
theorem rs4 (hc : rget p i 0 = 4) : (bif r7Ru1_l3_s21 (r7Ru1_l3_T.mk to (i : Int) q g gn false st) then List.set g (r7Ru1_l3_s31 (r7Ru1_l3_T.mk to (i : Int) q g gn false st)) [rget (r7Ru1_l3_s45 (r7Ru1_l3_T.mk to (i : Int) q g gn false st)) 0 0, rget (r7Ru1_l3_s45 (r7Ru1_l3_T.mk to (i : Int) q g gn false st)) 1 0, rget (r7Ru1_l3_s45 (r7Ru1_l3_T.mk to (i : Int) q g gn false st)) 2 0, rget (r7Ru1_l3_s45 (r7Ru1_l3_T.mk to (i : Int) q g gn false st)) 3 0] else g) = vSt1_2 (i : Int) g p ∧ Rg (vSt1_2 (i : Int) g p) ∧ (bif r7Ru1_l3_s46 (r7Ru1_l3_T.mk to (i : Int) q g gn false st) then true else gn) = vSt1_3 (i : Int) g gn p ∧ (bif r7Ru1_l3_s46 (r7Ru1_l3_T.mk to (i : Int) q g gn false st) then true else bif rget q (Int.toNat (i : Int)) 0 == 0 then true else false) = !vSt1_1 (i : Int) g p ∧ (vSt1_1 (i : Int) g p = true → (bif bif rget q (Int.toNat (i : Int)) 0 == 11 then r7Ru1_l3_s29 (r7Ru1_l3_T.mk to (i : Int) q g gn false st) else false then IntKind.wrap .i64 (r7Ru1_l3_s30 (r7Ru1_l3_T.mk to (i : Int) q g gn false st) + rget q (Int.toNat (i : Int)) 4) else r7Ru1_l3_s30 (r7Ru1_l3_T.mk to (i : Int) q g gn false st)) = vSt1_0 (i : Int) g p) := by
  have hp : rget p (Int.toNat (i : Int)) 0 = 4 := by rw [Int.toNat_natCast, hc]
  have hq : rget q (Int.toNat (i : Int)) 0 = 4 := by rw [qp E (by decide), hp]
  have r6 : r7Ru1_l3_s6 (r7Ru1_l3_T.mk to (i : Int) q g gn false st) = false := by
    show (rget q (Int.toNat (i : Int)) 0 == 1) = _
    rw [hq]; rfl
  have r7 : r7Ru1_l3_s7 (r7Ru1_l3_T.mk to (i : Int) q g gn false st) = false := by
    show (rget q (Int.toNat (i : Int)) 0 == 2) = _
    rw [hq]; rfl
  have r8 : r7Ru1_l3_s8 (r7Ru1_l3_T.mk to (i : Int) q g gn false st) = false := by
    show (rget q (Int.toNat (i : Int)) 0 == 8) = _
    rw [hq]; rfl
  have r9 : r7Ru1_l3_s9 (r7Ru1_l3_T.mk to (i : Int) q g gn false st) = false := by
    show (rget q (Int.toNat (i : Int)) 0 == 9) = _
    rw [hq]; rfl
  have r11 : r7Ru1_l3_s11 (r7Ru1_l3_T.mk to (i : Int) q g gn false st) = false := by
    show (rget q (Int.toNat (i : Int)) 0 == 10) = _
    rw [hq]; rfl
  have r13 : r7Ru1_l3_s13 (r7Ru1_l3_T.mk to (i : Int) q g gn false st) = false := by
    show (rget q (Int.toNat (i : Int)) 0 == 14) = _
    rw [hq]; rfl
  have r20 : r7Ru1_l3_s20 (r7Ru1_l3_T.mk to (i : Int) q g gn false st) = true := by
    show (bif decide (3 ≤ rget q (Int.toNat (i : Int)) 0) then decide (rget q (Int.toNat (i : Int)) 0 ≤ 7) else false) = _
    rw [hq]; rfl
  have r21 : r7Ru1_l3_s21 (r7Ru1_l3_T.mk to (i : Int) q g gn false st) = true := by
    unfold r7Ru1_l3_s21
    rw [r20, r6, r7, r8, r9, r11, r13]; rfl
  have v0 : vSt1_s0 (i : Int) p = false := by
    unfold vSt1_s0
    rw [hp]; rfl
  have v1 : vSt1_s1 (i : Int) p = false := by
    unfold vSt1_s1
    rw [hp]; rfl
  have v2 : vSt1_s2 (i : Int) p = false := by
    unfold vSt1_s2
    rw [hp]; rfl
  have v3 : vSt1_s3 (i : Int) p = false := by
    unfold vSt1_s3
    rw [hp]; rfl
  have v4 : vSt1_s4 (i : Int) p = true := by
    unfold vSt1_s4
    rw [hp]; rfl
  have v5 : vSt1_s5 (i : Int) p = false := by
    unfold vSt1_s5
    rw [hp]; rfl
  have v6 : vSt1_s6 (i : Int) p = false := by
    unfold vSt1_s6
    rw [hp]; rfl
  have v7 : vSt1_s7 (i : Int) p = false := by
    unfold vSt1_s7
    rw [hp]; rfl
  have v8 : vSt1_s8 (i : Int) p = false := by
    unfold vSt1_s8
    rw [hp]; rfl
  have v9 : vSt1_s9 (i : Int) p = false := by
    unfold vSt1_s9
    rw [hp]; rfl
  have v10 : vSt1_s10 (i : Int) p = false := by
    unfold vSt1_s10
    rw [hp]; rfl
  have v11 : vSt1_s11 (i : Int) p = false := by
    unfold vSt1_s11
    rw [hp]; rfl
  have v16 : vSt1_s16 (i : Int) p = false := by
    unfold vSt1_s16
    rw [hp]; rfl
  have v17 : vSt1_s17 (i : Int) p = false := by
    unfold vSt1_s17
    rw [hp]; rfl
  have v36 : vSt1_s36 (i : Int) p = false := by
    unfold vSt1_s36
    rw [hp]; rfl
  have v18 : vSt1_s18 (i : Int) g p = false := by
    unfold vSt1_s18
    rw [v0, v1, v2, v3, v4, v5, v6, v7, v8, v9, v10, v11, v16, v17]
    rfl
  have r29 : r7Ru1_l3_s29 (r7Ru1_l3_T.mk to (i : Int) q g gn false st) = vSt1_s15 (i : Int) g p := by
    unfold r7Ru1_l3_s29 vSt1_s15
    rw [xa0 E]
  have r46 : r7Ru1_l3_s46 (r7Ru1_l3_T.mk to (i : Int) q g gn false st) = false := by
    show (bif rget q (Int.toNat (i : Int)) 0 == 13 then r7Ru1_l3_s29 (r7Ru1_l3_T.mk to (i : Int) q g gn false st) else false) = _
    rw [hq, r29]; rfl
  have e2 : vSt1_2 (i : Int) g p = g.set (Int.toNat (rget p (Int.toNat (i : Int)) 1)) [fSu_0 (vSt1_s12 (i : Int) g p) (vSt1_s26 (i : Int) g p), fSu_0 (vSt1_s20 (i : Int) g p) (vSt1_s27 (i : Int) g p), fSu_0 (vSt1_s21 (i : Int) g p) (vSt1_s28 (i : Int) g p), fSu_0 (vSt1_s22 (i : Int) g p) (vSt1_s29 (i : Int) g p)] := by
    unfold vSt1_2
    rw [v18, v1, v2, v3, v4, v5, v6, v7, v8, v9, v10, v11, v17, v36]; rfl
  have e4 : [rget (r7Ru1_l3_s45 (r7Ru1_l3_T.mk to (i : Int) q g gn false st)) 0 0, rget (r7Ru1_l3_s45 (r7Ru1_l3_T.mk to (i : Int) q g gn false st)) 1 0, rget (r7Ru1_l3_s45 (r7Ru1_l3_T.mk to (i : Int) q g gn false st)) 2 0, rget (r7Ru1_l3_s45 (r7Ru1_l3_T.mk to (i : Int) q g gn false st)) 3 0] = [fSu_0 (vSt1_s12 (i : Int) g p) (vSt1_s26 (i : Int) g p), fSu_0 (vSt1_s20 (i : Int) g p) (vSt1_s27 (i : Int) g p), fSu_0 (vSt1_s21 (i : Int) g p) (vSt1_s28 (i : Int) g p), fSu_0 (vSt1_s22 (i : Int) g p) (vSt1_s29 (i : Int) g p)] ∧ Rg (g.set (Int.toNat (rget p (Int.toNat (i : Int)) 1)) [fSu_0 (vSt1_s12 (i : Int) g p) (vSt1_s26 (i : Int) g p), fSu_0 (vSt1_s20 (i : Int) g p) (vSt1_s27 (i : Int) g p), fSu_0 (vSt1_s21 (i : Int) g p) (vSt1_s28 (i : Int) g p), fSu_0 (vSt1_s22 (i : Int) g p) (vSt1_s29 (i : Int) g p)]) := by
    unfold r7Ru1_l3_s45 r7Ru1_l3_s44
    rw [r20, r6, r7, r8, r9, r11, r13]
    refine ⟨?_, R.set (sub_in _ _) (sub_in _ _) (sub_in _ _) (sub_in _ _)⟩
    show [r7n_0 (rget q (Int.toNat (i : Int)) 0) (r7Ru1_l3_s24 (r7Ru1_l3_T.mk to (i : Int) q g gn false st)) (r7Ru1_l3_s38 (r7Ru1_l3_T.mk to (i : Int) q g gn false st)), r7n_0 (rget q (Int.toNat (i : Int)) 0) (r7Ru1_l3_s32 (r7Ru1_l3_T.mk to (i : Int) q g gn false st)) (r7Ru1_l3_s39 (r7Ru1_l3_T.mk to (i : Int) q g gn false st)), r7n_0 (rget q (Int.toNat (i : Int)) 0) (r7Ru1_l3_s33 (r7Ru1_l3_T.mk to (i : Int) q g gn false st)) (r7Ru1_l3_s40 (r7Ru1_l3_T.mk to (i : Int) q g gn false st)), r7n_0 (rget q (Int.toNat (i : Int)) 0) (r7Ru1_l3_s34 (r7Ru1_l3_T.mk to (i : Int) q g gn false st)) (r7Ru1_l3_s41 (r7Ru1_l3_T.mk to (i : Int) q g gn false st))] = _
    rw [hq, xa0 E, xa1 E, xa2 E, xa3 E, xb0 E, xb1 E, xb2 E, xb3 E]
    rw [sub_eq _ (ib0 R), sub_eq _ (ib1 R), sub_eq _ (ib2 R), sub_eq _ (ib3 R)]
    try rfl
  rw [r21, x31 E, r46, hq, e4.1, e2]
  refine ⟨rfl, e4.2, ?_, ?_, ?_⟩
  · unfold vSt1_3
    rw [v18]; rfl
  · unfold vSt1_1
    rw [v18]; rfl
  · intro _
    unfold vSt1_0
    rw [v18]; rfl
theorem rs5 (hc : rget p i 0 = 5) : (bif r7Ru1_l3_s21 (r7Ru1_l3_T.mk to (i : Int) q g gn false st) then List.set g (r7Ru1_l3_s31 (r7Ru1_l3_T.mk to (i : Int) q g gn false st)) [rget (r7Ru1_l3_s45 (r7Ru1_l3_T.mk to (i : Int) q g gn false st)) 0 0, rget (r7Ru1_l3_s45 (r7Ru1_l3_T.mk to (i : Int) q g gn false st)) 1 0, rget (r7Ru1_l3_s45 (r7Ru1_l3_T.mk to (i : Int) q g gn false st)) 2 0, rget (r7Ru1_l3_s45 (r7Ru1_l3_T.mk to (i : Int) q g gn false st)) 3 0] else g) = vSt1_2 (i : Int) g p ∧ Rg (vSt1_2 (i : Int) g p) ∧ (bif r7Ru1_l3_s46 (r7Ru1_l3_T.mk to (i : Int) q g gn false st) then true else gn) = vSt1_3 (i : Int) g gn p ∧ (bif r7Ru1_l3_s46 (r7Ru1_l3_T.mk to (i : Int) q g gn false st) then true else bif rget q (Int.toNat (i : Int)) 0 == 0 then true else false) = !vSt1_1 (i : Int) g p ∧ (vSt1_1 (i : Int) g p = true → (bif bif rget q (Int.toNat (i : Int)) 0 == 11 then r7Ru1_l3_s29 (r7Ru1_l3_T.mk to (i : Int) q g gn false st) else false then IntKind.wrap .i64 (r7Ru1_l3_s30 (r7Ru1_l3_T.mk to (i : Int) q g gn false st) + rget q (Int.toNat (i : Int)) 4) else r7Ru1_l3_s30 (r7Ru1_l3_T.mk to (i : Int) q g gn false st)) = vSt1_0 (i : Int) g p) := by
  have hp : rget p (Int.toNat (i : Int)) 0 = 5 := by rw [Int.toNat_natCast, hc]
  have hq : rget q (Int.toNat (i : Int)) 0 = 5 := by rw [qp E (by decide), hp]
  have r6 : r7Ru1_l3_s6 (r7Ru1_l3_T.mk to (i : Int) q g gn false st) = false := by
    show (rget q (Int.toNat (i : Int)) 0 == 1) = _
    rw [hq]; rfl
  have r7 : r7Ru1_l3_s7 (r7Ru1_l3_T.mk to (i : Int) q g gn false st) = false := by
    show (rget q (Int.toNat (i : Int)) 0 == 2) = _
    rw [hq]; rfl
  have r8 : r7Ru1_l3_s8 (r7Ru1_l3_T.mk to (i : Int) q g gn false st) = false := by
    show (rget q (Int.toNat (i : Int)) 0 == 8) = _
    rw [hq]; rfl
  have r9 : r7Ru1_l3_s9 (r7Ru1_l3_T.mk to (i : Int) q g gn false st) = false := by
    show (rget q (Int.toNat (i : Int)) 0 == 9) = _
    rw [hq]; rfl
  have r11 : r7Ru1_l3_s11 (r7Ru1_l3_T.mk to (i : Int) q g gn false st) = false := by
    show (rget q (Int.toNat (i : Int)) 0 == 10) = _
    rw [hq]; rfl
  have r13 : r7Ru1_l3_s13 (r7Ru1_l3_T.mk to (i : Int) q g gn false st) = false := by
    show (rget q (Int.toNat (i : Int)) 0 == 14) = _
    rw [hq]; rfl
  have r20 : r7Ru1_l3_s20 (r7Ru1_l3_T.mk to (i : Int) q g gn false st) = true := by
    show (bif decide (3 ≤ rget q (Int.toNat (i : Int)) 0) then decide (rget q (Int.toNat (i : Int)) 0 ≤ 7) else false) = _
    rw [hq]; rfl
  have r21 : r7Ru1_l3_s21 (r7Ru1_l3_T.mk to (i : Int) q g gn false st) = true := by
    unfold r7Ru1_l3_s21
    rw [r20, r6, r7, r8, r9, r11, r13]; rfl
  have v0 : vSt1_s0 (i : Int) p = false := by
    unfold vSt1_s0
    rw [hp]; rfl
  have v1 : vSt1_s1 (i : Int) p = false := by
    unfold vSt1_s1
    rw [hp]; rfl
  have v2 : vSt1_s2 (i : Int) p = false := by
    unfold vSt1_s2
    rw [hp]; rfl
  have v3 : vSt1_s3 (i : Int) p = false := by
    unfold vSt1_s3
    rw [hp]; rfl
  have v4 : vSt1_s4 (i : Int) p = false := by
    unfold vSt1_s4
    rw [hp]; rfl
  have v5 : vSt1_s5 (i : Int) p = true := by
    unfold vSt1_s5
    rw [hp]; rfl
  have v6 : vSt1_s6 (i : Int) p = false := by
    unfold vSt1_s6
    rw [hp]; rfl
  have v7 : vSt1_s7 (i : Int) p = false := by
    unfold vSt1_s7
    rw [hp]; rfl
  have v8 : vSt1_s8 (i : Int) p = false := by
    unfold vSt1_s8
    rw [hp]; rfl
  have v9 : vSt1_s9 (i : Int) p = false := by
    unfold vSt1_s9
    rw [hp]; rfl
  have v10 : vSt1_s10 (i : Int) p = false := by
    unfold vSt1_s10
    rw [hp]; rfl
  have v11 : vSt1_s11 (i : Int) p = false := by
    unfold vSt1_s11
    rw [hp]; rfl
  have v16 : vSt1_s16 (i : Int) p = false := by
    unfold vSt1_s16
    rw [hp]; rfl
  have v17 : vSt1_s17 (i : Int) p = false := by
    unfold vSt1_s17
    rw [hp]; rfl
  have v36 : vSt1_s36 (i : Int) p = false := by
    unfold vSt1_s36
    rw [hp]; rfl
  have v18 : vSt1_s18 (i : Int) g p = false := by
    unfold vSt1_s18
    rw [v0, v1, v2, v3, v4, v5, v6, v7, v8, v9, v10, v11, v16, v17]
    rfl
  have r29 : r7Ru1_l3_s29 (r7Ru1_l3_T.mk to (i : Int) q g gn false st) = vSt1_s15 (i : Int) g p := by
    unfold r7Ru1_l3_s29 vSt1_s15
    rw [xa0 E]
  have r46 : r7Ru1_l3_s46 (r7Ru1_l3_T.mk to (i : Int) q g gn false st) = false := by
    show (bif rget q (Int.toNat (i : Int)) 0 == 13 then r7Ru1_l3_s29 (r7Ru1_l3_T.mk to (i : Int) q g gn false st) else false) = _
    rw [hq, r29]; rfl
  have e2 : vSt1_2 (i : Int) g p = g.set (Int.toNat (rget p (Int.toNat (i : Int)) 1)) [fMu_0 (vSt1_s12 (i : Int) g p) (vSt1_s26 (i : Int) g p), fMu_0 (vSt1_s20 (i : Int) g p) (vSt1_s27 (i : Int) g p), fMu_0 (vSt1_s21 (i : Int) g p) (vSt1_s28 (i : Int) g p), fMu_0 (vSt1_s22 (i : Int) g p) (vSt1_s29 (i : Int) g p)] := by
    unfold vSt1_2
    rw [v18, v1, v2, v3, v4, v5, v6, v7, v8, v9, v10, v11, v17, v36]; rfl
  have e4 : [rget (r7Ru1_l3_s45 (r7Ru1_l3_T.mk to (i : Int) q g gn false st)) 0 0, rget (r7Ru1_l3_s45 (r7Ru1_l3_T.mk to (i : Int) q g gn false st)) 1 0, rget (r7Ru1_l3_s45 (r7Ru1_l3_T.mk to (i : Int) q g gn false st)) 2 0, rget (r7Ru1_l3_s45 (r7Ru1_l3_T.mk to (i : Int) q g gn false st)) 3 0] = [fMu_0 (vSt1_s12 (i : Int) g p) (vSt1_s26 (i : Int) g p), fMu_0 (vSt1_s20 (i : Int) g p) (vSt1_s27 (i : Int) g p), fMu_0 (vSt1_s21 (i : Int) g p) (vSt1_s28 (i : Int) g p), fMu_0 (vSt1_s22 (i : Int) g p) (vSt1_s29 (i : Int) g p)] ∧ Rg (g.set (Int.toNat (rget p (Int.toNat (i : Int)) 1)) [fMu_0 (vSt1_s12 (i : Int) g p) (vSt1_s26 (i : Int) g p), fMu_0 (vSt1_s20 (i : Int) g p) (vSt1_s27 (i : Int) g p), fMu_0 (vSt1_s21 (i : Int) g p) (vSt1_s28 (i : Int) g p), fMu_0 (vSt1_s22 (i : Int) g p) (vSt1_s29 (i : Int) g p)]) := by
    unfold r7Ru1_l3_s45 r7Ru1_l3_s44
    rw [r20, r6, r7, r8, r9, r11, r13]
    refine ⟨?_, R.set (by rw [mul_eq]; exact mul_in _ _) (by rw [mul_eq]; exact mul_in _ _) (by rw [mul_eq]; exact mul_in _ _) (by rw [mul_eq]; exact mul_in _ _)⟩
    show [r7n_0 (rget q (Int.toNat (i : Int)) 0) (r7Ru1_l3_s24 (r7Ru1_l3_T.mk to (i : Int) q g gn false st)) (r7Ru1_l3_s38 (r7Ru1_l3_T.mk to (i : Int) q g gn false st)), r7n_0 (rget q (Int.toNat (i : Int)) 0) (r7Ru1_l3_s32 (r7Ru1_l3_T.mk to (i : Int) q g gn false st)) (r7Ru1_l3_s39 (r7Ru1_l3_T.mk to (i : Int) q g gn false st)), r7n_0 (rget q (Int.toNat (i : Int)) 0) (r7Ru1_l3_s33 (r7Ru1_l3_T.mk to (i : Int) q g gn false st)) (r7Ru1_l3_s40 (r7Ru1_l3_T.mk to (i : Int) q g gn false st)), r7n_0 (rget q (Int.toNat (i : Int)) 0) (r7Ru1_l3_s34 (r7Ru1_l3_T.mk to (i : Int) q g gn false st)) (r7Ru1_l3_s41 (r7Ru1_l3_T.mk to (i : Int) q g gn false st))] = _
    rw [hq, xa0 E, xa1 E, xa2 E, xa3 E, xb0 E, xb1 E, xb2 E, xb3 E]
    rw [mul_eq, mul_eq, mul_eq, mul_eq]
    try rfl
  rw [r21, x31 E, r46, hq, e4.1, e2]
  refine ⟨rfl, e4.2, ?_, ?_, ?_⟩
  · unfold vSt1_3
    rw [v18]; rfl
  · unfold vSt1_1
    rw [v18]; rfl
  · intro _
    unfold vSt1_0
    rw [v18]; rfl
theorem rs6 (hc : rget p i 0 = 6) : (bif r7Ru1_l3_s21 (r7Ru1_l3_T.mk to (i : Int) q g gn false st) then List.set g (r7Ru1_l3_s31 (r7Ru1_l3_T.mk to (i : Int) q g gn false st)) [rget (r7Ru1_l3_s45 (r7Ru1_l3_T.mk to (i : Int) q g gn false st)) 0 0, rget (r7Ru1_l3_s45 (r7Ru1_l3_T.mk to (i : Int) q g gn false st)) 1 0, rget (r7Ru1_l3_s45 (r7Ru1_l3_T.mk to (i : Int) q g gn false st)) 2 0, rget (r7Ru1_l3_s45 (r7Ru1_l3_T.mk to (i : Int) q g gn false st)) 3 0] else g) = vSt1_2 (i : Int) g p ∧ Rg (vSt1_2 (i : Int) g p) ∧ (bif r7Ru1_l3_s46 (r7Ru1_l3_T.mk to (i : Int) q g gn false st) then true else gn) = vSt1_3 (i : Int) g gn p ∧ (bif r7Ru1_l3_s46 (r7Ru1_l3_T.mk to (i : Int) q g gn false st) then true else bif rget q (Int.toNat (i : Int)) 0 == 0 then true else false) = !vSt1_1 (i : Int) g p ∧ (vSt1_1 (i : Int) g p = true → (bif bif rget q (Int.toNat (i : Int)) 0 == 11 then r7Ru1_l3_s29 (r7Ru1_l3_T.mk to (i : Int) q g gn false st) else false then IntKind.wrap .i64 (r7Ru1_l3_s30 (r7Ru1_l3_T.mk to (i : Int) q g gn false st) + rget q (Int.toNat (i : Int)) 4) else r7Ru1_l3_s30 (r7Ru1_l3_T.mk to (i : Int) q g gn false st)) = vSt1_0 (i : Int) g p) := by
  have hp : rget p (Int.toNat (i : Int)) 0 = 6 := by rw [Int.toNat_natCast, hc]
  have hq : rget q (Int.toNat (i : Int)) 0 = 6 := by rw [qp E (by decide), hp]
  have r6 : r7Ru1_l3_s6 (r7Ru1_l3_T.mk to (i : Int) q g gn false st) = false := by
    show (rget q (Int.toNat (i : Int)) 0 == 1) = _
    rw [hq]; rfl
  have r7 : r7Ru1_l3_s7 (r7Ru1_l3_T.mk to (i : Int) q g gn false st) = false := by
    show (rget q (Int.toNat (i : Int)) 0 == 2) = _
    rw [hq]; rfl
  have r8 : r7Ru1_l3_s8 (r7Ru1_l3_T.mk to (i : Int) q g gn false st) = false := by
    show (rget q (Int.toNat (i : Int)) 0 == 8) = _
    rw [hq]; rfl
  have r9 : r7Ru1_l3_s9 (r7Ru1_l3_T.mk to (i : Int) q g gn false st) = false := by
    show (rget q (Int.toNat (i : Int)) 0 == 9) = _
    rw [hq]; rfl
  have r11 : r7Ru1_l3_s11 (r7Ru1_l3_T.mk to (i : Int) q g gn false st) = false := by
    show (rget q (Int.toNat (i : Int)) 0 == 10) = _
    rw [hq]; rfl
  have r13 : r7Ru1_l3_s13 (r7Ru1_l3_T.mk to (i : Int) q g gn false st) = false := by
    show (rget q (Int.toNat (i : Int)) 0 == 14) = _
    rw [hq]; rfl
  have r20 : r7Ru1_l3_s20 (r7Ru1_l3_T.mk to (i : Int) q g gn false st) = true := by
    show (bif decide (3 ≤ rget q (Int.toNat (i : Int)) 0) then decide (rget q (Int.toNat (i : Int)) 0 ≤ 7) else false) = _
    rw [hq]; rfl
  have r21 : r7Ru1_l3_s21 (r7Ru1_l3_T.mk to (i : Int) q g gn false st) = true := by
    unfold r7Ru1_l3_s21
    rw [r20, r6, r7, r8, r9, r11, r13]; rfl
  have v0 : vSt1_s0 (i : Int) p = false := by
    unfold vSt1_s0
    rw [hp]; rfl
  have v1 : vSt1_s1 (i : Int) p = false := by
    unfold vSt1_s1
    rw [hp]; rfl
  have v2 : vSt1_s2 (i : Int) p = false := by
    unfold vSt1_s2
    rw [hp]; rfl
  have v3 : vSt1_s3 (i : Int) p = false := by
    unfold vSt1_s3
    rw [hp]; rfl
  have v4 : vSt1_s4 (i : Int) p = false := by
    unfold vSt1_s4
    rw [hp]; rfl
  have v5 : vSt1_s5 (i : Int) p = false := by
    unfold vSt1_s5
    rw [hp]; rfl
  have v6 : vSt1_s6 (i : Int) p = true := by
    unfold vSt1_s6
    rw [hp]; rfl
  have v7 : vSt1_s7 (i : Int) p = false := by
    unfold vSt1_s7
    rw [hp]; rfl
  have v8 : vSt1_s8 (i : Int) p = false := by
    unfold vSt1_s8
    rw [hp]; rfl
  have v9 : vSt1_s9 (i : Int) p = false := by
    unfold vSt1_s9
    rw [hp]; rfl
  have v10 : vSt1_s10 (i : Int) p = false := by
    unfold vSt1_s10
    rw [hp]; rfl
  have v11 : vSt1_s11 (i : Int) p = false := by
    unfold vSt1_s11
    rw [hp]; rfl
  have v16 : vSt1_s16 (i : Int) p = false := by
    unfold vSt1_s16
    rw [hp]; rfl
  have v17 : vSt1_s17 (i : Int) p = false := by
    unfold vSt1_s17
    rw [hp]; rfl
  have v36 : vSt1_s36 (i : Int) p = false := by
    unfold vSt1_s36
    rw [hp]; rfl
  have v18 : vSt1_s18 (i : Int) g p = false := by
    unfold vSt1_s18
    rw [v0, v1, v2, v3, v4, v5, v6, v7, v8, v9, v10, v11, v16, v17]
    rfl
  have r29 : r7Ru1_l3_s29 (r7Ru1_l3_T.mk to (i : Int) q g gn false st) = vSt1_s15 (i : Int) g p := by
    unfold r7Ru1_l3_s29 vSt1_s15
    rw [xa0 E]
  have r46 : r7Ru1_l3_s46 (r7Ru1_l3_T.mk to (i : Int) q g gn false st) = false := by
    show (bif rget q (Int.toNat (i : Int)) 0 == 13 then r7Ru1_l3_s29 (r7Ru1_l3_T.mk to (i : Int) q g gn false st) else false) = _
    rw [hq, r29]; rfl
  have e2 : vSt1_2 (i : Int) g p = g.set (Int.toNat (rget p (Int.toNat (i : Int)) 1)) [vMi1_0 (vSt1_s12 (i : Int) g p) (vSt1_s26 (i : Int) g p), vMi1_0 (vSt1_s20 (i : Int) g p) (vSt1_s27 (i : Int) g p), vMi1_0 (vSt1_s21 (i : Int) g p) (vSt1_s28 (i : Int) g p), vMi1_0 (vSt1_s22 (i : Int) g p) (vSt1_s29 (i : Int) g p)] := by
    unfold vSt1_2
    rw [v18, v1, v2, v3, v4, v5, v6, v7, v8, v9, v10, v11, v17, v36]; rfl
  have e4 : [rget (r7Ru1_l3_s45 (r7Ru1_l3_T.mk to (i : Int) q g gn false st)) 0 0, rget (r7Ru1_l3_s45 (r7Ru1_l3_T.mk to (i : Int) q g gn false st)) 1 0, rget (r7Ru1_l3_s45 (r7Ru1_l3_T.mk to (i : Int) q g gn false st)) 2 0, rget (r7Ru1_l3_s45 (r7Ru1_l3_T.mk to (i : Int) q g gn false st)) 3 0] = [vMi1_0 (vSt1_s12 (i : Int) g p) (vSt1_s26 (i : Int) g p), vMi1_0 (vSt1_s20 (i : Int) g p) (vSt1_s27 (i : Int) g p), vMi1_0 (vSt1_s21 (i : Int) g p) (vSt1_s28 (i : Int) g p), vMi1_0 (vSt1_s22 (i : Int) g p) (vSt1_s29 (i : Int) g p)] ∧ Rg (g.set (Int.toNat (rget p (Int.toNat (i : Int)) 1)) [vMi1_0 (vSt1_s12 (i : Int) g p) (vSt1_s26 (i : Int) g p), vMi1_0 (vSt1_s20 (i : Int) g p) (vSt1_s27 (i : Int) g p), vMi1_0 (vSt1_s21 (i : Int) g p) (vSt1_s28 (i : Int) g p), vMi1_0 (vSt1_s22 (i : Int) g p) (vSt1_s29 (i : Int) g p)]) := by
    unfold r7Ru1_l3_s45 r7Ru1_l3_s44
    rw [r20, r6, r7, r8, r9, r11, r13]
    refine ⟨?_, R.set (min_in (ia0 R) (ib0 R)) (min_in (ia1 R) (ib1 R)) (min_in (ia2 R) (ib2 R)) (min_in (ia3 R) (ib3 R))⟩
    show [r7n_0 (rget q (Int.toNat (i : Int)) 0) (r7Ru1_l3_s24 (r7Ru1_l3_T.mk to (i : Int) q g gn false st)) (r7Ru1_l3_s38 (r7Ru1_l3_T.mk to (i : Int) q g gn false st)), r7n_0 (rget q (Int.toNat (i : Int)) 0) (r7Ru1_l3_s32 (r7Ru1_l3_T.mk to (i : Int) q g gn false st)) (r7Ru1_l3_s39 (r7Ru1_l3_T.mk to (i : Int) q g gn false st)), r7n_0 (rget q (Int.toNat (i : Int)) 0) (r7Ru1_l3_s33 (r7Ru1_l3_T.mk to (i : Int) q g gn false st)) (r7Ru1_l3_s40 (r7Ru1_l3_T.mk to (i : Int) q g gn false st)), r7n_0 (rget q (Int.toNat (i : Int)) 0) (r7Ru1_l3_s34 (r7Ru1_l3_T.mk to (i : Int) q g gn false st)) (r7Ru1_l3_s41 (r7Ru1_l3_T.mk to (i : Int) q g gn false st))] = _
    rw [hq, xa0 E, xa1 E, xa2 E, xa3 E, xb0 E, xb1 E, xb2 E, xb3 E]
    rw [min_eq (ia0 R) (ib0 R), min_eq (ia1 R) (ib1 R), min_eq (ia2 R) (ib2 R), min_eq (ia3 R) (ib3 R)]
    try rfl
  rw [r21, x31 E, r46, hq, e4.1, e2]
  refine ⟨rfl, e4.2, ?_, ?_, ?_⟩
  · unfold vSt1_3
    rw [v18]; rfl
  · unfold vSt1_1
    rw [v18]; rfl
  · intro _
    unfold vSt1_0
    rw [v18]; rfl
theorem rs7 (hc : rget p i 0 = 7) : (bif r7Ru1_l3_s21 (r7Ru1_l3_T.mk to (i : Int) q g gn false st) then List.set g (r7Ru1_l3_s31 (r7Ru1_l3_T.mk to (i : Int) q g gn false st)) [rget (r7Ru1_l3_s45 (r7Ru1_l3_T.mk to (i : Int) q g gn false st)) 0 0, rget (r7Ru1_l3_s45 (r7Ru1_l3_T.mk to (i : Int) q g gn false st)) 1 0, rget (r7Ru1_l3_s45 (r7Ru1_l3_T.mk to (i : Int) q g gn false st)) 2 0, rget (r7Ru1_l3_s45 (r7Ru1_l3_T.mk to (i : Int) q g gn false st)) 3 0] else g) = vSt1_2 (i : Int) g p ∧ Rg (vSt1_2 (i : Int) g p) ∧ (bif r7Ru1_l3_s46 (r7Ru1_l3_T.mk to (i : Int) q g gn false st) then true else gn) = vSt1_3 (i : Int) g gn p ∧ (bif r7Ru1_l3_s46 (r7Ru1_l3_T.mk to (i : Int) q g gn false st) then true else bif rget q (Int.toNat (i : Int)) 0 == 0 then true else false) = !vSt1_1 (i : Int) g p ∧ (vSt1_1 (i : Int) g p = true → (bif bif rget q (Int.toNat (i : Int)) 0 == 11 then r7Ru1_l3_s29 (r7Ru1_l3_T.mk to (i : Int) q g gn false st) else false then IntKind.wrap .i64 (r7Ru1_l3_s30 (r7Ru1_l3_T.mk to (i : Int) q g gn false st) + rget q (Int.toNat (i : Int)) 4) else r7Ru1_l3_s30 (r7Ru1_l3_T.mk to (i : Int) q g gn false st)) = vSt1_0 (i : Int) g p) := by
  have hp : rget p (Int.toNat (i : Int)) 0 = 7 := by rw [Int.toNat_natCast, hc]
  have hq : rget q (Int.toNat (i : Int)) 0 = 7 := by rw [qp E (by decide), hp]
  have r6 : r7Ru1_l3_s6 (r7Ru1_l3_T.mk to (i : Int) q g gn false st) = false := by
    show (rget q (Int.toNat (i : Int)) 0 == 1) = _
    rw [hq]; rfl
  have r7 : r7Ru1_l3_s7 (r7Ru1_l3_T.mk to (i : Int) q g gn false st) = false := by
    show (rget q (Int.toNat (i : Int)) 0 == 2) = _
    rw [hq]; rfl
  have r8 : r7Ru1_l3_s8 (r7Ru1_l3_T.mk to (i : Int) q g gn false st) = false := by
    show (rget q (Int.toNat (i : Int)) 0 == 8) = _
    rw [hq]; rfl
  have r9 : r7Ru1_l3_s9 (r7Ru1_l3_T.mk to (i : Int) q g gn false st) = false := by
    show (rget q (Int.toNat (i : Int)) 0 == 9) = _
    rw [hq]; rfl
  have r11 : r7Ru1_l3_s11 (r7Ru1_l3_T.mk to (i : Int) q g gn false st) = false := by
    show (rget q (Int.toNat (i : Int)) 0 == 10) = _
    rw [hq]; rfl
  have r13 : r7Ru1_l3_s13 (r7Ru1_l3_T.mk to (i : Int) q g gn false st) = false := by
    show (rget q (Int.toNat (i : Int)) 0 == 14) = _
    rw [hq]; rfl
  have r20 : r7Ru1_l3_s20 (r7Ru1_l3_T.mk to (i : Int) q g gn false st) = true := by
    show (bif decide (3 ≤ rget q (Int.toNat (i : Int)) 0) then decide (rget q (Int.toNat (i : Int)) 0 ≤ 7) else false) = _
    rw [hq]; rfl
  have r21 : r7Ru1_l3_s21 (r7Ru1_l3_T.mk to (i : Int) q g gn false st) = true := by
    unfold r7Ru1_l3_s21
    rw [r20, r6, r7, r8, r9, r11, r13]; rfl
  have v0 : vSt1_s0 (i : Int) p = false := by
    unfold vSt1_s0
    rw [hp]; rfl
  have v1 : vSt1_s1 (i : Int) p = false := by
    unfold vSt1_s1
    rw [hp]; rfl
  have v2 : vSt1_s2 (i : Int) p = false := by
    unfold vSt1_s2
    rw [hp]; rfl
  have v3 : vSt1_s3 (i : Int) p = false := by
    unfold vSt1_s3
    rw [hp]; rfl
  have v4 : vSt1_s4 (i : Int) p = false := by
    unfold vSt1_s4
    rw [hp]; rfl
  have v5 : vSt1_s5 (i : Int) p = false := by
    unfold vSt1_s5
    rw [hp]; rfl
  have v6 : vSt1_s6 (i : Int) p = false := by
    unfold vSt1_s6
    rw [hp]; rfl
  have v7 : vSt1_s7 (i : Int) p = true := by
    unfold vSt1_s7
    rw [hp]; rfl
  have v8 : vSt1_s8 (i : Int) p = false := by
    unfold vSt1_s8
    rw [hp]; rfl
  have v9 : vSt1_s9 (i : Int) p = false := by
    unfold vSt1_s9
    rw [hp]; rfl
  have v10 : vSt1_s10 (i : Int) p = false := by
    unfold vSt1_s10
    rw [hp]; rfl
  have v11 : vSt1_s11 (i : Int) p = false := by
    unfold vSt1_s11
    rw [hp]; rfl
  have v16 : vSt1_s16 (i : Int) p = false := by
    unfold vSt1_s16
    rw [hp]; rfl
  have v17 : vSt1_s17 (i : Int) p = false := by
    unfold vSt1_s17
    rw [hp]; rfl
  have v36 : vSt1_s36 (i : Int) p = false := by
    unfold vSt1_s36
    rw [hp]; rfl
  have v18 : vSt1_s18 (i : Int) g p = false := by
    unfold vSt1_s18
    rw [v0, v1, v2, v3, v4, v5, v6, v7, v8, v9, v10, v11, v16, v17]
    rfl
  have r29 : r7Ru1_l3_s29 (r7Ru1_l3_T.mk to (i : Int) q g gn false st) = vSt1_s15 (i : Int) g p := by
    unfold r7Ru1_l3_s29 vSt1_s15
    rw [xa0 E]
  have r46 : r7Ru1_l3_s46 (r7Ru1_l3_T.mk to (i : Int) q g gn false st) = false := by
    show (bif rget q (Int.toNat (i : Int)) 0 == 13 then r7Ru1_l3_s29 (r7Ru1_l3_T.mk to (i : Int) q g gn false st) else false) = _
    rw [hq, r29]; rfl
  have e2 : vSt1_2 (i : Int) g p = g.set (Int.toNat (rget p (Int.toNat (i : Int)) 1)) [vMa1_0 (vSt1_s12 (i : Int) g p) (vSt1_s26 (i : Int) g p), vMa1_0 (vSt1_s20 (i : Int) g p) (vSt1_s27 (i : Int) g p), vMa1_0 (vSt1_s21 (i : Int) g p) (vSt1_s28 (i : Int) g p), vMa1_0 (vSt1_s22 (i : Int) g p) (vSt1_s29 (i : Int) g p)] := by
    unfold vSt1_2
    rw [v18, v1, v2, v3, v4, v5, v6, v7, v8, v9, v10, v11, v17, v36]; rfl
  have e4 : [rget (r7Ru1_l3_s45 (r7Ru1_l3_T.mk to (i : Int) q g gn false st)) 0 0, rget (r7Ru1_l3_s45 (r7Ru1_l3_T.mk to (i : Int) q g gn false st)) 1 0, rget (r7Ru1_l3_s45 (r7Ru1_l3_T.mk to (i : Int) q g gn false st)) 2 0, rget (r7Ru1_l3_s45 (r7Ru1_l3_T.mk to (i : Int) q g gn false st)) 3 0] = [vMa1_0 (vSt1_s12 (i : Int) g p) (vSt1_s26 (i : Int) g p), vMa1_0 (vSt1_s20 (i : Int) g p) (vSt1_s27 (i : Int) g p), vMa1_0 (vSt1_s21 (i : Int) g p) (vSt1_s28 (i : Int) g p), vMa1_0 (vSt1_s22 (i : Int) g p) (vSt1_s29 (i : Int) g p)] ∧ Rg (g.set (Int.toNat (rget p (Int.toNat (i : Int)) 1)) [vMa1_0 (vSt1_s12 (i : Int) g p) (vSt1_s26 (i : Int) g p), vMa1_0 (vSt1_s20 (i : Int) g p) (vSt1_s27 (i : Int) g p), vMa1_0 (vSt1_s21 (i : Int) g p) (vSt1_s28 (i : Int) g p), vMa1_0 (vSt1_s22 (i : Int) g p) (vSt1_s29 (i : Int) g p)]) := by
    unfold r7Ru1_l3_s45 r7Ru1_l3_s44
    rw [r20, r6, r7, r8, r9, r11, r13]
    refine ⟨?_, R.set (max_in (ia0 R) (ib0 R)) (max_in (ia1 R) (ib1 R)) (max_in (ia2 R) (ib2 R)) (max_in (ia3 R) (ib3 R))⟩
    show [r7n_0 (rget q (Int.toNat (i : Int)) 0) (r7Ru1_l3_s24 (r7Ru1_l3_T.mk to (i : Int) q g gn false st)) (r7Ru1_l3_s38 (r7Ru1_l3_T.mk to (i : Int) q g gn false st)), r7n_0 (rget q (Int.toNat (i : Int)) 0) (r7Ru1_l3_s32 (r7Ru1_l3_T.mk to (i : Int) q g gn false st)) (r7Ru1_l3_s39 (r7Ru1_l3_T.mk to (i : Int) q g gn false st)), r7n_0 (rget q (Int.toNat (i : Int)) 0) (r7Ru1_l3_s33 (r7Ru1_l3_T.mk to (i : Int) q g gn false st)) (r7Ru1_l3_s40 (r7Ru1_l3_T.mk to (i : Int) q g gn false st)), r7n_0 (rget q (Int.toNat (i : Int)) 0) (r7Ru1_l3_s34 (r7Ru1_l3_T.mk to (i : Int) q g gn false st)) (r7Ru1_l3_s41 (r7Ru1_l3_T.mk to (i : Int) q g gn false st))] = _
    rw [hq, xa0 E, xa1 E, xa2 E, xa3 E, xb0 E, xb1 E, xb2 E, xb3 E]
    rw [max_eq (ia0 R) (ib0 R), max_eq (ia1 R) (ib1 R), max_eq (ia2 R) (ib2 R), max_eq (ia3 R) (ib3 R)]
    try rfl
  rw [r21, x31 E, r46, hq, e4.1, e2]
  refine ⟨rfl, e4.2, ?_, ?_, ?_⟩
  · unfold vSt1_3
    rw [v18]; rfl
  · unfold vSt1_1
    rw [v18]; rfl
  · intro _
    unfold vSt1_0
    rw [v18]; rfl
theorem rs8 (hc : rget p i 0 = 8) : (bif r7Ru1_l3_s21 (r7Ru1_l3_T.mk to (i : Int) q g gn false st) then List.set g (r7Ru1_l3_s31 (r7Ru1_l3_T.mk to (i : Int) q g gn false st)) [rget (r7Ru1_l3_s45 (r7Ru1_l3_T.mk to (i : Int) q g gn false st)) 0 0, rget (r7Ru1_l3_s45 (r7Ru1_l3_T.mk to (i : Int) q g gn false st)) 1 0, rget (r7Ru1_l3_s45 (r7Ru1_l3_T.mk to (i : Int) q g gn false st)) 2 0, rget (r7Ru1_l3_s45 (r7Ru1_l3_T.mk to (i : Int) q g gn false st)) 3 0] else g) = vSt1_2 (i : Int) g p ∧ Rg (vSt1_2 (i : Int) g p) ∧ (bif r7Ru1_l3_s46 (r7Ru1_l3_T.mk to (i : Int) q g gn false st) then true else gn) = vSt1_3 (i : Int) g gn p ∧ (bif r7Ru1_l3_s46 (r7Ru1_l3_T.mk to (i : Int) q g gn false st) then true else bif rget q (Int.toNat (i : Int)) 0 == 0 then true else false) = !vSt1_1 (i : Int) g p ∧ (vSt1_1 (i : Int) g p = true → (bif bif rget q (Int.toNat (i : Int)) 0 == 11 then r7Ru1_l3_s29 (r7Ru1_l3_T.mk to (i : Int) q g gn false st) else false then IntKind.wrap .i64 (r7Ru1_l3_s30 (r7Ru1_l3_T.mk to (i : Int) q g gn false st) + rget q (Int.toNat (i : Int)) 4) else r7Ru1_l3_s30 (r7Ru1_l3_T.mk to (i : Int) q g gn false st)) = vSt1_0 (i : Int) g p) := by
  have hp : rget p (Int.toNat (i : Int)) 0 = 8 := by rw [Int.toNat_natCast, hc]
  have hq : rget q (Int.toNat (i : Int)) 0 = 8 := by rw [qp E (by decide), hp]
  have r6 : r7Ru1_l3_s6 (r7Ru1_l3_T.mk to (i : Int) q g gn false st) = false := by
    show (rget q (Int.toNat (i : Int)) 0 == 1) = _
    rw [hq]; rfl
  have r7 : r7Ru1_l3_s7 (r7Ru1_l3_T.mk to (i : Int) q g gn false st) = false := by
    show (rget q (Int.toNat (i : Int)) 0 == 2) = _
    rw [hq]; rfl
  have r8 : r7Ru1_l3_s8 (r7Ru1_l3_T.mk to (i : Int) q g gn false st) = true := by
    show (rget q (Int.toNat (i : Int)) 0 == 8) = _
    rw [hq]; rfl
  have r9 : r7Ru1_l3_s9 (r7Ru1_l3_T.mk to (i : Int) q g gn false st) = false := by
    show (rget q (Int.toNat (i : Int)) 0 == 9) = _
    rw [hq]; rfl
  have r11 : r7Ru1_l3_s11 (r7Ru1_l3_T.mk to (i : Int) q g gn false st) = false := by
    show (rget q (Int.toNat (i : Int)) 0 == 10) = _
    rw [hq]; rfl
  have r13 : r7Ru1_l3_s13 (r7Ru1_l3_T.mk to (i : Int) q g gn false st) = false := by
    show (rget q (Int.toNat (i : Int)) 0 == 14) = _
    rw [hq]; rfl
  have r20 : r7Ru1_l3_s20 (r7Ru1_l3_T.mk to (i : Int) q g gn false st) = false := by
    show (bif decide (3 ≤ rget q (Int.toNat (i : Int)) 0) then decide (rget q (Int.toNat (i : Int)) 0 ≤ 7) else false) = _
    rw [hq]; rfl
  have r21 : r7Ru1_l3_s21 (r7Ru1_l3_T.mk to (i : Int) q g gn false st) = true := by
    unfold r7Ru1_l3_s21
    rw [r20, r6, r7, r8, r9, r11, r13]; rfl
  have v0 : vSt1_s0 (i : Int) p = false := by
    unfold vSt1_s0
    rw [hp]; rfl
  have v1 : vSt1_s1 (i : Int) p = false := by
    unfold vSt1_s1
    rw [hp]; rfl
  have v2 : vSt1_s2 (i : Int) p = false := by
    unfold vSt1_s2
    rw [hp]; rfl
  have v3 : vSt1_s3 (i : Int) p = false := by
    unfold vSt1_s3
    rw [hp]; rfl
  have v4 : vSt1_s4 (i : Int) p = false := by
    unfold vSt1_s4
    rw [hp]; rfl
  have v5 : vSt1_s5 (i : Int) p = false := by
    unfold vSt1_s5
    rw [hp]; rfl
  have v6 : vSt1_s6 (i : Int) p = false := by
    unfold vSt1_s6
    rw [hp]; rfl
  have v7 : vSt1_s7 (i : Int) p = false := by
    unfold vSt1_s7
    rw [hp]; rfl
  have v8 : vSt1_s8 (i : Int) p = true := by
    unfold vSt1_s8
    rw [hp]; rfl
  have v9 : vSt1_s9 (i : Int) p = false := by
    unfold vSt1_s9
    rw [hp]; rfl
  have v10 : vSt1_s10 (i : Int) p = false := by
    unfold vSt1_s10
    rw [hp]; rfl
  have v11 : vSt1_s11 (i : Int) p = false := by
    unfold vSt1_s11
    rw [hp]; rfl
  have v16 : vSt1_s16 (i : Int) p = false := by
    unfold vSt1_s16
    rw [hp]; rfl
  have v17 : vSt1_s17 (i : Int) p = false := by
    unfold vSt1_s17
    rw [hp]; rfl
  have v36 : vSt1_s36 (i : Int) p = false := by
    unfold vSt1_s36
    rw [hp]; rfl
  have v18 : vSt1_s18 (i : Int) g p = false := by
    unfold vSt1_s18
    rw [v0, v1, v2, v3, v4, v5, v6, v7, v8, v9, v10, v11, v16, v17]
    rfl
  have r29 : r7Ru1_l3_s29 (r7Ru1_l3_T.mk to (i : Int) q g gn false st) = vSt1_s15 (i : Int) g p := by
    unfold r7Ru1_l3_s29 vSt1_s15
    rw [xa0 E]
  have r46 : r7Ru1_l3_s46 (r7Ru1_l3_T.mk to (i : Int) q g gn false st) = false := by
    show (bif rget q (Int.toNat (i : Int)) 0 == 13 then r7Ru1_l3_s29 (r7Ru1_l3_T.mk to (i : Int) q g gn false st) else false) = _
    rw [hq, r29]; rfl
  have e2 : vSt1_2 (i : Int) g p = g.set (Int.toNat (rget p (Int.toNat (i : Int)) 1)) [vSt1_s30 (i : Int) g p, vSt1_s30 (i : Int) g p, vSt1_s30 (i : Int) g p, vSt1_s30 (i : Int) g p] := by
    unfold vSt1_2
    rw [v18, v1, v2, v3, v4, v5, v6, v7, v8, v9, v10, v11, v17, v36]; rfl
  have e4 : [rget (r7Ru1_l3_s45 (r7Ru1_l3_T.mk to (i : Int) q g gn false st)) 0 0, rget (r7Ru1_l3_s45 (r7Ru1_l3_T.mk to (i : Int) q g gn false st)) 1 0, rget (r7Ru1_l3_s45 (r7Ru1_l3_T.mk to (i : Int) q g gn false st)) 2 0, rget (r7Ru1_l3_s45 (r7Ru1_l3_T.mk to (i : Int) q g gn false st)) 3 0] = [vSt1_s30 (i : Int) g p, vSt1_s30 (i : Int) g p, vSt1_s30 (i : Int) g p, vSt1_s30 (i : Int) g p] ∧ Rg (g.set (Int.toNat (rget p (Int.toNat (i : Int)) 1)) [vSt1_s30 (i : Int) g p, vSt1_s30 (i : Int) g p, vSt1_s30 (i : Int) g p, vSt1_s30 (i : Int) g p]) := by
    unfold r7Ru1_l3_s45 r7Ru1_l3_s44
    rw [r20, r6, r7, r8, r9, r11, r13]
    have w : vSt1_s30 (i : Int) g p = rDo_0 (vSt1_s12 (i : Int) g p) (vSt1_s20 (i : Int) g p) (vSt1_s21 (i : Int) g p) (vSt1_s22 (i : Int) g p) (vSt1_s26 (i : Int) g p) (vSt1_s27 (i : Int) g p) (vSt1_s28 (i : Int) g p) (vSt1_s29 (i : Int) g p) := by
      unfold vSt1_s30
      exact dot_eq _ _ _ _ _ _ _ _
    have wi : In (vSt1_s30 (i : Int) g p) := by rw [w]; exact dot_in _ _ _ _ _ _ _ _
    refine ⟨?_, R.set wi wi wi wi⟩
    show [rDo_0 (r7Ru1_l3_s24 (r7Ru1_l3_T.mk to (i : Int) q g gn false st)) (r7Ru1_l3_s32 (r7Ru1_l3_T.mk to (i : Int) q g gn false st)) (r7Ru1_l3_s33 (r7Ru1_l3_T.mk to (i : Int) q g gn false st)) (r7Ru1_l3_s34 (r7Ru1_l3_T.mk to (i : Int) q g gn false st)) (r7Ru1_l3_s38 (r7Ru1_l3_T.mk to (i : Int) q g gn false st)) (r7Ru1_l3_s39 (r7Ru1_l3_T.mk to (i : Int) q g gn false st)) (r7Ru1_l3_s40 (r7Ru1_l3_T.mk to (i : Int) q g gn false st)) (r7Ru1_l3_s41 (r7Ru1_l3_T.mk to (i : Int) q g gn false st)), rDo_0 (r7Ru1_l3_s24 (r7Ru1_l3_T.mk to (i : Int) q g gn false st)) (r7Ru1_l3_s32 (r7Ru1_l3_T.mk to (i : Int) q g gn false st)) (r7Ru1_l3_s33 (r7Ru1_l3_T.mk to (i : Int) q g gn false st)) (r7Ru1_l3_s34 (r7Ru1_l3_T.mk to (i : Int) q g gn false st)) (r7Ru1_l3_s38 (r7Ru1_l3_T.mk to (i : Int) q g gn false st)) (r7Ru1_l3_s39 (r7Ru1_l3_T.mk to (i : Int) q g gn false st)) (r7Ru1_l3_s40 (r7Ru1_l3_T.mk to (i : Int) q g gn false st)) (r7Ru1_l3_s41 (r7Ru1_l3_T.mk to (i : Int) q g gn false st)), rDo_0 (r7Ru1_l3_s24 (r7Ru1_l3_T.mk to (i : Int) q g gn false st)) (r7Ru1_l3_s32 (r7Ru1_l3_T.mk to (i : Int) q g gn false st)) (r7Ru1_l3_s33 (r7Ru1_l3_T.mk to (i : Int) q g gn false st)) (r7Ru1_l3_s34 (r7Ru1_l3_T.mk to (i : Int) q g gn false st)) (r7Ru1_l3_s38 (r7Ru1_l3_T.mk to (i : Int) q g gn false st)) (r7Ru1_l3_s39 (r7Ru1_l3_T.mk to (i : Int) q g gn false st)) (r7Ru1_l3_s40 (r7Ru1_l3_T.mk to (i : Int) q g gn false st)) (r7Ru1_l3_s41 (r7Ru1_l3_T.mk to (i : Int) q g gn false st)), rDo_0 (r7Ru1_l3_s24 (r7Ru1_l3_T.mk to (i : Int) q g gn false st)) (r7Ru1_l3_s32 (r7Ru1_l3_T.mk to (i : Int) q g gn false st)) (r7Ru1_l3_s33 (r7Ru1_l3_T.mk to (i : Int) q g gn false st)) (r7Ru1_l3_s34 (r7Ru1_l3_T.mk to (i : Int) q g gn false st)) (r7Ru1_l3_s38 (r7Ru1_l3_T.mk to (i : Int) q g gn false st)) (r7Ru1_l3_s39 (r7Ru1_l3_T.mk to (i : Int) q g gn false st)) (r7Ru1_l3_s40 (r7Ru1_l3_T.mk to (i : Int) q g gn false st)) (r7Ru1_l3_s41 (r7Ru1_l3_T.mk to (i : Int) q g gn false st))] = _
    rw [xa0 E, xa1 E, xa2 E, xa3 E, xb0 E, xb1 E, xb2 E, xb3 E, w]
  rw [r21, x31 E, r46, hq, e4.1, e2]
  refine ⟨rfl, e4.2, ?_, ?_, ?_⟩
  · unfold vSt1_3
    rw [v18]; rfl
  · unfold vSt1_1
    rw [v18]; rfl
  · intro _
    unfold vSt1_0
    rw [v18]; rfl
theorem rs9 (hc : rget p i 0 = 9) : (bif r7Ru1_l3_s21 (r7Ru1_l3_T.mk to (i : Int) q g gn false st) then List.set g (r7Ru1_l3_s31 (r7Ru1_l3_T.mk to (i : Int) q g gn false st)) [rget (r7Ru1_l3_s45 (r7Ru1_l3_T.mk to (i : Int) q g gn false st)) 0 0, rget (r7Ru1_l3_s45 (r7Ru1_l3_T.mk to (i : Int) q g gn false st)) 1 0, rget (r7Ru1_l3_s45 (r7Ru1_l3_T.mk to (i : Int) q g gn false st)) 2 0, rget (r7Ru1_l3_s45 (r7Ru1_l3_T.mk to (i : Int) q g gn false st)) 3 0] else g) = vSt1_2 (i : Int) g p ∧ Rg (vSt1_2 (i : Int) g p) ∧ (bif r7Ru1_l3_s46 (r7Ru1_l3_T.mk to (i : Int) q g gn false st) then true else gn) = vSt1_3 (i : Int) g gn p ∧ (bif r7Ru1_l3_s46 (r7Ru1_l3_T.mk to (i : Int) q g gn false st) then true else bif rget q (Int.toNat (i : Int)) 0 == 0 then true else false) = !vSt1_1 (i : Int) g p ∧ (vSt1_1 (i : Int) g p = true → (bif bif rget q (Int.toNat (i : Int)) 0 == 11 then r7Ru1_l3_s29 (r7Ru1_l3_T.mk to (i : Int) q g gn false st) else false then IntKind.wrap .i64 (r7Ru1_l3_s30 (r7Ru1_l3_T.mk to (i : Int) q g gn false st) + rget q (Int.toNat (i : Int)) 4) else r7Ru1_l3_s30 (r7Ru1_l3_T.mk to (i : Int) q g gn false st)) = vSt1_0 (i : Int) g p) := by
  have hp : rget p (Int.toNat (i : Int)) 0 = 9 := by rw [Int.toNat_natCast, hc]
  have hq : rget q (Int.toNat (i : Int)) 0 = 9 := by rw [qp E (by decide), hp]
  have r6 : r7Ru1_l3_s6 (r7Ru1_l3_T.mk to (i : Int) q g gn false st) = false := by
    show (rget q (Int.toNat (i : Int)) 0 == 1) = _
    rw [hq]; rfl
  have r7 : r7Ru1_l3_s7 (r7Ru1_l3_T.mk to (i : Int) q g gn false st) = false := by
    show (rget q (Int.toNat (i : Int)) 0 == 2) = _
    rw [hq]; rfl
  have r8 : r7Ru1_l3_s8 (r7Ru1_l3_T.mk to (i : Int) q g gn false st) = false := by
    show (rget q (Int.toNat (i : Int)) 0 == 8) = _
    rw [hq]; rfl
  have r9 : r7Ru1_l3_s9 (r7Ru1_l3_T.mk to (i : Int) q g gn false st) = true := by
    show (rget q (Int.toNat (i : Int)) 0 == 9) = _
    rw [hq]; rfl
  have r11 : r7Ru1_l3_s11 (r7Ru1_l3_T.mk to (i : Int) q g gn false st) = false := by
    show (rget q (Int.toNat (i : Int)) 0 == 10) = _
    rw [hq]; rfl
  have r13 : r7Ru1_l3_s13 (r7Ru1_l3_T.mk to (i : Int) q g gn false st) = false := by
    show (rget q (Int.toNat (i : Int)) 0 == 14) = _
    rw [hq]; rfl
  have r20 : r7Ru1_l3_s20 (r7Ru1_l3_T.mk to (i : Int) q g gn false st) = false := by
    show (bif decide (3 ≤ rget q (Int.toNat (i : Int)) 0) then decide (rget q (Int.toNat (i : Int)) 0 ≤ 7) else false) = _
    rw [hq]; rfl
  have r21 : r7Ru1_l3_s21 (r7Ru1_l3_T.mk to (i : Int) q g gn false st) = true := by
    unfold r7Ru1_l3_s21
    rw [r20, r6, r7, r8, r9, r11, r13]; rfl
  have v0 : vSt1_s0 (i : Int) p = false := by
    unfold vSt1_s0
    rw [hp]; rfl
  have v1 : vSt1_s1 (i : Int) p = false := by
    unfold vSt1_s1
    rw [hp]; rfl
  have v2 : vSt1_s2 (i : Int) p = false := by
    unfold vSt1_s2
    rw [hp]; rfl
  have v3 : vSt1_s3 (i : Int) p = false := by
    unfold vSt1_s3
    rw [hp]; rfl
  have v4 : vSt1_s4 (i : Int) p = false := by
    unfold vSt1_s4
    rw [hp]; rfl
  have v5 : vSt1_s5 (i : Int) p = false := by
    unfold vSt1_s5
    rw [hp]; rfl
  have v6 : vSt1_s6 (i : Int) p = false := by
    unfold vSt1_s6
    rw [hp]; rfl
  have v7 : vSt1_s7 (i : Int) p = false := by
    unfold vSt1_s7
    rw [hp]; rfl
  have v8 : vSt1_s8 (i : Int) p = false := by
    unfold vSt1_s8
    rw [hp]; rfl
  have v9 : vSt1_s9 (i : Int) p = true := by
    unfold vSt1_s9
    rw [hp]; rfl
  have v10 : vSt1_s10 (i : Int) p = false := by
    unfold vSt1_s10
    rw [hp]; rfl
  have v11 : vSt1_s11 (i : Int) p = false := by
    unfold vSt1_s11
    rw [hp]; rfl
  have v16 : vSt1_s16 (i : Int) p = false := by
    unfold vSt1_s16
    rw [hp]; rfl
  have v17 : vSt1_s17 (i : Int) p = false := by
    unfold vSt1_s17
    rw [hp]; rfl
  have v36 : vSt1_s36 (i : Int) p = false := by
    unfold vSt1_s36
    rw [hp]; rfl
  have v18 : vSt1_s18 (i : Int) g p = false := by
    unfold vSt1_s18
    rw [v0, v1, v2, v3, v4, v5, v6, v7, v8, v9, v10, v11, v16, v17]
    rfl
  have r29 : r7Ru1_l3_s29 (r7Ru1_l3_T.mk to (i : Int) q g gn false st) = vSt1_s15 (i : Int) g p := by
    unfold r7Ru1_l3_s29 vSt1_s15
    rw [xa0 E]
  have r46 : r7Ru1_l3_s46 (r7Ru1_l3_T.mk to (i : Int) q g gn false st) = false := by
    show (bif rget q (Int.toNat (i : Int)) 0 == 13 then r7Ru1_l3_s29 (r7Ru1_l3_T.mk to (i : Int) q g gn false st) else false) = _
    rw [hq, r29]; rfl
  have e2 : vSt1_2 (i : Int) g p = g.set (Int.toNat (rget p (Int.toNat (i : Int)) 1)) [vSt1_s33 (i : Int) g p, vSt1_s33 (i : Int) g p, vSt1_s33 (i : Int) g p, vSt1_s33 (i : Int) g p] := by
    unfold vSt1_2
    rw [v18, v1, v2, v3, v4, v5, v6, v7, v8, v9, v10, v11, v17, v36]; rfl
  have e4 : [rget (r7Ru1_l3_s45 (r7Ru1_l3_T.mk to (i : Int) q g gn false st)) 0 0, rget (r7Ru1_l3_s45 (r7Ru1_l3_T.mk to (i : Int) q g gn false st)) 1 0, rget (r7Ru1_l3_s45 (r7Ru1_l3_T.mk to (i : Int) q g gn false st)) 2 0, rget (r7Ru1_l3_s45 (r7Ru1_l3_T.mk to (i : Int) q g gn false st)) 3 0] = [vSt1_s33 (i : Int) g p, vSt1_s33 (i : Int) g p, vSt1_s33 (i : Int) g p, vSt1_s33 (i : Int) g p] ∧ Rg (g.set (Int.toNat (rget p (Int.toNat (i : Int)) 1)) [vSt1_s33 (i : Int) g p, vSt1_s33 (i : Int) g p, vSt1_s33 (i : Int) g p, vSt1_s33 (i : Int) g p]) := by
    unfold r7Ru1_l3_s45 r7Ru1_l3_s44
    rw [r20, r6, r7, r8, r9, r11, r13]
    have f3 := B.f i 3 (by omega)
    have k4 : (Int.toNat (rget p i 3 % 4)) < 4 := by omega
    have w : rget (r7Ru1_l3_s23 (r7Ru1_l3_T.mk to (i : Int) q g gn false st)) (Int.toNat (r7Ru1_l3_s10 (r7Ru1_l3_T.mk to (i : Int) q g gn false st))) 0 = vSt1_s33 (i : Int) g p ∧ In (vSt1_s33 (i : Int) g p) := by
      unfold vSt1_s33 vSt1_s23
      rw [s32_eq, show r7Ru1_l3_s10 (r7Ru1_l3_T.mk to (i : Int) q g gn false st) = Int.tmod (rget q (Int.toNat (i : Int)) 3) 4 from rfl, qp E (by decide), gI, Int.tmod_eq_emod_of_nonneg f3.1]
      generalize Int.toNat (rget p i 3 % 4) = k at k4
      match k, k4 with
      | 0, _ => exact ⟨xa0 E, ia0 R⟩
      | 1, _ => exact ⟨xa1 E, ia1 R⟩
      | 2, _ => exact ⟨xa2 E, ia2 R⟩
      | 3, _ => exact ⟨xa3 E, ia3 R⟩
    refine ⟨?_, R.set w.2 w.2 w.2 w.2⟩
    show [rget (r7Ru1_l3_s23 (r7Ru1_l3_T.mk to (i : Int) q g gn false st)) (Int.toNat (r7Ru1_l3_s10 (r7Ru1_l3_T.mk to (i : Int) q g gn false st))) 0, rget (r7Ru1_l3_s23 (r7Ru1_l3_T.mk to (i : Int) q g gn false st)) (Int.toNat (r7Ru1_l3_s10 (r7Ru1_l3_T.mk to (i : Int) q g gn false st))) 0, rget (r7Ru1_l3_s23 (r7Ru1_l3_T.mk to (i : Int) q g gn false st)) (Int.toNat (r7Ru1_l3_s10 (r7Ru1_l3_T.mk to (i : Int) q g gn false st))) 0, rget (r7Ru1_l3_s23 (r7Ru1_l3_T.mk to (i : Int) q g gn false st)) (Int.toNat (r7Ru1_l3_s10 (r7Ru1_l3_T.mk to (i : Int) q g gn false st))) 0] = _
    rw [w.1]
  rw [r21, x31 E, r46, hq, e4.1, e2]
  refine ⟨rfl, e4.2, ?_, ?_, ?_⟩
  · unfold vSt1_3
    rw [v18]; rfl
  · unfold vSt1_1
    rw [v18]; rfl
  · intro _
    unfold vSt1_0
    rw [v18]; rfl
theorem rs10 (hc : rget p i 0 = 10) : (bif r7Ru1_l3_s21 (r7Ru1_l3_T.mk to (i : Int) q g gn false st) then List.set g (r7Ru1_l3_s31 (r7Ru1_l3_T.mk to (i : Int) q g gn false st)) [rget (r7Ru1_l3_s45 (r7Ru1_l3_T.mk to (i : Int) q g gn false st)) 0 0, rget (r7Ru1_l3_s45 (r7Ru1_l3_T.mk to (i : Int) q g gn false st)) 1 0, rget (r7Ru1_l3_s45 (r7Ru1_l3_T.mk to (i : Int) q g gn false st)) 2 0, rget (r7Ru1_l3_s45 (r7Ru1_l3_T.mk to (i : Int) q g gn false st)) 3 0] else g) = vSt1_2 (i : Int) g p ∧ Rg (vSt1_2 (i : Int) g p) ∧ (bif r7Ru1_l3_s46 (r7Ru1_l3_T.mk to (i : Int) q g gn false st) then true else gn) = vSt1_3 (i : Int) g gn p ∧ (bif r7Ru1_l3_s46 (r7Ru1_l3_T.mk to (i : Int) q g gn false st) then true else bif rget q (Int.toNat (i : Int)) 0 == 0 then true else false) = !vSt1_1 (i : Int) g p ∧ (vSt1_1 (i : Int) g p = true → (bif bif rget q (Int.toNat (i : Int)) 0 == 11 then r7Ru1_l3_s29 (r7Ru1_l3_T.mk to (i : Int) q g gn false st) else false then IntKind.wrap .i64 (r7Ru1_l3_s30 (r7Ru1_l3_T.mk to (i : Int) q g gn false st) + rget q (Int.toNat (i : Int)) 4) else r7Ru1_l3_s30 (r7Ru1_l3_T.mk to (i : Int) q g gn false st)) = vSt1_0 (i : Int) g p) := by
  have hp : rget p (Int.toNat (i : Int)) 0 = 10 := by rw [Int.toNat_natCast, hc]
  have hq : rget q (Int.toNat (i : Int)) 0 = 10 := by rw [qp E (by decide), hp]
  have r6 : r7Ru1_l3_s6 (r7Ru1_l3_T.mk to (i : Int) q g gn false st) = false := by
    show (rget q (Int.toNat (i : Int)) 0 == 1) = _
    rw [hq]; rfl
  have r7 : r7Ru1_l3_s7 (r7Ru1_l3_T.mk to (i : Int) q g gn false st) = false := by
    show (rget q (Int.toNat (i : Int)) 0 == 2) = _
    rw [hq]; rfl
  have r8 : r7Ru1_l3_s8 (r7Ru1_l3_T.mk to (i : Int) q g gn false st) = false := by
    show (rget q (Int.toNat (i : Int)) 0 == 8) = _
    rw [hq]; rfl
  have r9 : r7Ru1_l3_s9 (r7Ru1_l3_T.mk to (i : Int) q g gn false st) = false := by
    show (rget q (Int.toNat (i : Int)) 0 == 9) = _
    rw [hq]; rfl
  have r11 : r7Ru1_l3_s11 (r7Ru1_l3_T.mk to (i : Int) q g gn false st) = true := by
    show (rget q (Int.toNat (i : Int)) 0 == 10) = _
    rw [hq]; rfl
  have r13 : r7Ru1_l3_s13 (r7Ru1_l3_T.mk to (i : Int) q g gn false st) = false := by
    show (rget q (Int.toNat (i : Int)) 0 == 14) = _
    rw [hq]; rfl
  have r20 : r7Ru1_l3_s20 (r7Ru1_l3_T.mk to (i : Int) q g gn false st) = false := by
    show (bif decide (3 ≤ rget q (Int.toNat (i : Int)) 0) then decide (rget q (Int.toNat (i : Int)) 0 ≤ 7) else false) = _
    rw [hq]; rfl
  have r21 : r7Ru1_l3_s21 (r7Ru1_l3_T.mk to (i : Int) q g gn false st) = true := by
    unfold r7Ru1_l3_s21
    rw [r20, r6, r7, r8, r9, r11, r13]; rfl
  have v0 : vSt1_s0 (i : Int) p = false := by
    unfold vSt1_s0
    rw [hp]; rfl
  have v1 : vSt1_s1 (i : Int) p = false := by
    unfold vSt1_s1
    rw [hp]; rfl
  have v2 : vSt1_s2 (i : Int) p = false := by
    unfold vSt1_s2
    rw [hp]; rfl
  have v3 : vSt1_s3 (i : Int) p = false := by
    unfold vSt1_s3
    rw [hp]; rfl
  have v4 : vSt1_s4 (i : Int) p = false := by
    unfold vSt1_s4
    rw [hp]; rfl
  have v5 : vSt1_s5 (i : Int) p = false := by
    unfold vSt1_s5
    rw [hp]; rfl
  have v6 : vSt1_s6 (i : Int) p = false := by
    unfold vSt1_s6
    rw [hp]; rfl
  have v7 : vSt1_s7 (i : Int) p = false := by
    unfold vSt1_s7
    rw [hp]; rfl
  have v8 : vSt1_s8 (i : Int) p = false := by
    unfold vSt1_s8
    rw [hp]; rfl
  have v9 : vSt1_s9 (i : Int) p = false := by
    unfold vSt1_s9
    rw [hp]; rfl
  have v10 : vSt1_s10 (i : Int) p = true := by
    unfold vSt1_s10
    rw [hp]; rfl
  have v11 : vSt1_s11 (i : Int) p = false := by
    unfold vSt1_s11
    rw [hp]; rfl
  have v16 : vSt1_s16 (i : Int) p = false := by
    unfold vSt1_s16
    rw [hp]; rfl
  have v17 : vSt1_s17 (i : Int) p = false := by
    unfold vSt1_s17
    rw [hp]; rfl
  have v36 : vSt1_s36 (i : Int) p = false := by
    unfold vSt1_s36
    rw [hp]; rfl
  have v18 : vSt1_s18 (i : Int) g p = false := by
    unfold vSt1_s18
    rw [v0, v1, v2, v3, v4, v5, v6, v7, v8, v9, v10, v11, v16, v17]
    rfl
  have r29 : r7Ru1_l3_s29 (r7Ru1_l3_T.mk to (i : Int) q g gn false st) = vSt1_s15 (i : Int) g p := by
    unfold r7Ru1_l3_s29 vSt1_s15
    rw [xa0 E]
  have r46 : r7Ru1_l3_s46 (r7Ru1_l3_T.mk to (i : Int) q g gn false st) = false := by
    show (bif rget q (Int.toNat (i : Int)) 0 == 13 then r7Ru1_l3_s29 (r7Ru1_l3_T.mk to (i : Int) q g gn false st) else false) = _
    rw [hq, r29]; rfl
  have e2 : vSt1_2 (i : Int) g p = g.set (Int.toNat (rget p (Int.toNat (i : Int)) 1)) (wr (g.getD (Int.toNat (rget p (Int.toNat (i : Int)) 1)) []) (0 + Int.toNat (vSt1_s32 (i : Int) p)) [List.getD (vSt1_s23 (i : Int) g p) (Int.toNat (vSt1_s35 (i : Int) p)) 0]) := by
    unfold vSt1_2
    rw [v18, v1, v2, v3, v4, v5, v6, v7, v8, v9, v10, v11, v17, v36]; rfl
  have e4 : [rget (r7Ru1_l3_s45 (r7Ru1_l3_T.mk to (i : Int) q g gn false st)) 0 0, rget (r7Ru1_l3_s45 (r7Ru1_l3_T.mk to (i : Int) q g gn false st)) 1 0, rget (r7Ru1_l3_s45 (r7Ru1_l3_T.mk to (i : Int) q g gn false st)) 2 0, rget (r7Ru1_l3_s45 (r7Ru1_l3_T.mk to (i : Int) q g gn false st)) 3 0] = (wr (g.getD (Int.toNat (rget p (Int.toNat (i : Int)) 1)) []) (0 + Int.toNat (vSt1_s32 (i : Int) p)) [List.getD (vSt1_s23 (i : Int) g p) (Int.toNat (vSt1_s35 (i : Int) p)) 0]) ∧ Rg (g.set (Int.toNat (rget p (Int.toNat (i : Int)) 1)) (wr (g.getD (Int.toNat (rget p (Int.toNat (i : Int)) 1)) []) (0 + Int.toNat (vSt1_s32 (i : Int) p)) [List.getD (vSt1_s23 (i : Int) g p) (Int.toNat (vSt1_s35 (i : Int) p)) 0])) := by
    unfold r7Ru1_l3_s45 r7Ru1_l3_s44
    rw [r20, r6, r7, r8, r9, r11, r13]
    have f3 := B.f i 3 (by omega)
    have f1 := B.f i 1 (by omega)
    have d12 := I.dst
    have bm := B.m i
    have k4 : (Int.toNat (rget p i 3 % 4)) < 4 := by omega
    have m4 : (Int.toNat (rget p i 4 % 4)) < 4 := by omega
    have t10 : r7Ru1_l3_s10 (r7Ru1_l3_T.mk to (i : Int) q g gn false st) = rget p i 3 % 4 := by
      show Int.tmod (rget q (Int.toNat (i : Int)) 3) 4 = _
      rw [qp E (by decide), gI, Int.tmod_eq_emod_of_nonneg f3.1]
    have t12 : r7Ru1_l3_s12 (r7Ru1_l3_T.mk to (i : Int) q g gn false st) = rget p i 4 % 4 := by
      show Int.tmod (IntKind.wrap .i64 (Int.tmod (rget q (Int.toNat (i : Int)) 4) 4 + 4)) 4 = _
      rw [qp E (by decide), gI]
      have t : Int.tmod (rget p i 4) 4 = rget p i 4 % 4 ∨ (Int.tmod (rget p i 4) 4 = rget p i 4 % 4 - 4) := by
        rcases Int.le_total 0 (rget p i 4) with h | h
        · exact .inl (Int.tmod_eq_emod_of_nonneg h)
        · have e : Int.tmod (rget p i 4) 4 = -((-(rget p i 4)) % 4) := by
            rw [← Int.tmod_eq_emod_of_nonneg (show 0 ≤ -(rget p i 4) by omega), Int.neg_tmod, Int.neg_neg]
          rw [e]; omega
      rw [w64_in (by omega) (by omega), Int.tmod_eq_emod_of_nonneg (by omega)]
      omega
    have w : rget (r7Ru1_l3_s23 (r7Ru1_l3_T.mk to (i : Int) q g gn false st)) (Int.toNat (r7Ru1_l3_s12 (r7Ru1_l3_T.mk to (i : Int) q g gn false st))) 0 = List.getD (vSt1_s23 (i : Int) g p) (Int.toNat (vSt1_s35 (i : Int) p)) 0 ∧ In (List.getD (vSt1_s23 (i : Int) g p) (Int.toNat (vSt1_s35 (i : Int) p)) 0) := by
      unfold vSt1_s23
      rw [s35_eq, t12, gI]
      generalize Int.toNat (rget p i 4 % 4) = k at m4
      match k, m4 with
      | 0, _ => exact ⟨xa0 E, ia0 R⟩
      | 1, _ => exact ⟨xa1 E, ia1 R⟩
      | 2, _ => exact ⟨xa2 E, ia2 R⟩
      | 3, _ => exact ⟨xa3 E, ia3 R⟩
    have hd : Int.toNat (rget p (Int.toNat (i : Int)) 1) < 12 := by rw [gI]; omega
    rw [R.four hd, s32_eq, gI (p) 3, t10, w.1, x31 E, Nat.zero_add]
    generalize List.getD (vSt1_s23 (i : Int) g p) (Int.toNat (vSt1_s35 (i : Int) p)) 0 = z at w
    generalize Int.toNat (rget p (Int.toNat (i : Int)) 1) = d at hd
    generalize Int.toNat (rget p i 3 % 4) = k at k4
    match k, k4 with
    | 0, _ => exact ⟨rfl, R.set w.2 (R.inn _ _) (R.inn _ _) (R.inn _ _)⟩
    | 1, _ => exact ⟨rfl, R.set (R.inn _ _) w.2 (R.inn _ _) (R.inn _ _)⟩
    | 2, _ => exact ⟨rfl, R.set (R.inn _ _) (R.inn _ _) w.2 (R.inn _ _)⟩
    | 3, _ => exact ⟨rfl, R.set (R.inn _ _) (R.inn _ _) (R.inn _ _) w.2⟩
  rw [r21, x31 E, r46, hq, e4.1, e2]
  refine ⟨rfl, e4.2, ?_, ?_, ?_⟩
  · unfold vSt1_3
    rw [v18]; rfl
  · unfold vSt1_1
    rw [v18]; rfl
  · intro _
    unfold vSt1_0
    rw [v18]; rfl
theorem rs11 (hc : rget p i 0 = 11) : (bif r7Ru1_l3_s21 (r7Ru1_l3_T.mk to (i : Int) q g gn false st) then List.set g (r7Ru1_l3_s31 (r7Ru1_l3_T.mk to (i : Int) q g gn false st)) [rget (r7Ru1_l3_s45 (r7Ru1_l3_T.mk to (i : Int) q g gn false st)) 0 0, rget (r7Ru1_l3_s45 (r7Ru1_l3_T.mk to (i : Int) q g gn false st)) 1 0, rget (r7Ru1_l3_s45 (r7Ru1_l3_T.mk to (i : Int) q g gn false st)) 2 0, rget (r7Ru1_l3_s45 (r7Ru1_l3_T.mk to (i : Int) q g gn false st)) 3 0] else g) = vSt1_2 (i : Int) g p ∧ Rg (vSt1_2 (i : Int) g p) ∧ (bif r7Ru1_l3_s46 (r7Ru1_l3_T.mk to (i : Int) q g gn false st) then true else gn) = vSt1_3 (i : Int) g gn p ∧ (bif r7Ru1_l3_s46 (r7Ru1_l3_T.mk to (i : Int) q g gn false st) then true else bif rget q (Int.toNat (i : Int)) 0 == 0 then true else false) = !vSt1_1 (i : Int) g p ∧ (vSt1_1 (i : Int) g p = true → (bif bif rget q (Int.toNat (i : Int)) 0 == 11 then r7Ru1_l3_s29 (r7Ru1_l3_T.mk to (i : Int) q g gn false st) else false then IntKind.wrap .i64 (r7Ru1_l3_s30 (r7Ru1_l3_T.mk to (i : Int) q g gn false st) + rget q (Int.toNat (i : Int)) 4) else r7Ru1_l3_s30 (r7Ru1_l3_T.mk to (i : Int) q g gn false st)) = vSt1_0 (i : Int) g p) := by
  have hp : rget p (Int.toNat (i : Int)) 0 = 11 := by rw [Int.toNat_natCast, hc]
  have hq : rget q (Int.toNat (i : Int)) 0 = 11 := by rw [qp E (by decide), hp]
  have r6 : r7Ru1_l3_s6 (r7Ru1_l3_T.mk to (i : Int) q g gn false st) = false := by
    show (rget q (Int.toNat (i : Int)) 0 == 1) = _
    rw [hq]; rfl
  have r7 : r7Ru1_l3_s7 (r7Ru1_l3_T.mk to (i : Int) q g gn false st) = false := by
    show (rget q (Int.toNat (i : Int)) 0 == 2) = _
    rw [hq]; rfl
  have r8 : r7Ru1_l3_s8 (r7Ru1_l3_T.mk to (i : Int) q g gn false st) = false := by
    show (rget q (Int.toNat (i : Int)) 0 == 8) = _
    rw [hq]; rfl
  have r9 : r7Ru1_l3_s9 (r7Ru1_l3_T.mk to (i : Int) q g gn false st) = false := by
    show (rget q (Int.toNat (i : Int)) 0 == 9) = _
    rw [hq]; rfl
  have r11 : r7Ru1_l3_s11 (r7Ru1_l3_T.mk to (i : Int) q g gn false st) = false := by
    show (rget q (Int.toNat (i : Int)) 0 == 10) = _
    rw [hq]; rfl
  have r13 : r7Ru1_l3_s13 (r7Ru1_l3_T.mk to (i : Int) q g gn false st) = false := by
    show (rget q (Int.toNat (i : Int)) 0 == 14) = _
    rw [hq]; rfl
  have r20 : r7Ru1_l3_s20 (r7Ru1_l3_T.mk to (i : Int) q g gn false st) = false := by
    show (bif decide (3 ≤ rget q (Int.toNat (i : Int)) 0) then decide (rget q (Int.toNat (i : Int)) 0 ≤ 7) else false) = _
    rw [hq]; rfl
  have r21 : r7Ru1_l3_s21 (r7Ru1_l3_T.mk to (i : Int) q g gn false st) = false := by
    unfold r7Ru1_l3_s21
    rw [r20, r6, r7, r8, r9, r11, r13]; rfl
  have v0 : vSt1_s0 (i : Int) p = false := by
    unfold vSt1_s0
    rw [hp]; rfl
  have v1 : vSt1_s1 (i : Int) p = false := by
    unfold vSt1_s1
    rw [hp]; rfl
  have v2 : vSt1_s2 (i : Int) p = false := by
    unfold vSt1_s2
    rw [hp]; rfl
  have v3 : vSt1_s3 (i : Int) p = false := by
    unfold vSt1_s3
    rw [hp]; rfl
  have v4 : vSt1_s4 (i : Int) p = false := by
    unfold vSt1_s4
    rw [hp]; rfl
  have v5 : vSt1_s5 (i : Int) p = false := by
    unfold vSt1_s5
    rw [hp]; rfl
  have v6 : vSt1_s6 (i : Int) p = false := by
    unfold vSt1_s6
    rw [hp]; rfl
  have v7 : vSt1_s7 (i : Int) p = false := by
    unfold vSt1_s7
    rw [hp]; rfl
  have v8 : vSt1_s8 (i : Int) p = false := by
    unfold vSt1_s8
    rw [hp]; rfl
  have v9 : vSt1_s9 (i : Int) p = false := by
    unfold vSt1_s9
    rw [hp]; rfl
  have v10 : vSt1_s10 (i : Int) p = false := by
    unfold vSt1_s10
    rw [hp]; rfl
  have v11 : vSt1_s11 (i : Int) p = true := by
    unfold vSt1_s11
    rw [hp]; rfl
  have v16 : vSt1_s16 (i : Int) p = false := by
    unfold vSt1_s16
    rw [hp]; rfl
  have v17 : vSt1_s17 (i : Int) p = false := by
    unfold vSt1_s17
    rw [hp]; rfl
  have v36 : vSt1_s36 (i : Int) p = false := by
    unfold vSt1_s36
    rw [hp]; rfl
  have v18 : vSt1_s18 (i : Int) g p = vSt1_s15 (i : Int) g p := by
    unfold vSt1_s18
    rw [v0, v1, v2, v3, v4, v5, v6, v7, v8, v9, v10, v11, v16, v17]
    cases vSt1_s15 (i : Int) g p <;> rfl
  have r29 : r7Ru1_l3_s29 (r7Ru1_l3_T.mk to (i : Int) q g gn false st) = vSt1_s15 (i : Int) g p := by
    unfold r7Ru1_l3_s29 vSt1_s15
    rw [xa0 E]
  have r46 : r7Ru1_l3_s46 (r7Ru1_l3_T.mk to (i : Int) q g gn false st) = false := by
    show (bif rget q (Int.toNat (i : Int)) 0 == 13 then r7Ru1_l3_s29 (r7Ru1_l3_T.mk to (i : Int) q g gn false st) else false) = _
    rw [hq, r29]; rfl
  have e2 : vSt1_2 (i : Int) g p = g := by
    unfold vSt1_2
    rw [v18, v1, v2, v3, v4, v5, v6, v7, v8, v9, v10, v11, v17, v36]
    cases vSt1_s15 (i : Int) g p <;> rfl
  rw [r21, e2, r46, hq]
  refine ⟨rfl, R, ?_, ?_, ?_⟩
  · unfold vSt1_3
    rw [v18, v0, v11]
    cases vSt1_s15 (i : Int) g p <;> rfl
  · unfold vSt1_1
    rw [v18, v0, v11]
    cases vSt1_s15 (i : Int) g p <;> rfl
  · intro _
    have bm := B.m i
    unfold vSt1_0
    rw [v18, v0, v11, r29, qp E (by decide), gI, w64_in (n := rget p i 4) (by omega) (by omega)]
    cases vSt1_s15 (i : Int) g p <;> rfl
theorem rs13 (hc : rget p i 0 = 13) : (bif r7Ru1_l3_s21 (r7Ru1_l3_T.mk to (i : Int) q g gn false st) then List.set g (r7Ru1_l3_s31 (r7Ru1_l3_T.mk to (i : Int) q g gn false st)) [rget (r7Ru1_l3_s45 (r7Ru1_l3_T.mk to (i : Int) q g gn false st)) 0 0, rget (r7Ru1_l3_s45 (r7Ru1_l3_T.mk to (i : Int) q g gn false st)) 1 0, rget (r7Ru1_l3_s45 (r7Ru1_l3_T.mk to (i : Int) q g gn false st)) 2 0, rget (r7Ru1_l3_s45 (r7Ru1_l3_T.mk to (i : Int) q g gn false st)) 3 0] else g) = vSt1_2 (i : Int) g p ∧ Rg (vSt1_2 (i : Int) g p) ∧ (bif r7Ru1_l3_s46 (r7Ru1_l3_T.mk to (i : Int) q g gn false st) then true else gn) = vSt1_3 (i : Int) g gn p ∧ (bif r7Ru1_l3_s46 (r7Ru1_l3_T.mk to (i : Int) q g gn false st) then true else bif rget q (Int.toNat (i : Int)) 0 == 0 then true else false) = !vSt1_1 (i : Int) g p ∧ (vSt1_1 (i : Int) g p = true → (bif bif rget q (Int.toNat (i : Int)) 0 == 11 then r7Ru1_l3_s29 (r7Ru1_l3_T.mk to (i : Int) q g gn false st) else false then IntKind.wrap .i64 (r7Ru1_l3_s30 (r7Ru1_l3_T.mk to (i : Int) q g gn false st) + rget q (Int.toNat (i : Int)) 4) else r7Ru1_l3_s30 (r7Ru1_l3_T.mk to (i : Int) q g gn false st)) = vSt1_0 (i : Int) g p) := by
  have hp : rget p (Int.toNat (i : Int)) 0 = 13 := by rw [Int.toNat_natCast, hc]
  have hq : rget q (Int.toNat (i : Int)) 0 = 13 := by rw [qp E (by decide), hp]
  have r6 : r7Ru1_l3_s6 (r7Ru1_l3_T.mk to (i : Int) q g gn false st) = false := by
    show (rget q (Int.toNat (i : Int)) 0 == 1) = _
    rw [hq]; rfl
  have r7 : r7Ru1_l3_s7 (r7Ru1_l3_T.mk to (i : Int) q g gn false st) = false := by
    show (rget q (Int.toNat (i : Int)) 0 == 2) = _
    rw [hq]; rfl
  have r8 : r7Ru1_l3_s8 (r7Ru1_l3_T.mk to (i : Int) q g gn false st) = false := by
    show (rget q (Int.toNat (i : Int)) 0 == 8) = _
    rw [hq]; rfl
  have r9 : r7Ru1_l3_s9 (r7Ru1_l3_T.mk to (i : Int) q g gn false st) = false := by
    show (rget q (Int.toNat (i : Int)) 0 == 9) = _
    rw [hq]; rfl
  have r11 : r7Ru1_l3_s11 (r7Ru1_l3_T.mk to (i : Int) q g gn false st) = false := by
    show (rget q (Int.toNat (i : Int)) 0 == 10) = _
    rw [hq]; rfl
  have r13 : r7Ru1_l3_s13 (r7Ru1_l3_T.mk to (i : Int) q g gn false st) = false := by
    show (rget q (Int.toNat (i : Int)) 0 == 14) = _
    rw [hq]; rfl
  have r20 : r7Ru1_l3_s20 (r7Ru1_l3_T.mk to (i : Int) q g gn false st) = false := by
    show (bif decide (3 ≤ rget q (Int.toNat (i : Int)) 0) then decide (rget q (Int.toNat (i : Int)) 0 ≤ 7) else false) = _
    rw [hq]; rfl
  have r21 : r7Ru1_l3_s21 (r7Ru1_l3_T.mk to (i : Int) q g gn false st) = false := by
    unfold r7Ru1_l3_s21
    rw [r20, r6, r7, r8, r9, r11, r13]; rfl
  have v0 : vSt1_s0 (i : Int) p = false := by
    unfold vSt1_s0
    rw [hp]; rfl
  have v1 : vSt1_s1 (i : Int) p = false := by
    unfold vSt1_s1
    rw [hp]; rfl
  have v2 : vSt1_s2 (i : Int) p = false := by
    unfold vSt1_s2
    rw [hp]; rfl
  have v3 : vSt1_s3 (i : Int) p = false := by
    unfold vSt1_s3
    rw [hp]; rfl
  have v4 : vSt1_s4 (i : Int) p = false := by
    unfold vSt1_s4
    rw [hp]; rfl
  have v5 : vSt1_s5 (i : Int) p = false := by
    unfold vSt1_s5
    rw [hp]; rfl
  have v6 : vSt1_s6 (i : Int) p = false := by
    unfold vSt1_s6
    rw [hp]; rfl
  have v7 : vSt1_s7 (i : Int) p = false := by
    unfold vSt1_s7
    rw [hp]; rfl
  have v8 : vSt1_s8 (i : Int) p = false := by
    unfold vSt1_s8
    rw [hp]; rfl
  have v9 : vSt1_s9 (i : Int) p = false := by
    unfold vSt1_s9
    rw [hp]; rfl
  have v10 : vSt1_s10 (i : Int) p = false := by
    unfold vSt1_s10
    rw [hp]; rfl
  have v11 : vSt1_s11 (i : Int) p = false := by
    unfold vSt1_s11
    rw [hp]; rfl
  have v16 : vSt1_s16 (i : Int) p = false := by
    unfold vSt1_s16
    rw [hp]; rfl
  have v17 : vSt1_s17 (i : Int) p = true := by
    unfold vSt1_s17
    rw [hp]; rfl
  have v36 : vSt1_s36 (i : Int) p = false := by
    unfold vSt1_s36
    rw [hp]; rfl
  have v18 : vSt1_s18 (i : Int) g p = vSt1_s15 (i : Int) g p := by
    unfold vSt1_s18
    rw [v0, v1, v2, v3, v4, v5, v6, v7, v8, v9, v10, v11, v16, v17]
    cases vSt1_s15 (i : Int) g p <;> rfl
  have r29 : r7Ru1_l3_s29 (r7Ru1_l3_T.mk to (i : Int) q g gn false st) = vSt1_s15 (i : Int) g p := by
    unfold r7Ru1_l3_s29 vSt1_s15
    rw [xa0 E]
  have r46 : r7Ru1_l3_s46 (r7Ru1_l3_T.mk to (i : Int) q g gn false st) = vSt1_s15 (i : Int) g p := by
    show (bif rget q (Int.toNat (i : Int)) 0 == 13 then r7Ru1_l3_s29 (r7Ru1_l3_T.mk to (i : Int) q g gn false st) else false) = _
    rw [hq, r29]; rfl
  have e2 : vSt1_2 (i : Int) g p = g := by
    unfold vSt1_2
    rw [v18, v1, v2, v3, v4, v5, v6, v7, v8, v9, v10, v11, v17, v36]
    cases vSt1_s15 (i : Int) g p <;> rfl
  rw [r21, e2, r46, hq]
  refine ⟨rfl, R, ?_, ?_, ?_⟩
  · unfold vSt1_3
    rw [v18, v0, v11, v16]
    cases vSt1_s15 (i : Int) g p <;> rfl
  · unfold vSt1_1
    rw [v18, v0, v11, v16]
    cases vSt1_s15 (i : Int) g p <;> rfl
  · intro h
    unfold vSt1_0
    rw [v18, v0, v11, v16]
    unfold vSt1_1 at h
    rw [v18, v0, v11, v16] at h
    cases k : vSt1_s15 (i : Int) g p with
    | false => rfl
    | true => rw [k] at h; exact absurd (show false = true from h) (by decide)
theorem rs14 (hc : rget p i 0 = 14) : (bif r7Ru1_l3_s21 (r7Ru1_l3_T.mk to (i : Int) q g gn false st) then List.set g (r7Ru1_l3_s31 (r7Ru1_l3_T.mk to (i : Int) q g gn false st)) [rget (r7Ru1_l3_s45 (r7Ru1_l3_T.mk to (i : Int) q g gn false st)) 0 0, rget (r7Ru1_l3_s45 (r7Ru1_l3_T.mk to (i : Int) q g gn false st)) 1 0, rget (r7Ru1_l3_s45 (r7Ru1_l3_T.mk to (i : Int) q g gn false st)) 2 0, rget (r7Ru1_l3_s45 (r7Ru1_l3_T.mk to (i : Int) q g gn false st)) 3 0] else g) = vSt1_2 (i : Int) g p ∧ Rg (vSt1_2 (i : Int) g p) ∧ (bif r7Ru1_l3_s46 (r7Ru1_l3_T.mk to (i : Int) q g gn false st) then true else gn) = vSt1_3 (i : Int) g gn p ∧ (bif r7Ru1_l3_s46 (r7Ru1_l3_T.mk to (i : Int) q g gn false st) then true else bif rget q (Int.toNat (i : Int)) 0 == 0 then true else false) = !vSt1_1 (i : Int) g p ∧ (vSt1_1 (i : Int) g p = true → (bif bif rget q (Int.toNat (i : Int)) 0 == 11 then r7Ru1_l3_s29 (r7Ru1_l3_T.mk to (i : Int) q g gn false st) else false then IntKind.wrap .i64 (r7Ru1_l3_s30 (r7Ru1_l3_T.mk to (i : Int) q g gn false st) + rget q (Int.toNat (i : Int)) 4) else r7Ru1_l3_s30 (r7Ru1_l3_T.mk to (i : Int) q g gn false st)) = vSt1_0 (i : Int) g p) := by
  have hp : rget p (Int.toNat (i : Int)) 0 = 14 := by rw [Int.toNat_natCast, hc]
  have hq : rget q (Int.toNat (i : Int)) 0 = 14 := by rw [qp E (by decide), hp]
  have r6 : r7Ru1_l3_s6 (r7Ru1_l3_T.mk to (i : Int) q g gn false st) = false := by
    show (rget q (Int.toNat (i : Int)) 0 == 1) = _
    rw [hq]; rfl
  have r7 : r7Ru1_l3_s7 (r7Ru1_l3_T.mk to (i : Int) q g gn false st) = false := by
    show (rget q (Int.toNat (i : Int)) 0 == 2) = _
    rw [hq]; rfl
  have r8 : r7Ru1_l3_s8 (r7Ru1_l3_T.mk to (i : Int) q g gn false st) = false := by
    show (rget q (Int.toNat (i : Int)) 0 == 8) = _
    rw [hq]; rfl
  have r9 : r7Ru1_l3_s9 (r7Ru1_l3_T.mk to (i : Int) q g gn false st) = false := by
    show (rget q (Int.toNat (i : Int)) 0 == 9) = _
    rw [hq]; rfl
  have r11 : r7Ru1_l3_s11 (r7Ru1_l3_T.mk to (i : Int) q g gn false st) = false := by
    show (rget q (Int.toNat (i : Int)) 0 == 10) = _
    rw [hq]; rfl
  have r13 : r7Ru1_l3_s13 (r7Ru1_l3_T.mk to (i : Int) q g gn false st) = true := by
    show (rget q (Int.toNat (i : Int)) 0 == 14) = _
    rw [hq]; rfl
  have r20 : r7Ru1_l3_s20 (r7Ru1_l3_T.mk to (i : Int) q g gn false st) = false := by
    show (bif decide (3 ≤ rget q (Int.toNat (i : Int)) 0) then decide (rget q (Int.toNat (i : Int)) 0 ≤ 7) else false) = _
    rw [hq]; rfl
  have r21 : r7Ru1_l3_s21 (r7Ru1_l3_T.mk to (i : Int) q g gn false st) = true := by
    unfold r7Ru1_l3_s21
    rw [r20, r6, r7, r8, r9, r11, r13]; rfl
  have v0 : vSt1_s0 (i : Int) p = false := by
    unfold vSt1_s0
    rw [hp]; rfl
  have v1 : vSt1_s1 (i : Int) p = false := by
    unfold vSt1_s1
    rw [hp]; rfl
  have v2 : vSt1_s2 (i : Int) p = false := by
    unfold vSt1_s2
    rw [hp]; rfl
  have v3 : vSt1_s3 (i : Int) p = false := by
    unfold vSt1_s3
    rw [hp]; rfl
  have v4 : vSt1_s4 (i : Int) p = false := by
    unfold vSt1_s4
    rw [hp]; rfl
  have v5 : vSt1_s5 (i : Int) p = false := by
    unfold vSt1_s5
    rw [hp]; rfl
  have v6 : vSt1_s6 (i : Int) p = false := by
    unfold vSt1_s6
    rw [hp]; rfl
  have v7 : vSt1_s7 (i : Int) p = false := by
    unfold vSt1_s7
    rw [hp]; rfl
  have v8 : vSt1_s8 (i : Int) p = false := by
    unfold vSt1_s8
    rw [hp]; rfl
  have v9 : vSt1_s9 (i : Int) p = false := by
    unfold vSt1_s9
    rw [hp]; rfl
  have v10 : vSt1_s10 (i : Int) p = false := by
    unfold vSt1_s10
    rw [hp]; rfl
  have v11 : vSt1_s11 (i : Int) p = false := by
    unfold vSt1_s11
    rw [hp]; rfl
  have v16 : vSt1_s16 (i : Int) p = false := by
    unfold vSt1_s16
    rw [hp]; rfl
  have v17 : vSt1_s17 (i : Int) p = false := by
    unfold vSt1_s17
    rw [hp]; rfl
  have v36 : vSt1_s36 (i : Int) p = true := by
    unfold vSt1_s36
    rw [hp]; rfl
  have v18 : vSt1_s18 (i : Int) g p = false := by
    unfold vSt1_s18
    rw [v0, v1, v2, v3, v4, v5, v6, v7, v8, v9, v10, v11, v16, v17]
    rfl
  have r29 : r7Ru1_l3_s29 (r7Ru1_l3_T.mk to (i : Int) q g gn false st) = vSt1_s15 (i : Int) g p := by
    unfold r7Ru1_l3_s29 vSt1_s15
    rw [xa0 E]
  have r46 : r7Ru1_l3_s46 (r7Ru1_l3_T.mk to (i : Int) q g gn false st) = false := by
    show (bif rget q (Int.toNat (i : Int)) 0 == 13 then r7Ru1_l3_s29 (r7Ru1_l3_T.mk to (i : Int) q g gn false st) else false) = _
    rw [hq, r29]; rfl
  have e2 : vSt1_2 (i : Int) g p = g.set (Int.toNat (rget p (Int.toNat (i : Int)) 1)) [vTi_0 (vSt1_s12 (i : Int) g p) (vSt1_s20 (i : Int) g p) (vSt1_s21 (i : Int) g p) (vSt1_s22 (i : Int) g p) (vSt1_s26 (i : Int) g p) (vSt1_s27 (i : Int) g p) (vSt1_s28 (i : Int) g p) (vSt1_s29 (i : Int) g p), vTi_1 (rget g (Int.toNat (vSt1_s37 (i : Int) p)) 0) (rget g (Int.toNat (vSt1_s37 (i : Int) p)) 1) (rget g (Int.toNat (vSt1_s37 (i : Int) p)) 2) (rget g (Int.toNat (vSt1_s37 (i : Int) p)) 3) (vSt1_s26 (i : Int) g p) (vSt1_s27 (i : Int) g p) (vSt1_s28 (i : Int) g p) (vSt1_s29 (i : Int) g p), vTi_2 (rget g (Int.toNat (vSt1_s38 (i : Int) p)) 0) (rget g (Int.toNat (vSt1_s38 (i : Int) p)) 1) (rget g (Int.toNat (vSt1_s38 (i : Int) p)) 2) (rget g (Int.toNat (vSt1_s38 (i : Int) p)) 3) (vSt1_s26 (i : Int) g p) (vSt1_s27 (i : Int) g p) (vSt1_s28 (i : Int) g p) (vSt1_s29 (i : Int) g p), vTi_3 (rget g (Int.toNat (vSt1_s39 (i : Int) p)) 0) (rget g (Int.toNat (vSt1_s39 (i : Int) p)) 1) (rget g (Int.toNat (vSt1_s39 (i : Int) p)) 2) (rget g (Int.toNat (vSt1_s39 (i : Int) p)) 3) (vSt1_s26 (i : Int) g p) (vSt1_s27 (i : Int) g p) (vSt1_s28 (i : Int) g p) (vSt1_s29 (i : Int) g p)] := by
    unfold vSt1_2
    rw [v18, v1, v2, v3, v4, v5, v6, v7, v8, v9, v10, v11, v17, v36]; rfl
  have e4 : [rget (r7Ru1_l3_s45 (r7Ru1_l3_T.mk to (i : Int) q g gn false st)) 0 0, rget (r7Ru1_l3_s45 (r7Ru1_l3_T.mk to (i : Int) q g gn false st)) 1 0, rget (r7Ru1_l3_s45 (r7Ru1_l3_T.mk to (i : Int) q g gn false st)) 2 0, rget (r7Ru1_l3_s45 (r7Ru1_l3_T.mk to (i : Int) q g gn false st)) 3 0] = [vTi_0 (vSt1_s12 (i : Int) g p) (vSt1_s20 (i : Int) g p) (vSt1_s21 (i : Int) g p) (vSt1_s22 (i : Int) g p) (vSt1_s26 (i : Int) g p) (vSt1_s27 (i : Int) g p) (vSt1_s28 (i : Int) g p) (vSt1_s29 (i : Int) g p), vTi_1 (rget g (Int.toNat (vSt1_s37 (i : Int) p)) 0) (rget g (Int.toNat (vSt1_s37 (i : Int) p)) 1) (rget g (Int.toNat (vSt1_s37 (i : Int) p)) 2) (rget g (Int.toNat (vSt1_s37 (i : Int) p)) 3) (vSt1_s26 (i : Int) g p) (vSt1_s27 (i : Int) g p) (vSt1_s28 (i : Int) g p) (vSt1_s29 (i : Int) g p), vTi_2 (rget g (Int.toNat (vSt1_s38 (i : Int) p)) 0) (rget g (Int.toNat (vSt1_s38 (i : Int) p)) 1) (rget g (Int.toNat (vSt1_s38 (i : Int) p)) 2) (rget g (Int.toNat (vSt1_s38 (i : Int) p)) 3) (vSt1_s26 (i : Int) g p) (vSt1_s27 (i : Int) g p) (vSt1_s28 (i : Int) g p) (vSt1_s29 (i : Int) g p), vTi_3 (rget g (Int.toNat (vSt1_s39 (i : Int) p)) 0) (rget g (Int.toNat (vSt1_s39 (i : Int) p)) 1) (rget g (Int.toNat (vSt1_s39 (i : Int) p)) 2) (rget g (Int.toNat (vSt1_s39 (i : Int) p)) 3) (vSt1_s26 (i : Int) g p) (vSt1_s27 (i : Int) g p) (vSt1_s28 (i : Int) g p) (vSt1_s29 (i : Int) g p)] ∧ Rg (g.set (Int.toNat (rget p (Int.toNat (i : Int)) 1)) [vTi_0 (vSt1_s12 (i : Int) g p) (vSt1_s20 (i : Int) g p) (vSt1_s21 (i : Int) g p) (vSt1_s22 (i : Int) g p) (vSt1_s26 (i : Int) g p) (vSt1_s27 (i : Int) g p) (vSt1_s28 (i : Int) g p) (vSt1_s29 (i : Int) g p), vTi_1 (rget g (Int.toNat (vSt1_s37 (i : Int) p)) 0) (rget g (Int.toNat (vSt1_s37 (i : Int) p)) 1) (rget g (Int.toNat (vSt1_s37 (i : Int) p)) 2) (rget g (Int.toNat (vSt1_s37 (i : Int) p)) 3) (vSt1_s26 (i : Int) g p) (vSt1_s27 (i : Int) g p) (vSt1_s28 (i : Int) g p) (vSt1_s29 (i : Int) g p), vTi_2 (rget g (Int.toNat (vSt1_s38 (i : Int) p)) 0) (rget g (Int.toNat (vSt1_s38 (i : Int) p)) 1) (rget g (Int.toNat (vSt1_s38 (i : Int) p)) 2) (rget g (Int.toNat (vSt1_s38 (i : Int) p)) 3) (vSt1_s26 (i : Int) g p) (vSt1_s27 (i : Int) g p) (vSt1_s28 (i : Int) g p) (vSt1_s29 (i : Int) g p), vTi_3 (rget g (Int.toNat (vSt1_s39 (i : Int) p)) 0) (rget g (Int.toNat (vSt1_s39 (i : Int) p)) 1) (rget g (Int.toNat (vSt1_s39 (i : Int) p)) 2) (rget g (Int.toNat (vSt1_s39 (i : Int) p)) 3) (vSt1_s26 (i : Int) g p) (vSt1_s27 (i : Int) g p) (vSt1_s28 (i : Int) g p) (vSt1_s29 (i : Int) g p)]) := by
    unfold r7Ru1_l3_s45 r7Ru1_l3_s44
    rw [r20, r6, r7, r8, r9, r11, r13]
    have f2 := B.f i 2 (by omega)
    have a8 := I.mat hc
    have t14 : r7Ru1_l3_s14 (r7Ru1_l3_T.mk to (i : Int) q g gn false st) = rget p i 2 + 0 := by
      show IntKind.wrap .i64 (rget q (Int.toNat (i : Int)) 2 + 0) = _
      rw [qp E (by decide), gI]
      exact w64_in (by omega) (by omega)
    have t16 : r7Ru1_l3_s16 (r7Ru1_l3_T.mk to (i : Int) q g gn false st) = rget p i 2 + 1 := by
      show IntKind.wrap .i64 (rget q (Int.toNat (i : Int)) 2 + IntKind.wrap .i64 (0 + 1)) = _
      rw [qp E (by decide), gI]
      simp only [show IntKind.wrap .i64 (0 + 1) = 1 from by decide]
      exact w64_in (by omega) (by omega)
    have u37 : vSt1_s37 (i : Int) p = rget p i 2 + 1 := by
      unfold vSt1_s37
      rw [gI, wu8]; omega
    have t18 : r7Ru1_l3_s18 (r7Ru1_l3_T.mk to (i : Int) q g gn false st) = rget p i 2 + 2 := by
      show IntKind.wrap .i64 (rget q (Int.toNat (i : Int)) 2 + IntKind.wrap .i64 (IntKind.wrap .i64 (0 + 1) + 1)) = _
      rw [qp E (by decide), gI]
      simp only [show IntKind.wrap .i64 (0 + 1) = 1 from by decide, show IntKind.wrap .i64 (1 + 1) = 2 from by decide]
      exact w64_in (by omega) (by omega)
    have u38 : vSt1_s38 (i : Int) p = rget p i 2 + 2 := by
      unfold vSt1_s38
      rw [gI, wu8]; omega
    have t19 : r7Ru1_l3_s19 (r7Ru1_l3_T.mk to (i : Int) q g gn false st) = rget p i 2 + 3 := by
      show IntKind.wrap .i64 (rget q (Int.toNat (i : Int)) 2 + IntKind.wrap .i64 (IntKind.wrap .i64 (IntKind.wrap .i64 (0 + 1) + 1) + 1)) = _
      rw [qp E (by decide), gI]
      simp only [show IntKind.wrap .i64 (0 + 1) = 1 from by decide, show IntKind.wrap .i64 (1 + 1) = 2 from by decide, show IntKind.wrap .i64 (2 + 1) = 3 from by decide]
      exact w64_in (by omega) (by omega)
    have u39 : vSt1_s39 (i : Int) p = rget p i 2 + 3 := by
      unfold vSt1_s39
      rw [gI, wu8]; omega
    have u0 : ∀ j, rget g (Int.toNat (r7Ru1_l3_s14 (r7Ru1_l3_T.mk to (i : Int) q g gn false st))) j = rget g (Int.toNat (rget p (Int.toNat (i : Int)) 2)) j := fun j => by rw [t14, gI, Int.add_zero]
    have ti : ∀ a b c d e f h k, In (vDo_0 a b c d e f h k) := fun a b c d e f h k => by rw [dot_eq]; exact dot_in _ _ _ _ _ _ _ _
    refine ⟨?_, R.set (ti _ _ _ _ _ _ _ _) (ti _ _ _ _ _ _ _ _) (ti _ _ _ _ _ _ _ _) (ti _ _ _ _ _ _ _ _)⟩
    show [rDo_0 (rget g (Int.toNat (r7Ru1_l3_s14 (r7Ru1_l3_T.mk to (i : Int) q g gn false st))) 0) (rget g (Int.toNat (r7Ru1_l3_s14 (r7Ru1_l3_T.mk to (i : Int) q g gn false st))) 1) (rget g (Int.toNat (r7Ru1_l3_s14 (r7Ru1_l3_T.mk to (i : Int) q g gn false st))) 2) (rget g (Int.toNat (r7Ru1_l3_s14 (r7Ru1_l3_T.mk to (i : Int) q g gn false st))) 3) (r7Ru1_l3_s38 (r7Ru1_l3_T.mk to (i : Int) q g gn false st)) (r7Ru1_l3_s39 (r7Ru1_l3_T.mk to (i : Int) q g gn false st)) (r7Ru1_l3_s40 (r7Ru1_l3_T.mk to (i : Int) q g gn false st)) (r7Ru1_l3_s41 (r7Ru1_l3_T.mk to (i : Int) q g gn false st)), rDo_0 (rget g (Int.toNat (r7Ru1_l3_s16 (r7Ru1_l3_T.mk to (i : Int) q g gn false st))) 0) (rget g (Int.toNat (r7Ru1_l3_s16 (r7Ru1_l3_T.mk to (i : Int) q g gn false st))) 1) (rget g (Int.toNat (r7Ru1_l3_s16 (r7Ru1_l3_T.mk to (i : Int) q g gn false st))) 2) (rget g (Int.toNat (r7Ru1_l3_s16 (r7Ru1_l3_T.mk to (i : Int) q g gn false st))) 3) (r7Ru1_l3_s38 (r7Ru1_l3_T.mk to (i : Int) q g gn false st)) (r7Ru1_l3_s39 (r7Ru1_l3_T.mk to (i : Int) q g gn false st)) (r7Ru1_l3_s40 (r7Ru1_l3_T.mk to (i : Int) q g gn false st)) (r7Ru1_l3_s41 (r7Ru1_l3_T.mk to (i : Int) q g gn false st)), rDo_0 (rget g (Int.toNat (r7Ru1_l3_s18 (r7Ru1_l3_T.mk to (i : Int) q g gn false st))) 0) (rget g (Int.toNat (r7Ru1_l3_s18 (r7Ru1_l3_T.mk to (i : Int) q g gn false st))) 1) (rget g (Int.toNat (r7Ru1_l3_s18 (r7Ru1_l3_T.mk to (i : Int) q g gn false st))) 2) (rget g (Int.toNat (r7Ru1_l3_s18 (r7Ru1_l3_T.mk to (i : Int) q g gn false st))) 3) (r7Ru1_l3_s38 (r7Ru1_l3_T.mk to (i : Int) q g gn false st)) (r7Ru1_l3_s39 (r7Ru1_l3_T.mk to (i : Int) q g gn false st)) (r7Ru1_l3_s40 (r7Ru1_l3_T.mk to (i : Int) q g gn false st)) (r7Ru1_l3_s41 (r7Ru1_l3_T.mk to (i : Int) q g gn false st)), rDo_0 (rget g (Int.toNat (r7Ru1_l3_s19 (r7Ru1_l3_T.mk to (i : Int) q g gn false st))) 0) (rget g (Int.toNat (r7Ru1_l3_s19 (r7Ru1_l3_T.mk to (i : Int) q g gn false st))) 1) (rget g (Int.toNat (r7Ru1_l3_s19 (r7Ru1_l3_T.mk to (i : Int) q g gn false st))) 2) (rget g (Int.toNat (r7Ru1_l3_s19 (r7Ru1_l3_T.mk to (i : Int) q g gn false st))) 3) (r7Ru1_l3_s38 (r7Ru1_l3_T.mk to (i : Int) q g gn false st)) (r7Ru1_l3_s39 (r7Ru1_l3_T.mk to (i : Int) q g gn false st)) (r7Ru1_l3_s40 (r7Ru1_l3_T.mk to (i : Int) q g gn false st)) (r7Ru1_l3_s41 (r7Ru1_l3_T.mk to (i : Int) q g gn false st))] = _
    rw [xb0 E, xb1 E, xb2 E, xb3 E, u0, u0, u0, u0, t16, t18, t19, u37, u38, u39]
    unfold vTi_0 vTi_1 vTi_2 vTi_3
    rw [dot_eq, dot_eq, dot_eq, dot_eq]; rfl
  rw [r21, x31 E, r46, hq, e4.1, e2]
  refine ⟨rfl, e4.2, ?_, ?_, ?_⟩
  · unfold vSt1_3
    rw [v18]; rfl
  · unfold vSt1_1
    rw [v18]; rfl
  · intro _
    unfold vSt1_0
    rw [v18]; rfl
theorem r_step (h12 : rget p i 0 ≠ 12) : (bif r7Ru1_l3_s21 (r7Ru1_l3_T.mk to (i : Int) q g gn false st) then List.set g (r7Ru1_l3_s31 (r7Ru1_l3_T.mk to (i : Int) q g gn false st)) [rget (r7Ru1_l3_s45 (r7Ru1_l3_T.mk to (i : Int) q g gn false st)) 0 0, rget (r7Ru1_l3_s45 (r7Ru1_l3_T.mk to (i : Int) q g gn false st)) 1 0, rget (r7Ru1_l3_s45 (r7Ru1_l3_T.mk to (i : Int) q g gn false st)) 2 0, rget (r7Ru1_l3_s45 (r7Ru1_l3_T.mk to (i : Int) q g gn false st)) 3 0] else g) = vSt1_2 (i : Int) g p ∧ Rg (vSt1_2 (i : Int) g p) ∧ (bif r7Ru1_l3_s46 (r7Ru1_l3_T.mk to (i : Int) q g gn false st) then true else gn) = vSt1_3 (i : Int) g gn p ∧ (bif r7Ru1_l3_s46 (r7Ru1_l3_T.mk to (i : Int) q g gn false st) then true else bif rget q (Int.toNat (i : Int)) 0 == 0 then true else false) = !vSt1_1 (i : Int) g p ∧ (vSt1_1 (i : Int) g p = true → (bif bif rget q (Int.toNat (i : Int)) 0 == 11 then r7Ru1_l3_s29 (r7Ru1_l3_T.mk to (i : Int) q g gn false st) else false then IntKind.wrap .i64 (r7Ru1_l3_s30 (r7Ru1_l3_T.mk to (i : Int) q g gn false st) + rget q (Int.toNat (i : Int)) 4) else r7Ru1_l3_s30 (r7Ru1_l3_T.mk to (i : Int) q g gn false st)) = vSt1_0 (i : Int) g p) := by
  have o := I.op
  have o' := (B.f i 0 (by omega)).1
  have : rget p i 0 = 0 ∨ rget p i 0 = 1 ∨ rget p i 0 = 2 ∨ rget p i 0 = 3 ∨ rget p i 0 = 4 ∨ rget p i 0 = 5 ∨ rget p i 0 = 6 ∨ rget p i 0 = 7 ∨ rget p i 0 = 8 ∨ rget p i 0 = 9 ∨ rget p i 0 = 10 ∨ rget p i 0 = 11 ∨ rget p i 0 = 13 ∨ rget p i 0 = 14 := by omega
  rcases this with h | h | h | h | h | h | h | h | h | h | h | h | h | h
  · exact rs0 B hi I R E h
  · exact rs1 B hi I R E h
  · exact rs2 B hi I R E h
  · exact rs3 B hi I R E h
  · exact rs4 B hi I R E h
  · exact rs5 B hi I R E h
  · exact rs6 B hi I R E h
  · exact rs7 B hi I R E h
  · exact rs8 B hi I R E h
  · exact rs9 B hi I R E h
  · exact rs10 B hi I R E h
  · exact rs11 B hi I R E h
  · exact rs13 B hi I R E h
  · exact rs14 B hi I R E h
end
end Vm

end Go.Proofs.Ytcdejlgophpdjaa
end

section
namespace Go.Proofs.Ytcdejlgophpdjaa
open Go Go.RowKit Go.Proofs.Ytcdejlgophpdjaa.V
set_option linter.unusedVariables false
set_option linter.unusedSectionVars false

namespace Vm

/-- The reference's instructions are the program's. -/
structure Qp (p q : List (List Int)) : Prop where
  len : q.length = p.length
  e : ∀ i j, i < p.length → j < 5 → rget q i j = rget p i j

section
variable {p q : List (List Int)} {i : Nat} {to : Int} {s : G} (B : Pb p) (hi : i < p.length) (I : Ins p i) (E : Qp p q)
include B hi I E

theorem r_ok (h12 : rget p i 0 ≠ 12) : Alls (r7Ru1_l3_st (r7Ru1_l3_T.mk to (i : Int) q s.g s.gn false s.st)).1 := by
  have f1 := B.f i 1 (by omega)
  have f2 := B.f i 2 (by omega)
  have f3 := B.f i 3 (by omega)
  have bm := B.m i
  have a1 := I.dst
  have a2 := I.a
  have hl := E.len
  have Q : ∀ j, j < 5 → rget q (Int.toNat (i : Int)) j = rget p i j := fun j hj => by rw [Int.toNat_natCast, E.e i j hi hj]
  have t10 : 0 ≤ r7Ru1_l3_s10 (r7Ru1_l3_T.mk to (i : Int) q s.g s.gn false s.st) ∧ r7Ru1_l3_s10 (r7Ru1_l3_T.mk to (i : Int) q s.g s.gn false s.st) < 4 := by
    have e : r7Ru1_l3_s10 (r7Ru1_l3_T.mk to (i : Int) q s.g s.gn false s.st) = rget p i 3 % 4 := by
      show Int.tmod (rget q (Int.toNat (i : Int)) 3) 4 = _
      rw [Q 3 (by decide), Int.tmod_eq_emod_of_nonneg f3.1]
    rw [e]; omega
  have t12 : 0 ≤ r7Ru1_l3_s12 (r7Ru1_l3_T.mk to (i : Int) q s.g s.gn false s.st) ∧ r7Ru1_l3_s12 (r7Ru1_l3_T.mk to (i : Int) q s.g s.gn false s.st) < 4 := by
    have e : r7Ru1_l3_s12 (r7Ru1_l3_T.mk to (i : Int) q s.g s.gn false s.st) = Int.tmod (IntKind.wrap .i64 (Int.tmod (rget p i 4) 4 + 4)) 4 := by
      show Int.tmod (IntKind.wrap .i64 (Int.tmod (rget q (Int.toNat (i : Int)) 4) 4 + 4)) 4 = _
      rw [Q 4 (by decide)]
    have t : Int.tmod (rget p i 4) 4 = rget p i 4 % 4 ∨ (Int.tmod (rget p i 4) 4 = -((-(rget p i 4)) % 4)) := by
      rcases Int.le_total 0 (rget p i 4) with h | h
      · exact .inl (Int.tmod_eq_emod_of_nonneg h)
      · exact .inr (by rw [← Int.tmod_eq_emod_of_nonneg (show 0 ≤ -(rget p i 4) by omega), Int.neg_tmod, Int.neg_neg])
    rw [e, w64_in (by omega) (by omega), Int.tmod_eq_emod_of_nonneg (by omega)]
    omega
  have mt : ∀ n : Int, 0 ≤ n → n ≤ 3 → r7Ru1_l3_s13 (r7Ru1_l3_T.mk to (i : Int) q s.g s.gn false s.st) = true → 0 ≤ IntKind.wrap .i64 (rget q (Int.toNat (i : Int)) 2 + n) ∧ IntKind.wrap .i64 (rget q (Int.toNat (i : Int)) 2 + n) < 12 := fun n n0 n3 k => by
    have k' : (rget q (Int.toNat (i : Int)) 0 == 14) = true := k
    rw [Q 0 (by decide)] at k'
    have := I.mat (beq_iff_eq.1 k')
    rw [Q 2 (by decide), w64_in (by omega) (by omega)]; omega
  have q2 : 0 ≤ rget q (Int.toNat (i : Int)) 2 ∧ rget q (Int.toNat (i : Int)) 2 < Int.ofNat 12 := by
    rw [Q 2 (by decide)]; exact ⟨f2.1, a2⟩
  have q1 : 0 ≤ rget q (Int.toNat (i : Int)) 1 ∧ rget q (Int.toNat (i : Int)) 1 < Int.ofNat 12 := by
    rw [Q 1 (by decide)]; exact ⟨f1.1, a1⟩
  have w1 : IntKind.wrap .i64 (0 + 1) = 1 := by decide
  have w2 : IntKind.wrap .i64 (1 + 1) = 2 := by decide
  have w3 : IntKind.wrap .i64 (2 + 1) = 3 := by decide
  have z15 : r7Ru1_l3_s15 = 1 := by decide
  have z17 : r7Ru1_l3_s17 = 2 := by decide
  unfold r7Ru1_l3_st
  refine ⟨fun _ => ?_, fun _ => q2, fun _ _ => ?_, fun _ _ _ _ _ => t10, fun _ _ _ _ _ _ => q1, fun _ _ _ _ _ _ => t12, fun _ _ _ _ _ _ => t10, fun _ _ _ _ _ _ k => mt 0 (by omega) (by omega) k, fun _ _ _ _ _ _ k => ?_, fun _ _ _ _ _ _ k => ?_, fun _ _ _ _ _ _ k => ?_, fun _ _ => q1, fun _ => ?_, trivial⟩
  · show (0 : Int) ≤ (i : Int) ∧ (i : Int) < (q.length : Int)
    omega
  · have h3 := I.b h12
    show 0 ≤ rget q (Int.toNat (i : Int)) 3 ∧ rget q (Int.toNat (i : Int)) 3 < 12
    rw [Q 3 (by decide)]; exact ⟨f3.1, h3⟩
  · unfold r7Ru1_l3_s16
    rw [z15]; exact mt 1 (by omega) (by omega) k
  · unfold r7Ru1_l3_s18
    rw [z17]; exact mt 2 (by omega) (by omega) k
  · unfold r7Ru1_l3_s19
    rw [z17, w3]; exact mt 3 (by omega) (by omega) k
  · show (rget q (Int.toNat (i : Int)) 0 == 12) = false
    rw [Q 0 (by decide)]; exact beq_eq_false_iff_ne.2 h12
end

section
variable {p q : List (List Int)} (O : Ok p) (E : Qp p q)
include O E

/-- Within a loop's body. -/
theorem ref_in {k : Nat} (hk : k < p.length) (h12 : rget p k 0 = 12) {S : Int} (hS : S ≤ 1000000000) :
    ∀ (D : Nat) (i : Nat) (s : G), k + 1 ≤ i → (k : Int) + 1 + rget p k 3 ≤ i + D → (i : Int) ≤ (k : Int) + 1 + rget p k 3 → D ≤ 1000 → 0 ≤ s.st → s.st + ((k : Int) + 1 + rget p k 3 - i) ≤ S → Rg s.g →
    (∃ v', lrun r7Ru1_l3_st 18446744073709551616 (r7Ru1_l3_T.mk ((k : Int) + 1 + rget p k 3) (i : Int) q s.g s.gn false s.st) = some (.e 0, v') ∧
      v'.a3 = (seg p ((k : Int) + 1 + rget p k 3) D i s).2.g ∧ v'.a4 = (seg p ((k : Int) + 1 + rget p k 3) D i s).2.gn ∧ v'.a5 = !(seg p ((k : Int) + 1 + rget p k 3) D i s).1 ∧ v'.a6 = (seg p ((k : Int) + 1 + rget p k 3) D i s).2.st ∧ Rg (seg p ((k : Int) + 1 + rget p k 3) D i s).2.g) ∧
    lok r7Ru1_l3_st 18446744073709551616 (r7Ru1_l3_T.mk ((k : Int) + 1 + rget p k 3) (i : Int) q s.g s.gn false s.st) := by
  intro D i s h1 h2 h3 hD h4 h5 hR
  have hl := O.len
  obtain ⟨-, b1, b2, -, -⟩ := (O.ins k hk).loop h12
  generalize ht : (k : Int) + 1 + rget p k 3 = to at *
  generalize hr : seg p to D i s = r
  obtain ⟨⟨x, v', e, hx, rfl, R1⟩, ok⟩ := mr_run (st := r7Ru1_l3_st) (I := fun d v => (∃ (i : Nat) (s : G) (d' : Nat), d = d' + 1 ∧ v = r7Ru1_l3_T.mk to (i : Int) q s.g s.gn false s.st ∧ k + 1 ≤ i ∧ to ≤ i + d' ∧ (i : Int) ≤ to ∧ 0 ≤ s.st ∧ s.st + (to - i) ≤ S ∧ Rg s.g ∧ seg p to d' i s = r) ∨ (∃ n : Int, d = 0 ∧ v = r7Ru1_l3_T.mk to n q r.2.g r.2.gn true r.2.st ∧ r.1 = false ∧ Rg r.2.g))
    (R := fun x v' => x = .e 0 ∧ v'.a3 = r.2.g ∧ v'.a4 = r.2.gn ∧ v'.a5 = !r.1 ∧ v'.a6 = r.2.st ∧ Rg r.2.g) (by
      rintro d v (⟨i, s, d', rfl, rfl, a1, a2, a3, a4, a5, a7, a6⟩ | ⟨n, rfl, rfl, a1, a2⟩)
      · have s0 : r7Ru1_l3_s0 (r7Ru1_l3_T.mk to (i : Int) q s.g s.gn false s.st) = decide ((i : Int) < to) := by
          show (bif decide ((i : Int) < to) then !false else false) = _
          cases decide ((i : Int) < to) <;> rfl
        by_cases hi : (i : Int) < to
        · have hb : Inb p k i := ⟨hk, h12, by omega, by omega⟩
          obtain ⟨q1, q2, q3⟩ := in_body O hb
          have I1 := O.ins i q1
          refine ⟨r_ok O.toPb q1 I1 E q2, ?_⟩
          obtain ⟨d', rfl⟩ : ∃ d'', d' = d'' + 1 := ⟨d' - 1, by omega⟩
          unfold seg at a6
          rw [if_pos hi] at a6
          obtain ⟨g1, g2, g3, g4, g5⟩ := r_step (to := to) (st := s.st) (gn := s.gn) O.toPb q1 I1 a7 (fun j hj => E.e i j q1 hj) q2
          have e4 : IntKind.wrap .i64 (s.st + 1) = s.st + 1 := w64_in (by omega) (by omega)
          unfold r7Ru1_l3_st
          rw [s0, decide_eq_true hi]
          cases on : vSt1_1 (i : Int) s.g p with
          | true =>
            rw [on] at a6 g4
            obtain ⟨n, hn, n1, n2⟩ : ∃ n : Nat, vSt1_0 (i : Int) s.g p = (n : Int) ∧ i < n ∧ (n : Int) ≤ to := by
              rcases nx1 O.toPb q1 I1 q2 s.g on with e | ⟨e, e'⟩
              · exact ⟨i + 1, by rw [e]; rfl, by omega, by omega⟩
              · obtain ⟨z1, z2⟩ := q3 e
                exact ⟨(((i : Int) + 1 + rget p i 4)).toNat, by rw [e']; omega, by omega, by omega⟩
            refine .inl ⟨r7Ru1_l3_T.mk to (n : Int) q (vSt1_2 (i : Int) s.g p) (vSt1_3 (i : Int) s.g s.gn p) false (s.st + 1), d' + 1, ?_, by omega, .inl ⟨n, ⟨vSt1_2 (i : Int) s.g p, vSt1_3 (i : Int) s.g s.gn p, s.st + 1⟩, d', rfl, rfl, by omega, by omega, n2, (show (0 : Int) ≤ s.st + 1 by omega), (show s.st + 1 + (to - n) ≤ S by omega), g2, by rw [← hn]; exact a6⟩⟩
            show some (X.n, r7Ru1_l3_T.mk to _ q _ _ _ (IntKind.wrap .i64 (s.st + 1))) = _
            rw [e4, ← g1, ← g3, ← hn, ← g5 on]
            exact congrArg (fun z => some (X.n, r7Ru1_l3_T.mk to _ q _ _ z (s.st + 1))) g4
          | false =>
            rw [on] at a6 g4
            refine .inl ⟨r7Ru1_l3_T.mk to (bif bif rget q (Int.toNat (i : Int)) 0 == 11 then r7Ru1_l3_s29 (r7Ru1_l3_T.mk to (i : Int) q s.g s.gn false s.st) else false then IntKind.wrap .i64 (r7Ru1_l3_s30 (r7Ru1_l3_T.mk to (i : Int) q s.g s.gn false s.st) + rget q (Int.toNat (i : Int)) 4) else r7Ru1_l3_s30 (r7Ru1_l3_T.mk to (i : Int) q s.g s.gn false s.st)) q r.2.g r.2.gn true r.2.st, 0, ?_, by omega, .inr ⟨_, rfl, rfl, by rw [← a6], by rw [← a6]; exact g2⟩⟩
            rw [← a6]
            show some (X.n, r7Ru1_l3_T.mk to _ q _ _ _ (IntKind.wrap .i64 (s.st + 1))) = _
            rw [e4]
            show _ = some (X.n, r7Ru1_l3_T.mk to _ q (vSt1_2 (i : Int) s.g p) (vSt1_3 (i : Int) s.g s.gn p) true (s.st + 1))
            rw [← g1, ← g3]
            exact congrArg (fun z => some (X.n, r7Ru1_l3_T.mk to _ q _ _ z (s.st + 1))) g4
        · refine ⟨?_, ?_⟩
          · unfold r7Ru1_l3_st
            rw [s0, decide_eq_false hi]
            exact ⟨nofun, nofun, nofun, nofun, nofun, nofun, nofun, nofun, nofun, nofun, nofun, nofun, nofun, trivial⟩
          · have a6' : (true, s) = r := by
              rw [← a6]
              cases d' with
              | zero => rfl
              | succ d => unfold seg; rw [if_neg hi]
            refine .inr ⟨.e 0, (r7Ru1_l3_T.mk to (i : Int) q s.g s.gn false s.st), by simp, ?_, rfl, ?_⟩
            · unfold r7Ru1_l3_st
              rw [s0, decide_eq_false hi]; rfl
            · rw [← a6']; exact ⟨rfl, rfl, rfl, rfl, a7⟩
      · have s0 : r7Ru1_l3_s0 (r7Ru1_l3_T.mk to n q r.2.g r.2.gn true r.2.st) = false := by
          show (bif decide (n < to) then !true else false) = _
          cases decide (n < to) <;> rfl
        refine ⟨?_, .inr ⟨.e 0, r7Ru1_l3_T.mk to n q r.2.g r.2.gn true r.2.st, by simp, ?_, rfl, rfl, rfl, by rw [a1]; rfl, rfl, a2⟩⟩
        · unfold r7Ru1_l3_st
          rw [s0]
          exact ⟨nofun, nofun, nofun, nofun, nofun, nofun, nofun, nofun, nofun, nofun, nofun, nofun, nofun, trivial⟩
        · unfold r7Ru1_l3_st
          rw [s0]; rfl)
    18446744073709551616 (D + 1) _ (.inl ⟨i, s, D, rfl, rfl, h1, h2, h3, h4, h5, hR, hr⟩) (by omega)
  exact ⟨⟨v', e, R1⟩, ok⟩
end
end Vm

end Go.Proofs.Ytcdejlgophpdjaa
end

section
namespace Go.Proofs.Ytcdejlgophpdjaa
open Go Go.RowKit Go.Proofs.Ytcdejlgophpdjaa.V
set_option linter.unusedVariables false
set_option linter.unusedSectionVars false

namespace Vm

/-- A run that is over does nothing. -/
theorem ref_over (to n : Int) (q g : List (List Int)) (gn : Bool) (st : Int) :
    lrun r7Ru1_l3_st 18446744073709551616 (r7Ru1_l3_T.mk to n q g gn true st) = some (.e 0, r7Ru1_l3_T.mk to n q g gn true st) ∧ lok r7Ru1_l3_st 18446744073709551616 (r7Ru1_l3_T.mk to n q g gn true st) := by
  have s0 : r7Ru1_l3_s0 (r7Ru1_l3_T.mk to n q g gn true st) = false := by
    show (bif decide (n < to) then !true else false) = _
    cases decide (n < to) <;> rfl
  obtain ⟨⟨x, v', e, hx, rfl, rfl⟩, ok⟩ := mr_run (st := r7Ru1_l3_st) (I := fun _ v => v = r7Ru1_l3_T.mk to n q g gn true st)
    (R := fun x v' => x = .e 0 ∧ v' = r7Ru1_l3_T.mk to n q g gn true st) (by
      rintro d v rfl
      refine ⟨?_, .inr ⟨.e 0, r7Ru1_l3_T.mk to n q g gn true st, by simp, ?_, rfl, rfl⟩⟩
      · unfold r7Ru1_l3_st
        rw [s0]
        exact ⟨nofun, nofun, nofun, nofun, nofun, nofun, nofun, nofun, nofun, nofun, nofun, nofun, nofun, trivial⟩
      · unfold r7Ru1_l3_st
        rw [s0]; rfl) 18446744073709551616 0 _ rfl (by omega)
  exact ⟨e, ok⟩

section
variable {p q : List (List Int)} (O : Ok p) (E : Qp p q)
include O E

theorem ref_body {k : Nat} (hk : k < p.length) (h12 : rget p k 0 = 12) (s : G) (h4 : 0 ≤ s.st) (h5 : s.st ≤ 100000000) (R : Rg s.g) :
    r7Ru1_0 ((k : Int) + 1) ((k : Int) + 1 + rget p k 3) q s.g s.gn false s.st = (seg p ((k : Int) + 1 + rget p k 3) p.length ((k : Int) + 1) s).2.g ∧
    r7Ru1_1 ((k : Int) + 1) ((k : Int) + 1 + rget p k 3) q s.g s.gn false s.st = (seg p ((k : Int) + 1 + rget p k 3) p.length ((k : Int) + 1) s).2.gn ∧
    r7Ru1_2 ((k : Int) + 1) ((k : Int) + 1 + rget p k 3) q s.g s.gn false s.st = !(seg p ((k : Int) + 1 + rget p k 3) p.length ((k : Int) + 1) s).1 ∧
    r7Ru1_3 ((k : Int) + 1) ((k : Int) + 1 + rget p k 3) q s.g s.gn false s.st = (seg p ((k : Int) + 1 + rget p k 3) p.length ((k : Int) + 1) s).2.st ∧
    Rg (seg p ((k : Int) + 1 + rget p k 3) p.length ((k : Int) + 1) s).2.g ∧
    lok r7Ru1_l3_st 18446744073709551616 (r7Ru1_l3_T.mk ((k : Int) + 1 + rget p k 3) ((k : Int) + 1) q s.g s.gn false s.st) := by
  have hl := O.len
  have b3 := O.f k 3 (by omega)
  obtain ⟨-, b1, b2, -, -⟩ := (O.ins k hk).loop h12
  obtain ⟨⟨v', e, e3, e4, e5, e6, r⟩, ok⟩ := ref_in O E hk h12 (S := s.st + rget p k 3) (by omega) p.length (k + 1) s (Nat.le_refl _) (by omega) (by omega) hl h4 (by omega) R
  rw [show ((k + 1 : Nat) : Int) = (k : Int) + 1 from rfl] at e e3 e4 e5 e6 r ok
  unfold r7Ru1_0 r7Ru1_1 r7Ru1_2 r7Ru1_3
  rw [e]
  exact ⟨e3, e4, e5, e6, r, ok⟩

theorem ref_lo {k : Nat} (hk : k < p.length) (h12 : rget p k 0 = 12) (to nx q0 q1 q2 : Int) (s : G) (h4 : 0 ≤ s.st) (h5 : s.st ≤ 90000000) (R : Rg s.g) :
    (∃ v', lrun r7Ru2_l26738665_st 18446744073709551616 (r7Ru2_l26738665_T.mk to (k : Int) nx 0 q s.g s.gn false s.st q0 q1 q2 (rget p k 3) (rget p k 4)) = some (.e 7, v') ∧ v'.a0 = to ∧ v'.a1 = (k : Int) ∧
      v'.a5 = (lp p k (rget p k 4).toNat s).2.g ∧ v'.a6 = (lp p k (rget p k 4).toNat s).2.gn ∧ v'.a7 = !(lp p k (rget p k 4).toNat s).1 ∧ v'.a8 = (lp p k (rget p k 4).toNat s).2.st ∧ Rg (lp p k (rget p k 4).toNat s).2.g) ∧
    lok r7Ru2_l26738665_st 18446744073709551616 (r7Ru2_l26738665_T.mk to (k : Int) nx 0 q s.g s.gn false s.st q0 q1 q2 (rget p k 3) (rget p k 4)) := by
  obtain ⟨-, b1, b2, m1, m2⟩ := (O.ins k hk).loop h12
  have hl := O.len
  have b3 := O.f k 3 (by omega)
  obtain ⟨T, hT⟩ : ∃ T : Nat, rget p k 4 = (T : Int) := ⟨(rget p k 4).toNat, by omega⟩
  rw [hT, Int.toNat_natCast]
  generalize hr : lp p k T s = r
  have F : ∀ (j : Int) (s' : G) (o : Bool), r7Ru2_l26738665_s1 (r7Ru2_l26738665_T.mk to (k : Int) nx j q s'.g s'.gn o s'.st q0 q1 q2 (rget p k 3) (T : Int)) = (k : Int) + 1 := fun j s' o => by
    show IntKind.wrap .i64 ((k : Int) + 1) = _
    exact w64_in (by omega) (by omega)
  have F2 : ∀ (j : Int) (s' : G) (o : Bool), r7Ru2_l26738665_s2 (r7Ru2_l26738665_T.mk to (k : Int) nx j q s'.g s'.gn o s'.st q0 q1 q2 (rget p k 3) (T : Int)) = (k : Int) + 1 + rget p k 3 := fun j s' o => by
    unfold r7Ru2_l26738665_s2
    rw [F]
    show IntKind.wrap .i64 ((k : Int) + 1 + rget p k 3) = _
    exact w64_in (by omega) (by omega)
  obtain ⟨⟨x, v', e, hx, rfl, Q⟩, ok⟩ := mr_run (st := r7Ru2_l26738665_st) (I := fun d v => ∃ (j : Nat) (s' : G) (o : Bool), v = r7Ru2_l26738665_T.mk to (k : Int) nx (j : Int) q s'.g s'.gn o s'.st q0 q1 q2 (rget p k 3) (T : Int) ∧ j + d = T ∧
      ((o = false ∧ 0 ≤ s'.st ∧ s'.st + d * rget p k 3 ≤ s.st + T * rget p k 3 ∧ lp p k d s' = r ∧ Rg s'.g) ∨ (o = true ∧ r = (false, s') ∧ Rg s'.g)))
    (R := fun x v' => x = .e 7 ∧ v'.a0 = to ∧ v'.a1 = (k : Int) ∧ v'.a5 = r.2.g ∧ v'.a6 = r.2.gn ∧ v'.a7 = !r.1 ∧ v'.a8 = r.2.st ∧ Rg r.2.g) (by
      rintro d v ⟨j, s', o, rfl, a1, a⟩
      have s0 : r7Ru2_l26738665_s0 (r7Ru2_l26738665_T.mk to (k : Int) nx (j : Int) q s'.g s'.gn o s'.st q0 q1 q2 (rget p k 3) (T : Int)) = decide (j < T) := by
        unfold r7Ru2_l26738665_s0
        exact decide_eq_decide.2 (show (j : Int) < (T : Int) ↔ j < T by omega)
      have e1 : IntKind.wrap .i64 ((j : Int) + 1) = ((j + 1 : Nat) : Int) := by rw [w64_in (by omega) (by omega)]; rfl
      unfold r7Ru2_l26738665_st
      rw [s0, F, F2]
      rcases a with ⟨rfl, c1, c2, c3, c4⟩ | ⟨rfl, rfl, c4⟩
      · have hTb : (T : Int) * rget p k 3 ≤ 8 * 255 := Int.mul_le_mul (by omega) (by omega) (by omega) (by omega)
        have hdb : 0 ≤ (d : Int) * rget p k 3 := Int.mul_nonneg (by omega) (by omega)
        obtain ⟨g0, g1, g2, g3, g4, gok⟩ := ref_body O E hk h12 s' c1 (by omega) c4
        obtain ⟨-, -, -, -, -, t1, t2⟩ := body_run O hk h12 s' c1 (by omega)
        refine ⟨⟨fun _ => gok, trivial⟩, ?_⟩
        by_cases h : j < T
        · rw [decide_eq_true h]
          obtain ⟨d, rfl⟩ : ∃ d', d = d' + 1 := ⟨d - 1, by omega⟩
          have hd' : ((d + 1 : Nat) : Int) * rget p k 3 = (d : Int) * rget p k 3 + rget p k 3 := by
            rw [Int.natCast_add, Int.add_mul]; omega
          rw [hd'] at c2
          unfold lp at c3
          refine .inl ⟨r7Ru2_l26738665_T.mk to (k : Int) nx ((j + 1 : Nat) : Int) q (seg p ((k : Int) + 1 + rget p k 3) p.length ((k : Int) + 1) s').2.g (seg p ((k : Int) + 1 + rget p k 3) p.length ((k : Int) + 1) s').2.gn (!(seg p ((k : Int) + 1 + rget p k 3) p.length ((k : Int) + 1) s').1) (seg p ((k : Int) + 1 + rget p k 3) p.length ((k : Int) + 1) s').2.st q0 q1 q2 (rget p k 3) (T : Int), d, ?_, by omega, j + 1, (seg p ((k : Int) + 1 + rget p k 3) p.length ((k : Int) + 1) s').2, _, rfl, by omega, ?_⟩
          · rw [← e1, ← g0, ← g1, ← g2, ← g3]; rfl
          · cases on : (seg p ((k : Int) + 1 + rget p k 3) p.length ((k : Int) + 1) s').1 with
            | true =>
              rw [on] at c3
              exact .inl ⟨rfl, t1, by omega, c3, g4⟩
            | false =>
              rw [on] at c3
              exact .inr ⟨rfl, c3.symm, g4⟩
        · rw [decide_eq_false h]
          obtain rfl : d = 0 := by omega
          have c3' : (true, s') = r := c3
          refine .inr ⟨.e 7, _, by simp, rfl, rfl, rfl, rfl, ?_⟩
          rw [← c3']; exact ⟨rfl, rfl, rfl, rfl, c4⟩
      · obtain ⟨ov, ovk⟩ := ref_over ((k : Int) + 1 + rget p k 3) ((k : Int) + 1) q s'.g s'.gn s'.st
        refine ⟨⟨fun _ => ovk, trivial⟩, ?_⟩
        by_cases h : j < T
        · rw [decide_eq_true h]
          refine .inl ⟨r7Ru2_l26738665_T.mk to (k : Int) nx ((j + 1 : Nat) : Int) q s'.g s'.gn true s'.st q0 q1 q2 (rget p k 3) (T : Int), d - 1, ?_, by omega, j + 1, s', true, rfl, by omega, .inr ⟨rfl, rfl, c4⟩⟩
          have w0 : r7Ru1_0 ((k : Int) + 1) ((k : Int) + 1 + rget p k 3) q s'.g s'.gn true s'.st = s'.g := by unfold r7Ru1_0; rw [ov]; rfl
          have w1 : r7Ru1_1 ((k : Int) + 1) ((k : Int) + 1 + rget p k 3) q s'.g s'.gn true s'.st = s'.gn := by unfold r7Ru1_1; rw [ov]; rfl
          have w2 : r7Ru1_2 ((k : Int) + 1) ((k : Int) + 1 + rget p k 3) q s'.g s'.gn true s'.st = true := by unfold r7Ru1_2; rw [ov]; rfl
          have w3 : r7Ru1_3 ((k : Int) + 1) ((k : Int) + 1 + rget p k 3) q s'.g s'.gn true s'.st = s'.st := by unfold r7Ru1_3; rw [ov]; rfl
          show some (X.n, r7Ru2_l26738665_T.mk to (k : Int) nx (IntKind.wrap .i64 ((j : Int) + 1)) q (r7Ru1_0 ((k : Int) + 1) ((k : Int) + 1 + rget p k 3) q s'.g s'.gn true s'.st) (r7Ru1_1 ((k : Int) + 1) ((k : Int) + 1 + rget p k 3) q s'.g s'.gn true s'.st) (r7Ru1_2 ((k : Int) + 1) ((k : Int) + 1 + rget p k 3) q s'.g s'.gn true s'.st) (r7Ru1_3 ((k : Int) + 1) ((k : Int) + 1 + rget p k 3) q s'.g s'.gn true s'.st) q0 q1 q2 (rget p k 3) (T : Int)) = _
          rw [w0, w1, w2, w3, e1]
        · rw [decide_eq_false h]
          exact .inr ⟨.e 7, _, by simp, rfl, rfl, rfl, rfl, rfl, rfl, rfl, rfl, c4⟩)
    18446744073709551616 T _ ⟨0, s, false, rfl, by omega, .inl ⟨rfl, h4, by omega, hr, R⟩⟩ (by omega)
  exact ⟨⟨v', e, Q⟩, ok⟩
end
end Vm

end Go.Proofs.Ytcdejlgophpdjaa
end

section
namespace Go.Proofs.Ytcdejlgophpdjaa
open Go Go.RowKit Go.Proofs.Ytcdejlgophpdjaa.V
set_option linter.unusedVariables false
set_option linter.unusedSectionVars false

namespace Vm
section
variable {p q : List (List Int)} {i : Nat} {to : Int} {s : G} (B : Pb p) (hi : i < p.length) (I : Ins p i) (E : Qp p q)
include B hi I E

theorem r_ok2 (hlo : r7Ru2_l3_s22 (r7Ru2_l3_T.mk to (i : Int) q s.g s.gn false s.st) = true → lok r7Ru2_l26738665_st 18446744073709551616 (r7Ru2_l26738665_T.mk to (i : Int) (r7Ru2_l3_s32 (r7Ru2_l3_T.mk to (i : Int) q s.g s.gn false s.st)) 0 q (r7Ru2_l3_s48 (r7Ru2_l3_T.mk to (i : Int) q s.g s.gn false s.st)) (bif r7Ru2_l3_s49 (r7Ru2_l3_T.mk to (i : Int) q s.g s.gn false s.st) then true else s.gn) (r7Ru2_l3_s50 (r7Ru2_l3_T.mk to (i : Int) q s.g s.gn false s.st)) (r7Ru2_l3_s51 (r7Ru2_l3_T.mk to (i : Int) q s.g s.gn false s.st)) (rget q (Int.toNat (i : Int)) 0) (rget q (Int.toNat (i : Int)) 1) (rget q (Int.toNat (i : Int)) 2) (rget q (Int.toNat (i : Int)) 3) (rget q (Int.toNat (i : Int)) 4))) : Alls (r7Ru2_l3_st (r7Ru2_l3_T.mk to (i : Int) q s.g s.gn false s.st)).1 := by
  have f1 := B.f i 1 (by omega)
  have f2 := B.f i 2 (by omega)
  have f3 := B.f i 3 (by omega)
  have bm := B.m i
  have a1 := I.dst
  have a2 := I.a
  have hl := E.len
  have Q : ∀ j, j < 5 → rget q (Int.toNat (i : Int)) j = rget p i j := fun j hj => by rw [Int.toNat_natCast, E.e i j hi hj]
  have t10 : 0 ≤ r7Ru2_l3_s10 (r7Ru2_l3_T.mk to (i : Int) q s.g s.gn false s.st) ∧ r7Ru2_l3_s10 (r7Ru2_l3_T.mk to (i : Int) q s.g s.gn false s.st) < 4 := by
    have e : r7Ru2_l3_s10 (r7Ru2_l3_T.mk to (i : Int) q s.g s.gn false s.st) = rget p i 3 % 4 := by
      show Int.tmod (rget q (Int.toNat (i : Int)) 3) 4 = _
      rw [Q 3 (by decide), Int.tmod_eq_emod_of_nonneg f3.1]
    rw [e]; omega
  have t12 : 0 ≤ r7Ru2_l3_s12 (r7Ru2_l3_T.mk to (i : Int) q s.g s.gn false s.st) ∧ r7Ru2_l3_s12 (r7Ru2_l3_T.mk to (i : Int) q s.g s.gn false s.st) < 4 := by
    have e : r7Ru2_l3_s12 (r7Ru2_l3_T.mk to (i : Int) q s.g s.gn false s.st) = Int.tmod (IntKind.wrap .i64 (Int.tmod (rget p i 4) 4 + 4)) 4 := by
      show Int.tmod (IntKind.wrap .i64 (Int.tmod (rget q (Int.toNat (i : Int)) 4) 4 + 4)) 4 = _
      rw [Q 4 (by decide)]
    have t : Int.tmod (rget p i 4) 4 = rget p i 4 % 4 ∨ (Int.tmod (rget p i 4) 4 = -((-(rget p i 4)) % 4)) := by
      rcases Int.le_total 0 (rget p i 4) with h | h
      · exact .inl (Int.tmod_eq_emod_of_nonneg h)
      · exact .inr (by rw [← Int.tmod_eq_emod_of_nonneg (show 0 ≤ -(rget p i 4) by omega), Int.neg_tmod, Int.neg_neg])
    rw [e, w64_in (by omega) (by omega), Int.tmod_eq_emod_of_nonneg (by omega)]
    omega
  have mt : ∀ n : Int, 0 ≤ n → n ≤ 3 → r7Ru2_l3_s13 (r7Ru2_l3_T.mk to (i : Int) q s.g s.gn false s.st) = true → 0 ≤ IntKind.wrap .i64 (rget q (Int.toNat (i : Int)) 2 + n) ∧ IntKind.wrap .i64 (rget q (Int.toNat (i : Int)) 2 + n) < 12 := fun n n0 n3 k => by
    have k' : (rget q (Int.toNat (i : Int)) 0 == 14) = true := k
    rw [Q 0 (by decide)] at k'
    have := I.mat (beq_iff_eq.1 k')
    rw [Q 2 (by decide), w64_in (by omega) (by omega)]; omega
  have q2 : 0 ≤ rget q (Int.toNat (i : Int)) 2 ∧ rget q (Int.toNat (i : Int)) 2 < Int.ofNat 12 := by
    rw [Q 2 (by decide)]; exact ⟨f2.1, a2⟩
  have q1 : 0 ≤ rget q (Int.toNat (i : Int)) 1 ∧ rget q (Int.toNat (i : Int)) 1 < Int.ofNat 12 := by
    rw [Q 1 (by decide)]; exact ⟨f1.1, a1⟩
  have w3 : IntKind.wrap .i64 (2 + 1) = 3 := by decide
  have z15 : r7Ru2_l3_s15 = 1 := by decide
  have z17 : r7Ru2_l3_s17 = 2 := by decide
  unfold r7Ru2_l3_st
  refine ⟨fun _ => ?_, fun _ => q2, fun _ k => ?_, fun _ _ _ _ _ => t10, fun _ _ _ _ _ _ => q1, fun _ _ _ _ _ _ => t12, fun _ _ _ _ _ _ => t10, fun _ _ _ _ _ _ k => mt 0 (by omega) (by omega) k, fun _ _ _ _ _ _ k => ?_, fun _ _ _ _ _ _ k => ?_, fun _ _ _ _ _ _ k => ?_, fun _ _ => q1, fun _ k => hlo k, trivial⟩
  · show (0 : Int) ≤ (i : Int) ∧ (i : Int) < (q.length : Int)
    omega
  · have k' := of_decide_eq_true (show decide (rget q (Int.toNat (i : Int)) 3 < 12) = true from k)
    have h0 := f3.1
    rw [← Q 3 (by decide)] at h0
    exact ⟨h0, k'⟩
  · unfold r7Ru2_l3_s16
    rw [z15]; exact mt 1 (by omega) (by omega) k
  · unfold r7Ru2_l3_s18
    rw [z17]; exact mt 2 (by omega) (by omega) k
  · unfold r7Ru2_l3_s19
    rw [z17, w3]; exact mt 3 (by omega) (by omega) k

/-- Outside of loops the whole's step is a body's. -/
theorem r_step2 (h12 : rget p i 0 ≠ 12) (R : Rg s.g) : r7Ru2_l3_s22 (r7Ru2_l3_T.mk to (i : Int) q s.g s.gn false s.st) = false ∧ r7Ru2_l3_s48 (r7Ru2_l3_T.mk to (i : Int) q s.g s.gn false s.st) = vSt1_2 (i : Int) s.g p ∧ Rg (vSt1_2 (i : Int) s.g p) ∧ (bif r7Ru2_l3_s49 (r7Ru2_l3_T.mk to (i : Int) q s.g s.gn false s.st) then true else s.gn) = vSt1_3 (i : Int) s.g s.gn p ∧ r7Ru2_l3_s50 (r7Ru2_l3_T.mk to (i : Int) q s.g s.gn false s.st) = !vSt1_1 (i : Int) s.g p ∧ (vSt1_1 (i : Int) s.g p = true → r7Ru2_l3_s32 (r7Ru2_l3_T.mk to (i : Int) q s.g s.gn false s.st) = vSt1_0 (i : Int) s.g p) := by
  obtain ⟨g1, g2, g3, g4, g5⟩ := r_step (to := to) (st := s.st) (gn := s.gn) B hi I R (fun j hj => E.e i j hi hj) h12
  refine ⟨?_, g1, g2, g3, g4, g5⟩
  show (rget q (Int.toNat (i : Int)) 0 == 12) = false
  rw [Int.toNat_natCast, E.e i 0 hi (by decide)]
  exact beq_eq_false_iff_ne.2 h12
end
end Vm

end Go.Proofs.Ytcdejlgophpdjaa
end

section
namespace Go.Proofs.Ytcdejlgophpdjaa
open Go Go.RowKit Go.Proofs.Ytcdejlgophpdjaa.V
set_option linter.unusedVariables false
set_option linter.unusedSectionVars false

namespace Vm
section
variable {p q : List (List Int)} (O : Ok p) (E : Qp p q)
include O E

/-- A loop: what the whole's step makes of it. -/
theorem r_loop {i : Nat} (hi : i < p.length) (h12 : rget p i 0 = 12) (to : Int) (s : G) (h4 : 0 ≤ s.st) (h5 : s.st ≤ 80000000) (R : Rg s.g) :
    r7Ru2_l3_s22 (r7Ru2_l3_T.mk to (i : Int) q s.g s.gn false s.st) = true ∧
    (∃ v', r7Ru2_l3_s52 (r7Ru2_l3_T.mk to (i : Int) q s.g s.gn false s.st) = some (.e 7, v') ∧ v'.a0 = to ∧ v'.a1 = (i : Int) ∧
      v'.a5 = (lp p i (rget p i 4).toNat ⟨s.g, s.gn, s.st + 1⟩).2.g ∧ v'.a6 = (lp p i (rget p i 4).toNat ⟨s.g, s.gn, s.st + 1⟩).2.gn ∧ v'.a7 = !(lp p i (rget p i 4).toNat ⟨s.g, s.gn, s.st + 1⟩).1 ∧ v'.a8 = (lp p i (rget p i 4).toNat ⟨s.g, s.gn, s.st + 1⟩).2.st ∧ Rg (lp p i (rget p i 4).toNat ⟨s.g, s.gn, s.st + 1⟩).2.g) ∧
    lok r7Ru2_l26738665_st 18446744073709551616 (r7Ru2_l26738665_T.mk to (i : Int) (r7Ru2_l3_s32 (r7Ru2_l3_T.mk to (i : Int) q s.g s.gn false s.st)) 0 q (r7Ru2_l3_s48 (r7Ru2_l3_T.mk to (i : Int) q s.g s.gn false s.st)) (bif r7Ru2_l3_s49 (r7Ru2_l3_T.mk to (i : Int) q s.g s.gn false s.st) then true else s.gn) (r7Ru2_l3_s50 (r7Ru2_l3_T.mk to (i : Int) q s.g s.gn false s.st)) (r7Ru2_l3_s51 (r7Ru2_l3_T.mk to (i : Int) q s.g s.gn false s.st)) (rget q (Int.toNat (i : Int)) 0) (rget q (Int.toNat (i : Int)) 1) (rget q (Int.toNat (i : Int)) 2) (rget q (Int.toNat (i : Int)) 3) (rget q (Int.toNat (i : Int)) 4)) := by
  have Q : ∀ j, j < 5 → rget q (Int.toNat (i : Int)) j = rget p i j := fun j hj => by rw [Int.toNat_natCast, E.e i j hi hj]
  have hq : rget q (Int.toNat (i : Int)) 0 = 12 := by rw [Q 0 (by decide), h12]
  generalize hv : r7Ru2_l3_T.mk to (i : Int) q s.g s.gn false s.st = v
  have r6 : r7Ru2_l3_s6 v = false := by rw [← hv]; show (rget q (Int.toNat (i : Int)) 0 == 1) = _; rw [hq]; rfl
  have r7 : r7Ru2_l3_s7 v = false := by rw [← hv]; show (rget q (Int.toNat (i : Int)) 0 == 2) = _; rw [hq]; rfl
  have r8 : r7Ru2_l3_s8 v = false := by rw [← hv]; show (rget q (Int.toNat (i : Int)) 0 == 8) = _; rw [hq]; rfl
  have r9 : r7Ru2_l3_s9 v = false := by rw [← hv]; show (rget q (Int.toNat (i : Int)) 0 == 9) = _; rw [hq]; rfl
  have r11 : r7Ru2_l3_s11 v = false := by rw [← hv]; show (rget q (Int.toNat (i : Int)) 0 == 10) = _; rw [hq]; rfl
  have r13 : r7Ru2_l3_s13 v = false := by rw [← hv]; show (rget q (Int.toNat (i : Int)) 0 == 14) = _; rw [hq]; rfl
  have r20 : r7Ru2_l3_s20 v = false := by rw [← hv]; show (bif decide (3 ≤ rget q (Int.toNat (i : Int)) 0) then decide (rget q (Int.toNat (i : Int)) 0 ≤ 7) else false) = _; rw [hq]; rfl
  have r22 : r7Ru2_l3_s22 v = true := by rw [← hv]; show (rget q (Int.toNat (i : Int)) 0 == 12) = _; rw [hq]; rfl
  have r21 : r7Ru2_l3_s21 v = false := by
    unfold r7Ru2_l3_s21
    rw [r20, r6, r7, r8, r9, r11, r13]; rfl
  have r48 : r7Ru2_l3_s48 v = s.g := by
    unfold r7Ru2_l3_s48
    rw [r21, ← hv]; rfl
  have r49 : r7Ru2_l3_s49 v = false := by
    rw [← hv]
    show (bif rget q (Int.toNat (i : Int)) 0 == 13 then r7Ru2_l3_s30 _ else false) = _
    rw [hq]; rfl
  have r50 : r7Ru2_l3_s50 v = false := by
    unfold r7Ru2_l3_s50
    rw [r49, ← hv]
    show (bif rget q (Int.toNat (i : Int)) 0 == 0 then true else false) = _
    rw [hq]; rfl
  have r51 : r7Ru2_l3_s51 v = s.st + 1 := by
    rw [← hv]
    exact w64_in (show -9223372036854775808 ≤ s.st + 1 by omega) (show s.st + 1 ≤ 9223372036854775807 by omega)
  obtain ⟨L, ok⟩ := ref_lo O E hi h12 to (r7Ru2_l3_s32 v) (rget q (Int.toNat (i : Int)) 0) (rget q (Int.toNat (i : Int)) 1) (rget q (Int.toNat (i : Int)) 2) ⟨s.g, s.gn, s.st + 1⟩ (show (0 : Int) ≤ s.st + 1 by omega) (show s.st + 1 ≤ 90000000 by omega) R
  refine ⟨r22, ?_, ?_⟩
  · have e : r7Ru2_l3_s52 v = lrun r7Ru2_l26738665_st 18446744073709551616 (r7Ru2_l26738665_T.mk to (i : Int) (r7Ru2_l3_s32 v) 0 q (r7Ru2_l3_s48 v) (bif r7Ru2_l3_s49 v then true else s.gn) (r7Ru2_l3_s50 v) (r7Ru2_l3_s51 v) (rget q (Int.toNat (i : Int)) 0) (rget q (Int.toNat (i : Int)) 1) (rget q (Int.toNat (i : Int)) 2) (rget q (Int.toNat (i : Int)) 3) (rget q (Int.toNat (i : Int)) 4)) := by rw [← hv]; rfl
    rw [e, r48, r49, r50, r51, Q 3 (by decide), Q 4 (by decide)]
    exact L
  · rw [r48, r49, r50, r51, Q 3 (by decide), Q 4 (by decide)]
    exact ok
end
end Vm

end Go.Proofs.Ytcdejlgophpdjaa
end

section
namespace Go.Proofs.Ytcdejlgophpdjaa
open Go Go.RowKit Go.Proofs.Ytcdejlgophpdjaa.V
set_option linter.unusedVariables false
set_option linter.unusedSectionVars false

namespace Vm
section
variable {p q : List (List Int)} (O : Ok p) (E : Qp p q)
include O E

theorem ref_top (hF : p.length + Fs p p.length ≤ 200) (s : G) (hs : s.st = 0) (R : Rg s.g) :
    lok r7Ru2_l3_st 18446744073709551616 (r7Ru2_l3_T.mk (Int.ofNat p.length) 0 q s.g s.gn false s.st) ∧
    ∃ v', lrun r7Ru2_l3_st 18446744073709551616 (r7Ru2_l3_T.mk (Int.ofNat p.length) 0 q s.g s.gn false s.st) = some (.e 0, v') ∧
      v'.a3 = (top p p.length 0 s).2.g ∧ v'.a4 = (top p p.length 0 s).2.gn ∧ v'.a6 = (top p p.length 0 s).2.st ∧ Rg (top p p.length 0 s).2.g := by
  have hl := O.len
  generalize hr : top p p.length 0 s = r
  have hFs : ∀ i, i ≤ p.length → Fs p i ≤ Fs p p.length := fun i hi => by
    have := Fs_mono O.toPb i (p.length - i)
    rwa [show i + (p.length - i) = p.length by omega] at this
  obtain ⟨⟨x, v', e, hx, rfl, R1⟩, ok⟩ := mr_run (st := r7Ru2_l3_st) (I := fun d v => (∃ (i : Nat) (s' : G) (d' : Nat), d = d' + 1 ∧ v = r7Ru2_l3_T.mk (Int.ofNat p.length) (i : Int) q s'.g s'.gn false s'.st ∧ i ≤ p.length ∧ p.length ≤ i + d' ∧ (∀ k, ¬ Inb p k i) ∧ 0 ≤ s'.st ∧ s'.st ≤ i + Fs p i ∧ Rg s'.g ∧ top p d' i s' = r) ∨ (∃ n : Int, d = 0 ∧ v = r7Ru2_l3_T.mk (Int.ofNat p.length) n q r.2.g r.2.gn true r.2.st ∧ Rg r.2.g))
    (R := fun x v' => x = .e 0 ∧ v'.a3 = r.2.g ∧ v'.a4 = r.2.gn ∧ v'.a6 = r.2.st ∧ Rg r.2.g) (by
      rintro d v (⟨i, s', d', rfl, rfl, a1, a2, a3, a4, a5, a7, a6⟩ | ⟨n, rfl, rfl, a2⟩)
      · have s0 : r7Ru2_l3_s0 (r7Ru2_l3_T.mk (Int.ofNat p.length) (i : Int) q s'.g s'.gn false s'.st) = decide (i < p.length) := by
          show (bif decide ((i : Int) < (p.length : Int)) then !false else false) = _
          by_cases h : i < p.length
          · rw [decide_eq_true h, decide_eq_true (show (i : Int) < (p.length : Int) by omega)]; rfl
          · rw [decide_eq_false h, decide_eq_false (show ¬ (i : Int) < (p.length : Int) by omega)]; rfl
        have Fi := hFs i a1
        by_cases h : i < p.length
        · have I1 := O.ins i h
          obtain ⟨d', rfl⟩ : ∃ d'', d' = d'' + 1 := ⟨d' - 1, by omega⟩
          unfold top at a6
          rw [if_pos h] at a6
          by_cases h12 : rget p i 0 = 12
          · rw [if_pos h12] at a6
            obtain ⟨-, b1, b2, m1, m2⟩ := I1.loop h12
            obtain ⟨L22, ⟨v1, e1, f0, f1, f5, f6, f7, f8, fR⟩, lok⟩ := r_loop O E h h12 (Int.ofNat p.length) s' a4 (by omega) a7
            obtain ⟨-, -, -, -, -, -, c5, c6⟩ := lo_run O h h12 ⟨s'.g, s'.gn, s'.st + 1⟩ (show (0 : Int) ≤ s'.st + 1 by omega) (show s'.st + 1 ≤ 90000000 by omega)
            simp only at c6
            have fe' : fe p i = rget p i 3 * (rget p i 4 - 1) := by
              unfold fe
              rw [if_pos h12, if_neg (by omega)]
            have mul : rget p i 4 * rget p i 3 = fe p i + rget p i 3 := by
              rw [fe', Int.mul_sub, Int.mul_comm (rget p i 4)]; omega
            obtain ⟨n, hn⟩ : ∃ n : Nat, (i : Int) + 1 + rget p i 3 = (n : Int) := ⟨((i : Int) + 1 + rget p i 3).toNat, by omega⟩
            have Fn : Fs p i + fe p i ≤ Fs p n := by
              have := Fs_mono O.toPb (i + 1) (n - (i + 1))
              rw [show i + 1 + (n - (i + 1)) = n by omega] at this
              exact this
            refine ⟨r_ok2 O.toPb h I1 E fun _ => lok, ?_⟩
            unfold r7Ru2_l3_st
            rw [s0, L22, e1, decide_eq_true h]
            have nx : IntKind.wrap .i64 (IntKind.wrap .i64 (v1.a1 + 1) + rget q (Int.toNat (i : Int)) 3) = (n : Int) := by
              rw [f1, Int.toNat_natCast, E.e i 3 h (by decide), w64_in (n := (i : Int) + 1) (by omega) (by omega), w64_in (by omega) (by omega)]
              exact hn
            rw [hn, Int.toNat_natCast] at a6
            cases on : (lp p i (rget p i 4).toNat ⟨s'.g, s'.gn, s'.st + 1⟩).1 with
            | true =>
              rw [on] at a6 f7
              refine .inl ⟨r7Ru2_l3_T.mk (Int.ofNat p.length) (n : Int) q (lp p i (rget p i 4).toNat ⟨s'.g, s'.gn, s'.st + 1⟩).2.g (lp p i (rget p i 4).toNat ⟨s'.g, s'.gn, s'.st + 1⟩).2.gn false (lp p i (rget p i 4).toNat ⟨s'.g, s'.gn, s'.st + 1⟩).2.st, d' + 1, ?_, by omega, .inl ⟨n, (lp p i (rget p i 4).toNat ⟨s'.g, s'.gn, s'.st + 1⟩).2, d', rfl, rfl, by omega, by omega, fun k => by rw [← hn]; exact out_loop O h a3 h12 k, c5, by omega, fR, a6⟩⟩
              show some (X.n, r7Ru2_l3_T.mk v1.a0 (IntKind.wrap .i64 (IntKind.wrap .i64 (v1.a1 + 1) + rget q (Int.toNat (i : Int)) 3)) q v1.a5 v1.a6 v1.a7 v1.a8) = _
              rw [nx, f0, f5, f6, f7, f8]; rfl
            | false =>
              rw [on] at a6 f7
              refine .inl ⟨r7Ru2_l3_T.mk (Int.ofNat p.length) (n : Int) q r.2.g r.2.gn true r.2.st, 0, ?_, by omega, .inr ⟨n, rfl, rfl, by rw [← a6]; exact fR⟩⟩
              rw [← a6]
              show some (X.n, r7Ru2_l3_T.mk v1.a0 (IntKind.wrap .i64 (IntKind.wrap .i64 (v1.a1 + 1) + rget q (Int.toNat (i : Int)) 3)) q v1.a5 v1.a6 v1.a7 v1.a8) = _
              rw [nx, f0, f5, f6, f7, f8]; rfl
          · rw [if_neg h12] at a6
            obtain ⟨g0, g1, g2, g3, g4, g5⟩ := r_step2 (to := Int.ofNat p.length) O.toPb h I1 E h12 a7
            refine ⟨r_ok2 O.toPb h I1 E fun k => (by rw [g0] at k; cases k), ?_⟩
            have e4 : r7Ru2_l3_s51 (r7Ru2_l3_T.mk (Int.ofNat p.length) (i : Int) q s'.g s'.gn false s'.st) = s'.st + 1 := w64_in (show -9223372036854775808 ≤ s'.st + 1 by omega) (show s'.st + 1 ≤ 9223372036854775807 by omega)
            unfold r7Ru2_l3_st
            rw [s0, g0, decide_eq_true h]
            cases on : vSt1_1 (i : Int) s'.g p with
            | true =>
              rw [on] at a6 g4
              obtain ⟨n, hn, n1, n2, n3⟩ : ∃ n : Nat, vSt1_0 (i : Int) s'.g p = (n : Int) ∧ i < n ∧ n ≤ p.length ∧ ∀ k, ¬ Inb p k n := by
                rcases nx1 O.toPb h I1 h12 s'.g on with e | ⟨e, e'⟩
                · exact ⟨i + 1, by rw [e]; rfl, by omega, by omega, fun k => out_next O h a3 h12 k⟩
                · obtain ⟨z1, z2, -, -⟩ := I1.skip e
                  have hn : (i : Int) + 1 + rget p i 4 = ((((i : Int) + 1 + rget p i 4)).toNat : Int) := by omega
                  exact ⟨(((i : Int) + 1 + rget p i 4)).toNat, by rw [e']; exact hn, by omega, by omega, fun k => by rw [← hn]; exact out_skip O h a3 e k⟩
              rw [hn, Int.toNat_natCast] at a6
              have Fn := Fs_mono O.toPb i (n - i)
              rw [show i + (n - i) = n by omega] at Fn
              refine .inl ⟨r7Ru2_l3_T.mk (Int.ofNat p.length) (n : Int) q (vSt1_2 (i : Int) s'.g p) (vSt1_3 (i : Int) s'.g s'.gn p) false (s'.st + 1), d' + 1, ?_, by omega, .inl ⟨n, ⟨vSt1_2 (i : Int) s'.g p, vSt1_3 (i : Int) s'.g s'.gn p, s'.st + 1⟩, d', rfl, rfl, n2, by omega, n3, (show (0 : Int) ≤ s'.st + 1 by omega), (show s'.st + 1 ≤ (n : Int) + Fs p n by omega), g2, a6⟩⟩
              rw [g5 on, hn, g1, g4, e4, ← g3]; rfl
            | false =>
              rw [on] at a6 g4
              refine .inl ⟨r7Ru2_l3_T.mk (Int.ofNat p.length) (r7Ru2_l3_s32 (r7Ru2_l3_T.mk (Int.ofNat p.length) (i : Int) q s'.g s'.gn false s'.st)) q r.2.g r.2.gn true r.2.st, 0, ?_, by omega, .inr ⟨_, rfl, rfl, by rw [← a6]; exact g2⟩⟩
              rw [← a6, g1, g4, e4, ← g3]; rfl
        · refine ⟨?_, ?_⟩
          · unfold r7Ru2_l3_st
            rw [s0, decide_eq_false h]
            exact ⟨nofun, nofun, nofun, nofun, nofun, nofun, nofun, nofun, nofun, nofun, nofun, nofun, nofun, trivial⟩
          · have a6' : (true, s') = r := by
              rw [← a6]
              cases d' with
              | zero => rfl
              | succ d => unfold top; rw [if_neg h]
            refine .inr ⟨.e 0, r7Ru2_l3_T.mk (Int.ofNat p.length) (i : Int) q s'.g s'.gn false s'.st, by simp, ?_, rfl, ?_⟩
            · unfold r7Ru2_l3_st
              rw [s0, decide_eq_false h]; rfl
            · rw [← a6']; exact ⟨rfl, rfl, rfl, a7⟩
      · have s0 : r7Ru2_l3_s0 (r7Ru2_l3_T.mk (Int.ofNat p.length) n q r.2.g r.2.gn true r.2.st) = false := by
          show (bif decide (n < Int.ofNat p.length) then !true else false) = _
          cases decide (n < Int.ofNat p.length) <;> rfl
        refine ⟨?_, .inr ⟨.e 0, r7Ru2_l3_T.mk (Int.ofNat p.length) n q r.2.g r.2.gn true r.2.st, by simp, ?_, rfl, rfl, rfl, rfl, a2⟩⟩
        · unfold r7Ru2_l3_st
          rw [s0]
          exact ⟨nofun, nofun, nofun, nofun, nofun, nofun, nofun, nofun, nofun, nofun, nofun, nofun, nofun, trivial⟩
        · unfold r7Ru2_l3_st
          rw [s0]; rfl)
    18446744073709551616 (p.length + 1) _ (.inl ⟨0, s, p.length, rfl, rfl, Nat.zero_le _, by omega, fun k h => by have := h.2.2.1; omega, by omega, by simp [Fs]; omega, R, hr⟩) (by omega)
  exact ⟨ok, v', e, R1⟩
end
end Vm

end Go.Proofs.Ytcdejlgophpdjaa
end

section
namespace Go.Proofs.Ytcdejlgophpdjaa
open Go Go.RowKit Go.Proofs.Ytcdejlgophpdjaa.V
set_option linter.unusedVariables false

/-! azulejo/vm.Shade -/
def vSh_s0 (x4 : Int) : Int := if x4 < (0 : Int) then (0 : Int) else x4
def vSh_s1 (x1_0 x1_1 x1_2 x1_3 x2 x3 x4 : Int) : List Int := [vCol_0 x1_0, vCol_1 x1_1, vCol_2 x1_2, vCol_3 x1_3, fOf_0 x2, fOf_0 x3, if (65535 : Int) < vSh_s0 x4 then (65535 : Int) else vSh_s0 x4, (65536 : Int), (0 : Int), (0 : Int), (0 : Int), (0 : Int), (0 : Int), (0 : Int), (0 : Int), (0 : Int), (0 : Int), (0 : Int), (0 : Int), (0 : Int), (0 : Int), (0 : Int), (0 : Int), (0 : Int), (0 : Int), (0 : Int), (0 : Int), (0 : Int), (0 : Int), (0 : Int), (0 : Int), (0 : Int), (0 : Int), (0 : Int), (0 : Int), (0 : Int), (0 : Int), (0 : Int), (0 : Int), (0 : Int), (0 : Int), (0 : Int), (0 : Int), (0 : Int), (0 : Int), (0 : Int), (0 : Int), (0 : Int)]
def vSh_0 (x1_0 x1_1 x1_2 x1_3 x2 x3 x4 : Int) (p : List (List Int)) : Int := vCol_0 (vRun_0 (vSh_s1 x1_0 x1_1 x1_2 x1_3 x2 x3 x4) p)
def vSh_1 (x1_0 x1_1 x1_2 x1_3 x2 x3 x4 : Int) (p : List (List Int)) : Int := vCol_1 (vRun_1 (vSh_s1 x1_0 x1_1 x1_2 x1_3 x2 x3 x4) p)
def vSh_2 (x1_0 x1_1 x1_2 x1_3 x2 x3 x4 : Int) (p : List (List Int)) : Int := vCol_2 (vRun_2 (vSh_s1 x1_0 x1_1 x1_2 x1_3 x2 x3 x4) p)
def vSh_3 (x1_0 x1_1 x1_2 x1_3 x2 x3 x4 : Int) (p : List (List Int)) : Int := vCol_3 (vRun_3 (vSh_s1 x1_0 x1_1 x1_2 x1_3 x2 x3 x4) p)
def vSh_4 (x1_0 x1_1 x1_2 x1_3 x2 x3 x4 : Int) (p : List (List Int)) : Bool := vRun_48 (vSh_s1 x1_0 x1_1 x1_2 x1_3 x2 x3 x4) p
def vSh_5 (x1_0 x1_1 x1_2 x1_3 x2 x3 x4 : Int) (p : List (List Int)) : Int := vRun_49 (vSh_s1 x1_0 x1_1 x1_2 x1_3 x2 x3 x4) p
def vSh_o (x1_0 x1_1 x1_2 x1_3 x2 x3 x4 : Int) (r0 : Bool) (p : List (List Int)) : List Prop := [(!pCh_s0 p) = true → lok pCh_l29_st (18446744073709551616 : Nat) (pCh_l29_T.mk true (0 : Int) (Int.ofNat (List.length p)) (0 : Int) p), (!pCh_s0 p) = true → isX (X.e (0 : Nat)) (pCh_s1 true p) = true → lok pFu_l29_st (18446744073709551616 : Nat) (pFu_l29_T.mk (0 : Int) (Int.ofNat (List.length p)) (Int.ofNat (List.length p)) (0 : Int) p), vRun_s0 p = true → lok vRa5_l13_st (18446744073709551616 : Nat) (vRa5_l13_T.mk (Int.ofNat (List.length p)) false (0 : Int) (vRun_s2 (vSh_s1 x1_0 x1_1 x1_2 x1_3 x2 x3 x4)) false (0 : Int) p)]
theorem vSh_p (x1_0 x1_1 x1_2 x1_3 x2 x3 x4 : Int) (r0 : Bool) (p : List (List Int)) : evG Try.prog tabUc3 2000 88 [0, 1, 2, 3, 4, 6, 10, 11, 12, 13] [] [] [.a (.vec 0 0 5), .g [.int true .i64 x1_0, .int true .i64 x1_1, .int true .i64 x1_2, .int true .i64 x1_3], .a (.int true .i64 x2), .a (.int true .i64 x3), .a (.int true .i64 x4)] [⟨⟨0, 0, r0, some ⟨0, [.int .u8, .int .u8, .int .u8, .int .u8, .int .i16], p, none⟩⟩, []⟩] = some (vSh_o x1_0 x1_1 x1_2 x1_3 x2 x3 x4 r0 p, LV.t [LV.g [At.int true IntKind.i64 (vSh_0 x1_0 x1_1 x1_2 x1_3 x2 x3 x4 p), At.int true IntKind.i64 (vSh_1 x1_0 x1_1 x1_2 x1_3 x2 x3 x4 p), At.int true IntKind.i64 (vSh_2 x1_0 x1_1 x1_2 x1_3 x2 x3 x4 p), At.int true IntKind.i64 (vSh_3 x1_0 x1_1 x1_2 x1_3 x2 x3 x4 p)], LV.a (At.bool true (vSh_4 x1_0 x1_1 x1_2 x1_3 x2 x3 x4 p)), LV.a (At.int true IntKind.i64 (vSh_5 x1_0 x1_1 x1_2 x1_3 x2 x3 x4 p))], [none]) := by kernel_rfl
def vSh_c : Con
  | [.a (.vec 0 0 5), .g [.int true .i64 x1_0, .int true .i64 x1_1, .int true .i64 x1_2, .int true .i64 x1_3], .a (.int true .i64 x2), .a (.int true .i64 x3), .a (.int true .i64 x4)], [⟨⟨0, 0, r0, some ⟨0, [.int .u8, .int .u8, .int .u8, .int .u8, .int .i16], p, none⟩⟩, []⟩] => some (vSh_o x1_0 x1_1 x1_2 x1_3 x2 x3 x4 r0 p, LV.t [LV.g [At.int true IntKind.i64 (vSh_0 x1_0 x1_1 x1_2 x1_3 x2 x3 x4 p), At.int true IntKind.i64 (vSh_1 x1_0 x1_1 x1_2 x1_3 x2 x3 x4 p), At.int true IntKind.i64 (vSh_2 x1_0 x1_1 x1_2 x1_3 x2 x3 x4 p), At.int true IntKind.i64 (vSh_3 x1_0 x1_1 x1_2 x1_3 x2 x3 x4 p)], LV.a (At.bool true (vSh_4 x1_0 x1_1 x1_2 x1_3 x2 x3 x4 p)), LV.a (At.int true IntKind.i64 (vSh_5 x1_0 x1_1 x1_2 x1_3 x2 x3 x4 p))], [none])
  | _, _ => none
theorem vSh_ok : ConOK Try.prog 88 (normC vSh_c) := normC_ok (by
  intro args bs obs lv out h ho φ vs w may ha hM
  unfold vSh_c at h
  split at h
  · simp only [Option.some.injEq, Prod.mk.injEq] at h
    obtain ⟨rfl, rfl, rfl⟩ := h
    rename_i x1_0 x1_1 x1_2 x1_3 x2 x3 x4 r0 p
    exact evG_ok tabUc3_ok follows _ _ _ _ _ (vSh_p x1_0 x1_1 x1_2 x1_3 x2 x3 x4 r0 p) ho φ vs w may ha hM
  · cases h)
theorem vSh_en : Enters Try.prog 88 := fun args => by kernel_rfl
-- 440 32 20 ms

/-! azulejo/vm.Shade -/
def vShN_s0 (x4 : Int) : Int := if x4 < (0 : Int) then (0 : Int) else x4
def vShN_s1 (x1_0 x1_1 x1_2 x1_3 x2 x3 x4 : Int) : List Int := [vCol_0 x1_0, vCol_1 x1_1, vCol_2 x1_2, vCol_3 x1_3, fOf_0 x2, fOf_0 x3, if (65535 : Int) < vShN_s0 x4 then (65535 : Int) else vShN_s0 x4, (65536 : Int), (0 : Int), (0 : Int), (0 : Int), (0 : Int), (0 : Int), (0 : Int), (0 : Int), (0 : Int), (0 : Int), (0 : Int), (0 : Int), (0 : Int), (0 : Int), (0 : Int), (0 : Int), (0 : Int), (0 : Int), (0 : Int), (0 : Int), (0 : Int), (0 : Int), (0 : Int), (0 : Int), (0 : Int), (0 : Int), (0 : Int), (0 : Int), (0 : Int), (0 : Int), (0 : Int), (0 : Int), (0 : Int), (0 : Int), (0 : Int), (0 : Int), (0 : Int), (0 : Int), (0 : Int), (0 : Int), (0 : Int)]
def vShN_0 (x1_0 x1_1 x1_2 x1_3 x2 x3 x4 : Int) : Int := vCol_0 (vRunN_0 (vShN_s1 x1_0 x1_1 x1_2 x1_3 x2 x3 x4))
def vShN_1 (x1_0 x1_1 x1_2 x1_3 x2 x3 x4 : Int) : Int := vCol_1 (vRunN_1 (vShN_s1 x1_0 x1_1 x1_2 x1_3 x2 x3 x4))
def vShN_2 (x1_0 x1_1 x1_2 x1_3 x2 x3 x4 : Int) : Int := vCol_2 (vRunN_2 (vShN_s1 x1_0 x1_1 x1_2 x1_3 x2 x3 x4))
def vShN_3 (x1_0 x1_1 x1_2 x1_3 x2 x3 x4 : Int) : Int := vCol_3 (vRunN_3 (vShN_s1 x1_0 x1_1 x1_2 x1_3 x2 x3 x4))
def vShN_o (x1_0 x1_1 x1_2 x1_3 x2 x3 x4 : Int) : List Prop := [decide ((0 : Int) < (0 : Int)) = false]
theorem vShN_p (x1_0 x1_1 x1_2 x1_3 x2 x3 x4 : Int) : evG Try.prog tabUc3 2000 88 [0, 1, 2, 3, 4, 6, 10, 11, 12, 13] [] [] [.a .nils, .g [.int true .i64 x1_0, .int true .i64 x1_1, .int true .i64 x1_2, .int true .i64 x1_3], .a (.int true .i64 x2), .a (.int true .i64 x3), .a (.int true .i64 x4)] [] = some (vShN_o x1_0 x1_1 x1_2 x1_3 x2 x3 x4, LV.t [LV.g [At.int true IntKind.i64 (vShN_0 x1_0 x1_1 x1_2 x1_3 x2 x3 x4), At.int true IntKind.i64 (vShN_1 x1_0 x1_1 x1_2 x1_3 x2 x3 x4), At.int true IntKind.i64 (vShN_2 x1_0 x1_1 x1_2 x1_3 x2 x3 x4), At.int true IntKind.i64 (vShN_3 x1_0 x1_1 x1_2 x1_3 x2 x3 x4)], LV.a (At.bool false false), LV.a (At.int false IntKind.i64 vRunN_48)], []) := by kernel_rfl
def vShN_c : Con
  | [.a .nils, .g [.int true .i64 x1_0, .int true .i64 x1_1, .int true .i64 x1_2, .int true .i64 x1_3], .a (.int true .i64 x2), .a (.int true .i64 x3), .a (.int true .i64 x4)], [] => some (vShN_o x1_0 x1_1 x1_2 x1_3 x2 x3 x4, LV.t [LV.g [At.int true IntKind.i64 (vShN_0 x1_0 x1_1 x1_2 x1_3 x2 x3 x4), At.int true IntKind.i64 (vShN_1 x1_0 x1_1 x1_2 x1_3 x2 x3 x4), At.int true IntKind.i64 (vShN_2 x1_0 x1_1 x1_2 x1_3 x2 x3 x4), At.int true IntKind.i64 (vShN_3 x1_0 x1_1 x1_2 x1_3 x2 x3 x4)], LV.a (At.bool false false), LV.a (At.int false IntKind.i64 vRunN_48)], [])
  | _, _ => none
theorem vShN_ok : ConOK Try.prog 88 (normC vShN_c) := normC_ok (by
  intro args bs obs lv out h ho φ vs w may ha hM
  unfold vShN_c at h
  split at h
  · simp only [Option.some.injEq, Prod.mk.injEq] at h
    obtain ⟨rfl, rfl, rfl⟩ := h
    rename_i x1_0 x1_1 x1_2 x1_3 x2 x3 x4
    exact evG_ok tabUc3_ok follows _ _ _ _ _ (vShN_p x1_0 x1_1 x1_2 x1_3 x2 x3 x4) ho φ vs w may ha hM
  · cases h)
theorem vShN_en : Enters Try.prog 88 := fun args => by kernel_rfl
-- 443 32 20 ms

/-! azulejo/vm.Place -/
def vPl_s0 (x1_0 x1_1 x1_2 x1_3 x1_4 x1_5 x1_6 x1_7 x1_8 x1_9 x1_10 x1_11 x1_12 x1_13 x1_14 x1_15 x2_0 x2_1 x2_2 x2_3 x3_0 x3_1 x3_2 x3_3 : Int) : List Int := [x2_0, x2_1, x2_2, x2_3, x3_0, x3_1, x3_2, x3_3, (0 : Int), (0 : Int), (0 : Int), (0 : Int), (0 : Int), (0 : Int), (0 : Int), (0 : Int), x1_0, x1_1, x1_2, x1_3, x1_4, x1_5, x1_6, x1_7, x1_8, x1_9, x1_10, x1_11, x1_12, x1_13, x1_14, x1_15, (0 : Int), (0 : Int), (0 : Int), (0 : Int), (0 : Int), (0 : Int), (0 : Int), (0 : Int), (0 : Int), (0 : Int), (0 : Int), (0 : Int), (0 : Int), (0 : Int), (0 : Int), (0 : Int)]
def vPl_0 (x1_0 x1_1 x1_2 x1_3 x1_4 x1_5 x1_6 x1_7 x1_8 x1_9 x1_10 x1_11 x1_12 x1_13 x1_14 x1_15 x2_0 x2_1 x2_2 x2_3 x3_0 x3_1 x3_2 x3_3 : Int) (p : List (List Int)) : Int := fWi_0 (vRun_0 (vPl_s0 x1_0 x1_1 x1_2 x1_3 x1_4 x1_5 x1_6 x1_7 x1_8 x1_9 x1_10 x1_11 x1_12 x1_13 x1_14 x1_15 x2_0 x2_1 x2_2 x2_3 x3_0 x3_1 x3_2 x3_3) p) (4194304 : Int)
def vPl_1 (x1_0 x1_1 x1_2 x1_3 x1_4 x1_5 x1_6 x1_7 x1_8 x1_9 x1_10 x1_11 x1_12 x1_13 x1_14 x1_15 x2_0 x2_1 x2_2 x2_3 x3_0 x3_1 x3_2 x3_3 : Int) (p : List (List Int)) : Int := fWi_0 (vRun_1 (vPl_s0 x1_0 x1_1 x1_2 x1_3 x1_4 x1_5 x1_6 x1_7 x1_8 x1_9 x1_10 x1_11 x1_12 x1_13 x1_14 x1_15 x2_0 x2_1 x2_2 x2_3 x3_0 x3_1 x3_2 x3_3) p) (4194304 : Int)
def vPl_2 (x1_0 x1_1 x1_2 x1_3 x1_4 x1_5 x1_6 x1_7 x1_8 x1_9 x1_10 x1_11 x1_12 x1_13 x1_14 x1_15 x2_0 x2_1 x2_2 x2_3 x3_0 x3_1 x3_2 x3_3 : Int) (p : List (List Int)) : Int := fWi_0 (vRun_2 (vPl_s0 x1_0 x1_1 x1_2 x1_3 x1_4 x1_5 x1_6 x1_7 x1_8 x1_9 x1_10 x1_11 x1_12 x1_13 x1_14 x1_15 x2_0 x2_1 x2_2 x2_3 x3_0 x3_1 x3_2 x3_3) p) (4194304 : Int)
def vPl_3 (x1_0 x1_1 x1_2 x1_3 x1_4 x1_5 x1_6 x1_7 x1_8 x1_9 x1_10 x1_11 x1_12 x1_13 x1_14 x1_15 x2_0 x2_1 x2_2 x2_3 x3_0 x3_1 x3_2 x3_3 : Int) (p : List (List Int)) : Int := fWi_0 (vRun_3 (vPl_s0 x1_0 x1_1 x1_2 x1_3 x1_4 x1_5 x1_6 x1_7 x1_8 x1_9 x1_10 x1_11 x1_12 x1_13 x1_14 x1_15 x2_0 x2_1 x2_2 x2_3 x3_0 x3_1 x3_2 x3_3) p) (4194304 : Int)
def vPl_4 (x1_0 x1_1 x1_2 x1_3 x1_4 x1_5 x1_6 x1_7 x1_8 x1_9 x1_10 x1_11 x1_12 x1_13 x1_14 x1_15 x2_0 x2_1 x2_2 x2_3 x3_0 x3_1 x3_2 x3_3 : Int) (p : List (List Int)) : Int := vCol_0 (vRun_4 (vPl_s0 x1_0 x1_1 x1_2 x1_3 x1_4 x1_5 x1_6 x1_7 x1_8 x1_9 x1_10 x1_11 x1_12 x1_13 x1_14 x1_15 x2_0 x2_1 x2_2 x2_3 x3_0 x3_1 x3_2 x3_3) p)
def vPl_5 (x1_0 x1_1 x1_2 x1_3 x1_4 x1_5 x1_6 x1_7 x1_8 x1_9 x1_10 x1_11 x1_12 x1_13 x1_14 x1_15 x2_0 x2_1 x2_2 x2_3 x3_0 x3_1 x3_2 x3_3 : Int) (p : List (List Int)) : Int := vCol_1 (vRun_5 (vPl_s0 x1_0 x1_1 x1_2 x1_3 x1_4 x1_5 x1_6 x1_7 x1_8 x1_9 x1_10 x1_11 x1_12 x1_13 x1_14 x1_15 x2_0 x2_1 x2_2 x2_3 x3_0 x3_1 x3_2 x3_3) p)
def vPl_6 (x1_0 x1_1 x1_2 x1_3 x1_4 x1_5 x1_6 x1_7 x1_8 x1_9 x1_10 x1_11 x1_12 x1_13 x1_14 x1_15 x2_0 x2_1 x2_2 x2_3 x3_0 x3_1 x3_2 x3_3 : Int) (p : List (List Int)) : Int := vCol_2 (vRun_6 (vPl_s0 x1_0 x1_1 x1_2 x1_3 x1_4 x1_5 x1_6 x1_7 x1_8 x1_9 x1_10 x1_11 x1_12 x1_13 x1_14 x1_15 x2_0 x2_1 x2_2 x2_3 x3_0 x3_1 x3_2 x3_3) p)
def vPl_7 (x1_0 x1_1 x1_2 x1_3 x1_4 x1_5 x1_6 x1_7 x1_8 x1_9 x1_10 x1_11 x1_12 x1_13 x1_14 x1_15 x2_0 x2_1 x2_2 x2_3 x3_0 x3_1 x3_2 x3_3 : Int) (p : List (List Int)) : Int := vCol_3 (vRun_7 (vPl_s0 x1_0 x1_1 x1_2 x1_3 x1_4 x1_5 x1_6 x1_7 x1_8 x1_9 x1_10 x1_11 x1_12 x1_13 x1_14 x1_15 x2_0 x2_1 x2_2 x2_3 x3_0 x3_1 x3_2 x3_3) p)
def vPl_o (x1_0 x1_1 x1_2 x1_3 x1_4 x1_5 x1_6 x1_7 x1_8 x1_9 x1_10 x1_11 x1_12 x1_13 x1_14 x1_15 x2_0 x2_1 x2_2 x2_3 x3_0 x3_1 x3_2 x3_3 : Int) (r0 : Bool) (p : List (List Int)) : List Prop := [(!pCh_s0 p) = true → lok pCh_l29_st (18446744073709551616 : Nat) (pCh_l29_T.mk true (0 : Int) (Int.ofNat (List.length p)) (0 : Int) p), (!pCh_s0 p) = true → isX (X.e (0 : Nat)) (pCh_s1 true p) = true → lok pFu_l29_st (18446744073709551616 : Nat) (pFu_l29_T.mk (0 : Int) (Int.ofNat (List.length p)) (Int.ofNat (List.length p)) (0 : Int) p), vRun_s0 p = true → lok vRa5_l13_st (18446744073709551616 : Nat) (vRa5_l13_T.mk (Int.ofNat (List.length p)) false (0 : Int) (vRun_s2 (vPl_s0 x1_0 x1_1 x1_2 x1_3 x1_4 x1_5 x1_6 x1_7 x1_8 x1_9 x1_10 x1_11 x1_12 x1_13 x1_14 x1_15 x2_0 x2_1 x2_2 x2_3 x3_0 x3_1 x3_2 x3_3)) false (0 : Int) p)]
theorem vPl_p (x1_0 x1_1 x1_2 x1_3 x1_4 x1_5 x1_6 x1_7 x1_8 x1_9 x1_10 x1_11 x1_12 x1_13 x1_14 x1_15 x2_0 x2_1 x2_2 x2_3 x3_0 x3_1 x3_2 x3_3 : Int) (r0 : Bool) (p : List (List Int)) : evG Try.prog tabUc3 2000 91 [0, 1, 2, 3, 5, 6, 7, 8, 9, 10, 11, 12, 13, 17, 18, 19] [] [] [.a (.vec 0 0 5), .g [.int true .i64 x1_0, .int true .i64 x1_1, .int true .i64 x1_2, .int true .i64 x1_3, .int true .i64 x1_4, .int true .i64 x1_5, .int true .i64 x1_6, .int true .i64 x1_7, .int true .i64 x1_8, .int true .i64 x1_9, .int true .i64 x1_10, .int true .i64 x1_11, .int true .i64 x1_12, .int true .i64 x1_13, .int true .i64 x1_14, .int true .i64 x1_15], .g [.int true .i64 x2_0, .int true .i64 x2_1, .int true .i64 x2_2, .int true .i64 x2_3], .g [.int true .i64 x3_0, .int true .i64 x3_1, .int true .i64 x3_2, .int true .i64 x3_3]] [⟨⟨0, 0, r0, some ⟨0, [.int .u8, .int .u8, .int .u8, .int .u8, .int .i16], p, none⟩⟩, []⟩] = some (vPl_o x1_0 x1_1 x1_2 x1_3 x1_4 x1_5 x1_6 x1_7 x1_8 x1_9 x1_10 x1_11 x1_12 x1_13 x1_14 x1_15 x2_0 x2_1 x2_2 x2_3 x3_0 x3_1 x3_2 x3_3 r0 p, LV.t [LV.g [At.int true IntKind.i64 (vPl_0 x1_0 x1_1 x1_2 x1_3 x1_4 x1_5 x1_6 x1_7 x1_8 x1_9 x1_10 x1_11 x1_12 x1_13 x1_14 x1_15 x2_0 x2_1 x2_2 x2_3 x3_0 x3_1 x3_2 x3_3 p), At.int true IntKind.i64 (vPl_1 x1_0 x1_1 x1_2 x1_3 x1_4 x1_5 x1_6 x1_7 x1_8 x1_9 x1_10 x1_11 x1_12 x1_13 x1_14 x1_15 x2_0 x2_1 x2_2 x2_3 x3_0 x3_1 x3_2 x3_3 p), At.int true IntKind.i64 (vPl_2 x1_0 x1_1 x1_2 x1_3 x1_4 x1_5 x1_6 x1_7 x1_8 x1_9 x1_10 x1_11 x1_12 x1_13 x1_14 x1_15 x2_0 x2_1 x2_2 x2_3 x3_0 x3_1 x3_2 x3_3 p), At.int true IntKind.i64 (vPl_3 x1_0 x1_1 x1_2 x1_3 x1_4 x1_5 x1_6 x1_7 x1_8 x1_9 x1_10 x1_11 x1_12 x1_13 x1_14 x1_15 x2_0 x2_1 x2_2 x2_3 x3_0 x3_1 x3_2 x3_3 p)], LV.g [At.int true IntKind.i64 (vPl_4 x1_0 x1_1 x1_2 x1_3 x1_4 x1_5 x1_6 x1_7 x1_8 x1_9 x1_10 x1_11 x1_12 x1_13 x1_14 x1_15 x2_0 x2_1 x2_2 x2_3 x3_0 x3_1 x3_2 x3_3 p), At.int true IntKind.i64 (vPl_5 x1_0 x1_1 x1_2 x1_3 x1_4 x1_5 x1_6 x1_7 x1_8 x1_9 x1_10 x1_11 x1_12 x1_13 x1_14 x1_15 x2_0 x2_1 x2_2 x2_3 x3_0 x3_1 x3_2 x3_3 p), At.int true IntKind.i64 (vPl_6 x1_0 x1_1 x1_2 x1_3 x1_4 x1_5 x1_6 x1_7 x1_8 x1_9 x1_10 x1_11 x1_12 x1_13 x1_14 x1_15 x2_0 x2_1 x2_2 x2_3 x3_0 x3_1 x3_2 x3_3 p), At.int true IntKind.i64 (vPl_7 x1_0 x1_1 x1_2 x1_3 x1_4 x1_5 x1_6 x1_7 x1_8 x1_9 x1_10 x1_11 x1_12 x1_13 x1_14 x1_15 x2_0 x2_1 x2_2 x2_3 x3_0 x3_1 x3_2 x3_3 p)]], [none]) := by kernel_rfl
def vPl_c : Con
  | [.a (.vec 0 0 5), .g [.int true .i64 x1_0, .int true .i64 x1_1, .int true .i64 x1_2, .int true .i64 x1_3, .int true .i64 x1_4, .int true .i64 x1_5, .int true .i64 x1_6, .int true .i64 x1_7, .int true .i64 x1_8, .int true .i64 x1_9, .int true .i64 x1_10, .int true .i64 x1_11, .int true .i64 x1_12, .int true .i64 x1_13, .int true .i64 x1_14, .int true .i64 x1_15], .g [.int true .i64 x2_0, .int true .i64 x2_1, .int true .i64 x2_2, .int true .i64 x2_3], .g [.int true .i64 x3_0, .int true .i64 x3_1, .int true .i64 x3_2, .int true .i64 x3_3]], [⟨⟨0, 0, r0, some ⟨0, [.int .u8, .int .u8, .int .u8, .int .u8, .int .i16], p, none⟩⟩, []⟩] => some (vPl_o x1_0 x1_1 x1_2 x1_3 x1_4 x1_5 x1_6 x1_7 x1_8 x1_9 x1_10 x1_11 x1_12 x1_13 x1_14 x1_15 x2_0 x2_1 x2_2 x2_3 x3_0 x3_1 x3_2 x3_3 r0 p, LV.t [LV.g [At.int true IntKind.i64 (vPl_0 x1_0 x1_1 x1_2 x1_3 x1_4 x1_5 x1_6 x1_7 x1_8 x1_9 x1_10 x1_11 x1_12 x1_13 x1_14 x1_15 x2_0 x2_1 x2_2 x2_3 x3_0 x3_1 x3_2 x3_3 p), At.int true IntKind.i64 (vPl_1 x1_0 x1_1 x1_2 x1_3 x1_4 x1_5 x1_6 x1_7 x1_8 x1_9 x1_10 x1_11 x1_12 x1_13 x1_14 x1_15 x2_0 x2_1 x2_2 x2_3 x3_0 x3_1 x3_2 x3_3 p), At.int true IntKind.i64 (vPl_2 x1_0 x1_1 x1_2 x1_3 x1_4 x1_5 x1_6 x1_7 x1_8 x1_9 x1_10 x1_11 x1_12 x1_13 x1_14 x1_15 x2_0 x2_1 x2_2 x2_3 x3_0 x3_1 x3_2 x3_3 p), At.int true IntKind.i64 (vPl_3 x1_0 x1_1 x1_2 x1_3 x1_4 x1_5 x1_6 x1_7 x1_8 x1_9 x1_10 x1_11 x1_12 x1_13 x1_14 x1_15 x2_0 x2_1 x2_2 x2_3 x3_0 x3_1 x3_2 x3_3 p)], LV.g [At.int true IntKind.i64 (vPl_4 x1_0 x1_1 x1_2 x1_3 x1_4 x1_5 x1_6 x1_7 x1_8 x1_9 x1_10 x1_11 x1_12 x1_13 x1_14 x1_15 x2_0 x2_1 x2_2 x2_3 x3_0 x3_1 x3_2 x3_3 p), At.int true IntKind.i64 (vPl_5 x1_0 x1_1 x1_2 x1_3 x1_4 x1_5 x1_6 x1_7 x1_8 x1_9 x1_10 x1_11 x1_12 x1_13 x1_14 x1_15 x2_0 x2_1 x2_2 x2_3 x3_0 x3_1 x3_2 x3_3 p), At.int true IntKind.i64 (vPl_6 x1_0 x1_1 x1_2 x1_3 x1_4 x1_5 x1_6 x1_7 x1_8 x1_9 x1_10 x1_11 x1_12 x1_13 x1_14 x1_15 x2_0 x2_1 x2_2 x2_3 x3_0 x3_1 x3_2 x3_3 p), At.int true IntKind.i64 (vPl_7 x1_0 x1_1 x1_2 x1_3 x1_4 x1_5 x1_6 x1_7 x1_8 x1_9 x1_10 x1_11 x1_12 x1_13 x1_14 x1_15 x2_0 x2_1 x2_2 x2_3 x3_0 x3_1 x3_2 x3_3 p)]], [none])
  | _, _ => none
theorem vPl_ok : ConOK Try.prog 91 (normC vPl_c) := normC_ok (by
  intro args bs obs lv out h ho φ vs w may ha hM
  unfold vPl_c at h
  split at h
  · simp only [Option.some.injEq, Prod.mk.injEq] at h
    obtain ⟨rfl, rfl, rfl⟩ := h
    rename_i x1_0 x1_1 x1_2 x1_3 x1_4 x1_5 x1_6 x1_7 x1_8 x1_9 x1_10 x1_11 x1_12 x1_13 x1_14 x1_15 x2_0 x2_1 x2_2 x2_3 x3_0 x3_1 x3_2 x3_3 r0 p
    exact evG_ok tabUc3_ok follows _ _ _ _ _ (vPl_p x1_0 x1_1 x1_2 x1_3 x1_4 x1_5 x1_6 x1_7 x1_8 x1_9 x1_10 x1_11 x1_12 x1_13 x1_14 x1_15 x2_0 x2_1 x2_2 x2_3 x3_0 x3_1 x3_2 x3_3 r0 p) ho φ vs w may ha hM
  · cases h)
theorem vPl_en : Enters Try.prog 91 := fun args => by kernel_rfl
-- 990 17 32 ms

def tabUc4 : Tab := (88, normC vSh_c) :: (88, normC vShN_c) :: (91, normC vPl_c) :: tabUc3
theorem tabUc4_ok : TOK Try.prog tabUc4 := TOK.cons vSh_en vSh_ok (TOK.cons vShN_en vShN_ok (TOK.cons vPl_en vPl_ok (tabUc3_ok)))

end Go.Proofs.Ytcdejlgophpdjaa
end

section
namespace Go.Proofs.Ytcdejlgophpdjaa
open Go Go.RowKit Go.Proofs.Ytcdejlgophpdjaa.V
set_option linter.unusedVariables false

/-! azulejo/azulejolaw07.Program -/
noncomputable def pPr_l29_code : Go.Code := loopOf (subs (bodyOf Try.prog 81) 1 29)
structure pPr_l29_T where
  a0 : Bool
  a1 : Nat
  a2 : Int
  a3 : Int
  a4 : List (List Int)
  a5 : List (List Int)
  deriving Inhabited
def pPr_l29_hd (v : pPr_l29_T) : HS := HS.mk [(nat_lit 1, LV.a (At.bool true (pPr_l29_T.a0 v))), (nat_lit 4, LV.a At.nils), (nat_lit 5, LV.a (At.vec (nat_lit 1) (nat_lit 0) (nat_lit 5))), (nat_lit 12, LV.a (At.slc true (nat_lit 0) (nat_lit 0) (nat_lit 0) (nat_lit 6) (nat_lit 0) (pPr_l29_T.a1 v))), (nat_lit 13, LV.a (At.int true IntKind.i64 (pPr_l29_T.a2 v))), (nat_lit 14, LV.a (At.int true IntKind.i64 (pPr_l29_T.a3 v)))] [BC.mk (Hd.mk (nat_lit 0) (nat_lit 0) true (some (Rw.mk (nat_lit 0) [Kd.int IntKind.u8, Kd.int IntKind.u8, Kd.int IntKind.u8, Kd.int IntKind.u8, Kd.int IntKind.i16, Kd.bool] (pPr_l29_T.a4 v) none))) [], BC.mk (Hd.mk (nat_lit 0) (nat_lit 0) false (some (Rw.mk (nat_lit 0) [Kd.int IntKind.u8, Kd.int IntKind.u8, Kd.int IntKind.u8, Kd.int IntKind.u8, Kd.int IntKind.i16] (pPr_l29_T.a5 v) none))) []]
def pPr_l29_s0 (v : pPr_l29_T) : Bool := decide (pPr_l29_T.a3 v < pPr_l29_T.a2 v)
def pPr_l29_s1 (v : pPr_l29_T) : Bool := decide (pPr_l29_T.a3 v < (20 : Int))
def pPr_l29_s2 (v : pPr_l29_T) : Int := rget (pPr_l29_T.a4 v) (nat_lit 0 + Int.toNat (pPr_l29_T.a3 v)) (3 : Nat)
def pPr_l29_s3 (v : pPr_l29_T) : Int := rget (pPr_l29_T.a4 v) (nat_lit 0 + Int.toNat (pPr_l29_T.a3 v)) (4 : Nat)
def pPr_l29_s4 (v : pPr_l29_T) : List (List Int) := pPr_l29_T.a5 v ++ [[Int.tmod (rget (pPr_l29_T.a4 v) (nat_lit 0 + Int.toNat (pPr_l29_T.a3 v)) (0 : Nat)) (15 : Int), Int.tmod (rget (pPr_l29_T.a4 v) (nat_lit 0 + Int.toNat (pPr_l29_T.a3 v)) (1 : Nat)) (12 : Int), Int.tmod (rget (pPr_l29_T.a4 v) (nat_lit 0 + Int.toNat (pPr_l29_T.a3 v)) (2 : Nat)) (9 : Int), Int.tmod (pPr_l29_s2 v) (12 : Int), pPr_l29_s3 v]]
def pPr_l29_s5 : Int := Int.ofNat ((2 : Nat) ^ IntKind.bits IntKind.i16)
def pPr_l29_st (v : pPr_l29_T) : List Prop × List (X × Bool × pPr_l29_T) := ([pPr_l29_s0 v = true → (0 : Int) ≤ pPr_l29_T.a3 v ∧ pPr_l29_T.a3 v < Int.ofNat (pPr_l29_T.a1 v), pPr_l29_s0 v = true → pPr_l29_s1 v = true → List.length (pPr_l29_s4 v) * (6 : Nat) ≤ (70368744177664 : Nat), pPr_l29_s0 v = true → pPr_l29_s1 v = true → (0 : Int) ≤ pPr_l29_T.a3 v ∧ pPr_l29_T.a3 v < Int.ofNat (List.length (pPr_l29_s4 v))], [(X.e (0 : Nat), !pPr_l29_s0 v, pPr_l29_T.mk (pPr_l29_T.a0 v) (pPr_l29_T.a1 v) (pPr_l29_T.a2 v) (pPr_l29_T.a3 v) (pPr_l29_T.a4 v) (pPr_l29_T.a5 v)), (X.n, pPr_l29_s0 v, pPr_l29_T.mk (pPr_l29_T.a0 v) (pPr_l29_T.a1 v) (pPr_l29_T.a2 v) (IntKind.wrap IntKind.i64 (pPr_l29_T.a3 v + (1 : Int))) (pPr_l29_T.a4 v) (bif pPr_l29_s1 v then bif bif rget (pPr_l29_s4 v) (Int.toNat (pPr_l29_T.a3 v)) (0 : Nat) == (12 : Int) then true else rget (pPr_l29_s4 v) (Int.toNat (pPr_l29_T.a3 v)) (0 : Nat) == (11 : Int) then rset (rset (pPr_l29_s4 v) (Int.toNat (pPr_l29_T.a3 v)) (3 : Nat) [IntKind.wrap IntKind.u8 ((1 : Int) + Int.tmod (pPr_l29_s2 v) (4 : Int))]) (Int.toNat (pPr_l29_T.a3 v)) (4 : Nat) [IntKind.wrap IntKind.i16 ((1 : Int) + IntKind.wrap IntKind.i16 (Int.ofNat (Int.toNat (pPr_l29_s3 v % pPr_l29_s5) &&& Int.toNat ((3 : Int) % pPr_l29_s5))))] else pPr_l29_s4 v else pPr_l29_T.a5 v))])
def pPr_l29_rd : HS → Option pPr_l29_T := rdS [.b, .lit 0, .n, .i, .i, .r, .r] (fun l => pPr_l29_T.mk (gB l 0) (gN l 2) (gI l 3) (gI l 4) (gR l 5) (gR l 6)) pPr_l29_hd
def pPr_l29_sum : V.Sum := loopS pPr_l29_hd pPr_l29_rd pPr_l29_st 18446744073709551616 [X.e (0 : Nat)] [0, 1, 4, 5, 6, 7, 8, 9, 10, 11, 12, 13, 14, 15, 20, 53, 69, 70, 72, 73, 74, 124, 128] [1, 4, 5, 12, 13, 14] [1] [1] [(5, [.int .u8, .int .u8, .int .u8, .int .u8, .int .i16])] 0
theorem pPr_l29_E : ∀ v, bodyF Try.prog tabUc4 (ntOf Try.prog 81) [0, 1, 4, 5, 6, 7, 8, 9, 10, 11, 12, 13, 14, 15, 20, 53, 69, 70, 72, 73, 74, 124, 128] [1, 4, 5, 12, 13, 14] [] 2000 [1] [1] pPr_l29_code 116 (pPr_l29_hd v) = some ((pPr_l29_st v).1, (pPr_l29_st v).2.map fun q => (q.1, q.2.1, pPr_l29_hd q.2.2)) := fun v => by kernel_rfl
theorem pPr_l29_R : ∀ h v, pPr_l29_rd h = some v → h = pPr_l29_hd v := rdS_ok fun l => by kernel_rfl
set_option maxRecDepth 100000 in
theorem pPr_l29_sok : SumOK Try.prog (ntOf Try.prog 81) [0, 1, 4, 5, 6, 7, 8, 9, 10, 11, 12, 13, 14, 15, 20, 53, 69, 70, 72, 73, 74, 124, 128] (.block (blockOf (subs (bodyOf Try.prog 81) 1 29)) (.loop pPr_l29_code)) pPr_l29_sum := loopS_ok tabUc4_ok follows pPr_l29_E pPr_l29_R (fun v => by kernel_rfl) (LOK_of _ _ (LOK_nil'))
noncomputable def pPr_l31333_code : Go.Code := loopOf (subs (bodyOf Try.prog 81) 1 31333)
structure pPr_l31333_T where
  a0 : Bool
  a1 : Int
  a2 : Int
  a3 : Int
  a4 : Int
  a5 : List (List Int)
  deriving Inhabited
def pPr_l31333_hd (v : pPr_l31333_T) : HS := HS.mk [(nat_lit 1, LV.a (At.bool true (pPr_l31333_T.a0 v))), (nat_lit 4, LV.a At.nils), (nat_lit 5, LV.a (At.vec (nat_lit 0) (nat_lit 0) (nat_lit 5))), (nat_lit 9, LV.a (At.int true IntKind.i64 (pPr_l31333_T.a1 v))), (nat_lit 69, LV.a (At.int true IntKind.i64 (pPr_l31333_T.a2 v))), (nat_lit 72, LV.a (At.int true IntKind.i64 (pPr_l31333_T.a3 v))), (nat_lit 73, LV.a (At.int true IntKind.i64 (pPr_l31333_T.a4 v)))] [BC.mk (Hd.mk (nat_lit 0) (nat_lit 0) true (some (Rw.mk (nat_lit 0) [Kd.int IntKind.u8, Kd.int IntKind.u8, Kd.int IntKind.u8, Kd.int IntKind.u8, Kd.int IntKind.i16] (pPr_l31333_T.a5 v) none))) []]
def pPr_l31333_s0 (v : pPr_l31333_T) : Bool := decide (pPr_l31333_T.a4 v < pPr_l31333_T.a3 v)
def pPr_l31333_s1 (v : pPr_l31333_T) : List (List Int) := [] ++ pPr_l31333_T.a5 v
def pPr_l31333_s2 (v : pPr_l31333_T) : Bool := decide (pPr_l31333_T.a1 v < (0 : Int))
def pPr_l31333_s3 (v : pPr_l31333_T) : Bool := pCh_0 (pPr_l31333_T.a0 v) (pPr_l31333_T.a5 v) != (0 : Int)
def pPr_l31333_s4 (v : pPr_l31333_T) : List (List Int) := List.set (pPr_l31333_s1 v) (Int.toNat (pPr_l31333_T.a4 v)) [(1 : Int), (0 : Int), (0 : Int), (0 : Int), (0 : Int)]
def pPr_l31333_s5 (v : pPr_l31333_T) : Bool := pCh_0 (pPr_l31333_T.a0 v) (pPr_l31333_s4 v) == (0 : Int)
def pPr_l31333_s6 (v : pPr_l31333_T) : Bool := rget (pPr_l31333_T.a5 v) (Int.toNat (pPr_l31333_T.a4 v)) (0 : Nat) == (12 : Int)
def pPr_l31333_s7 (v : pPr_l31333_T) : Bool := rget (pPr_l31333_T.a5 v) (Int.toNat (pPr_l31333_T.a4 v)) (0 : Nat) == (11 : Int)
def pPr_l31333_st (v : pPr_l31333_T) : List Prop × List (X × Bool × pPr_l31333_T) := ([pPr_l31333_s0 v = true → List.length (pPr_l31333_s1 v) * (6 : Nat) ≤ (70368744177664 : Nat), pPr_l31333_s0 v = true → (0 : Int) ≤ pPr_l31333_T.a4 v ∧ pPr_l31333_T.a4 v < Int.ofNat (List.length (pPr_l31333_s1 v)), pPr_l31333_s0 v = true → pPr_l31333_s2 v = true → (!pCh_s0 (pPr_l31333_T.a5 v)) = true → lok pCh_l29_st (18446744073709551616 : Nat) (pCh_l29_T.mk (pPr_l31333_T.a0 v) (0 : Int) (Int.ofNat (List.length (pPr_l31333_T.a5 v))) (0 : Int) (pPr_l31333_T.a5 v)), pPr_l31333_s0 v = true → pPr_l31333_s2 v = true → (!pCh_s0 (pPr_l31333_T.a5 v)) = true → isX (X.e (0 : Nat)) (pCh_s1 (pPr_l31333_T.a0 v) (pPr_l31333_T.a5 v)) = true → lok pFu_l29_st (18446744073709551616 : Nat) (pFu_l29_T.mk (0 : Int) (Int.ofNat (List.length (pPr_l31333_T.a5 v))) (Int.ofNat (List.length (pPr_l31333_T.a5 v))) (0 : Int) (pPr_l31333_T.a5 v)), pPr_l31333_s0 v = true → pPr_l31333_s2 v = true → pPr_l31333_s3 v = true → (!pCh_s0 (pPr_l31333_s4 v)) = true → lok pCh_l29_st (18446744073709551616 : Nat) (pCh_l29_T.mk (pPr_l31333_T.a0 v) (0 : Int) (Int.ofNat (List.length (pPr_l31333_s4 v))) (0 : Int) (pPr_l31333_s4 v)), pPr_l31333_s0 v = true → pPr_l31333_s2 v = true → pPr_l31333_s3 v = true → (!pCh_s0 (pPr_l31333_s4 v)) = true → isX (X.e (0 : Nat)) (pCh_s1 (pPr_l31333_T.a0 v) (pPr_l31333_s4 v)) = true → lok pFu_l29_st (18446744073709551616 : Nat) (pFu_l29_T.mk (0 : Int) (Int.ofNat (List.length (pPr_l31333_s4 v))) (Int.ofNat (List.length (pPr_l31333_s4 v))) (0 : Int) (pPr_l31333_s4 v)), pPr_l31333_s0 v = true → pPr_l31333_s2 v = true → pPr_l31333_s3 v = true → pPr_l31333_s5 v = false → (0 : Int) ≤ pPr_l31333_T.a4 v ∧ pPr_l31333_T.a4 v < Int.ofNat (List.length (pPr_l31333_T.a5 v)), pPr_l31333_s0 v = true → pPr_l31333_s2 v = true → pPr_l31333_s3 v = true → pPr_l31333_s5 v = false → pPr_l31333_s6 v = false → (0 : Int) ≤ pPr_l31333_T.a4 v ∧ pPr_l31333_T.a4 v < Int.ofNat (List.length (pPr_l31333_T.a5 v)), pPr_l31333_s0 v = true → pPr_l31333_s2 v = true → pPr_l31333_s3 v = true → pPr_l31333_s5 v = false → pPr_l31333_s6 v = false → pPr_l31333_s7 v = false → (0 : Int) ≤ pPr_l31333_T.a4 v ∧ pPr_l31333_T.a4 v < Int.ofNat (List.length (pPr_l31333_T.a5 v))], [(X.e (4 : Nat), !pPr_l31333_s0 v, pPr_l31333_T.mk (pPr_l31333_T.a0 v) (pPr_l31333_T.a1 v) (pPr_l31333_T.a2 v) (pPr_l31333_T.a3 v) (pPr_l31333_T.a4 v) (pPr_l31333_T.a5 v)), (X.n, pPr_l31333_s0 v, pPr_l31333_T.mk (pPr_l31333_T.a0 v) (bif bif pPr_l31333_s2 v then bif pPr_l31333_s3 v then bif pPr_l31333_s5 v then true else bif pPr_l31333_s6 v then true else bif pPr_l31333_s7 v then true else bif rget (pPr_l31333_T.a5 v) (Int.toNat (pPr_l31333_T.a4 v)) (0 : Nat) == (13 : Int) then !pPr_l31333_T.a0 v else false else false else false then pPr_l31333_T.a4 v else pPr_l31333_T.a1 v) (pPr_l31333_T.a2 v) (pPr_l31333_T.a3 v) (IntKind.wrap IntKind.i64 (pPr_l31333_T.a4 v + (1 : Int))) (pPr_l31333_T.a5 v))])
def pPr_l31333_rd : HS → Option pPr_l31333_T := rdS [.b, .i, .i, .i, .i, .r] (fun l => pPr_l31333_T.mk (gB l 0) (gI l 1) (gI l 2) (gI l 3) (gI l 4) (gR l 5)) pPr_l31333_hd
def pPr_l31333_sum : V.Sum := loopS pPr_l31333_hd pPr_l31333_rd pPr_l31333_st 18446744073709551616 [X.e (4 : Nat)] [0, 1, 4, 5, 6, 7, 8, 9, 10, 11, 12, 13, 14, 15, 20, 53, 69, 70, 72, 73, 74, 124, 128] [1, 4, 5, 9, 69, 72, 73] [] [] [] 4
theorem pPr_l31333_E : ∀ v, bodyF Try.prog tabUc4 (ntOf Try.prog 81) [0, 1, 4, 5, 6, 7, 8, 9, 10, 11, 12, 13, 14, 15, 20, 53, 69, 70, 72, 73, 74, 124, 128] [1, 4, 5, 9, 69, 72, 73] [] 2000 [] [] pPr_l31333_code 125332 (pPr_l31333_hd v) = some ((pPr_l31333_st v).1, (pPr_l31333_st v).2.map fun q => (q.1, q.2.1, pPr_l31333_hd q.2.2)) := fun v => by kernel_rfl
theorem pPr_l31333_R : ∀ h v, pPr_l31333_rd h = some v → h = pPr_l31333_hd v := rdS_ok fun l => by kernel_rfl
set_option maxRecDepth 100000 in
theorem pPr_l31333_sok : SumOK Try.prog (ntOf Try.prog 81) [0, 1, 4, 5, 6, 7, 8, 9, 10, 11, 12, 13, 14, 15, 20, 53, 69, 70, 72, 73, 74, 124, 128] (.block (blockOf (subs (bodyOf Try.prog 81) 1 31333)) (.loop pPr_l31333_code)) pPr_l31333_sum := loopS_ok tabUc4_ok follows pPr_l31333_E pPr_l31333_R (fun v => by kernel_rfl) (LOK_of _ _ (LOK_nil'))
noncomputable def pPr_l61_code : Go.Code := loopOf (subs (bodyOf Try.prog 81) 1 61)
structure pPr_l61_T where
  a0 : Bool
  a1 : Int
  a2 : List (List Int)
  deriving Inhabited
def pPr_l61_hd (v : pPr_l61_T) : HS := HS.mk [(nat_lit 1, LV.a (At.bool true (pPr_l61_T.a0 v))), (nat_lit 4, LV.a At.nils), (nat_lit 5, LV.a (At.vec (nat_lit 0) (nat_lit 0) (nat_lit 5))), (nat_lit 69, LV.a (At.int true IntKind.i64 (pPr_l61_T.a1 v)))] [BC.mk (Hd.mk (nat_lit 0) (nat_lit 0) false (some (Rw.mk (nat_lit 0) [Kd.int IntKind.u8, Kd.int IntKind.u8, Kd.int IntKind.u8, Kd.int IntKind.u8, Kd.int IntKind.i16] (pPr_l61_T.a2 v) none))) []]
def pPr_l61_s0 (v : pPr_l61_T) : Bool := decide (pPr_l61_T.a1 v < (60 : Int))
def pPr_l61_s1 (v : pPr_l61_T) : Option (X × pPr_l31333_T) := lrun pPr_l31333_st (18446744073709551616 : Nat) (pPr_l31333_T.mk (pPr_l61_T.a0 v) (-1 : Int) (pPr_l61_T.a1 v) (Int.ofNat (List.length (pPr_l61_T.a2 v))) (0 : Int) (pPr_l61_T.a2 v))
def pPr_l61_s3 (v : pPr_l61_T) : Bool := decide (pPr_l31333_T.a1 (V.valOf (pPr_l61_s1 v)) < (0 : Int))
def pPr_l61_st (v : pPr_l61_T) : List Prop × List (X × Bool × pPr_l61_T) := ([pPr_l61_s0 v = true → lok pPr_l31333_st (18446744073709551616 : Nat) (pPr_l31333_T.mk (pPr_l61_T.a0 v) (-1 : Int) (pPr_l61_T.a1 v) (Int.ofNat (List.length (pPr_l61_T.a2 v))) (0 : Int) (pPr_l61_T.a2 v)), pPr_l61_s0 v = true → isX (X.e (4 : Nat)) (pPr_l61_s1 v) = true → (!pPr_l61_s3 v) = true → (0 : Int) ≤ pPr_l31333_T.a1 (V.valOf (pPr_l61_s1 v)) ∧ pPr_l31333_T.a1 (V.valOf (pPr_l61_s1 v)) < Int.ofNat (List.length (pPr_l61_T.a2 v))], [(X.e (2 : Nat), !pPr_l61_s0 v || pPr_l61_s0 v && (isX (X.e (4 : Nat)) (pPr_l61_s1 v) && pPr_l61_s3 v), pPr_l61_T.mk (bif !pPr_l61_s0 v then pPr_l61_T.a0 v else pPr_l31333_T.a0 (V.valOf (pPr_l61_s1 v))) (bif !pPr_l61_s0 v then pPr_l61_T.a1 v else pPr_l31333_T.a2 (V.valOf (pPr_l61_s1 v))) (pPr_l61_T.a2 v)), (X.n, pPr_l61_s0 v && (isX (X.e (4 : Nat)) (pPr_l61_s1 v) && !pPr_l61_s3 v), pPr_l61_T.mk (pPr_l31333_T.a0 (V.valOf (pPr_l61_s1 v))) (IntKind.wrap IntKind.i64 (pPr_l31333_T.a2 (V.valOf (pPr_l61_s1 v)) + (1 : Int))) (List.set (pPr_l61_T.a2 v) (Int.toNat (pPr_l31333_T.a1 (V.valOf (pPr_l61_s1 v)))) [(1 : Int), (0 : Int), (0 : Int), (0 : Int), (0 : Int)]))])
def pPr_l61_rd : HS → Option pPr_l61_T := rdS [.b, .i, .r] (fun l => pPr_l61_T.mk (gB l 0) (gI l 1) (gR l 2)) pPr_l61_hd
def pPr_l61_sum : V.Sum := loopS pPr_l61_hd pPr_l61_rd pPr_l61_st 18446744073709551616 [X.e (2 : Nat)] [0, 1, 4, 5, 6, 7, 8, 9, 10, 11, 12, 13, 14, 15, 20, 53, 69, 70, 72, 73, 74, 124, 128] [1, 4, 5, 69] [0] [] [] 2
theorem pPr_l61_E : ∀ v, bodyF Try.prog tabUc4 (ntOf Try.prog 81) [0, 1, 4, 5, 6, 7, 8, 9, 10, 11, 12, 13, 14, 15, 20, 53, 69, 70, 72, 73, 74, 124, 128] [1, 4, 5, 69] [(31333, pPr_l31333_sum)] 2000 [0] [] pPr_l61_code 244 (pPr_l61_hd v) = some ((pPr_l61_st v).1, (pPr_l61_st v).2.map fun q => (q.1, q.2.1, pPr_l61_hd q.2.2)) := fun v => by kernel_rfl
theorem pPr_l61_R : ∀ h v, pPr_l61_rd h = some v → h = pPr_l61_hd v := rdS_ok fun l => by kernel_rfl
set_option maxRecDepth 100000 in
theorem pPr_l61_sok : SumOK Try.prog (ntOf Try.prog 81) [0, 1, 4, 5, 6, 7, 8, 9, 10, 11, 12, 13, 14, 15, 20, 53, 69, 70, 72, 73, 74, 124, 128] (.block (blockOf (subs (bodyOf Try.prog 81) 1 61)) (.loop pPr_l61_code)) pPr_l61_sum := loopS_ok tabUc4_ok follows pPr_l61_E pPr_l61_R (fun v => by kernel_rfl) (LOK_of _ _ (LOK_cons (show subs pPr_l61_code 244 31333 = [.block (blockOf (subs (bodyOf Try.prog 81) 1 31333)) (.loop pPr_l31333_code)] from by kernel_rfl) pPr_l31333_sok (LOK_nil')))
def pPr_s0 (n0 : Nat) (x1 : Bool) (p : List (List Int)) : Option (X × pPr_l29_T) := lrun pPr_l29_st (18446744073709551616 : Nat) (pPr_l29_T.mk x1 n0 (Int.ofNat n0) (0 : Int) p [])
def pPr_0 (n0 : Nat) (x1 : Bool) (p : List (List Int)) : List (List Int) := pPr_l61_T.a2 (V.valOf (lrun pPr_l61_st (18446744073709551616 : Nat) (pPr_l61_T.mk (pPr_l29_T.a0 (V.valOf (pPr_s0 n0 x1 p))) (0 : Int) (pPr_l29_T.a5 (V.valOf (pPr_s0 n0 x1 p))))))
def pPr_o (n0 : Nat) (x1 r0 : Bool) (p : List (List Int)) : List Prop := [lok pPr_l29_st (18446744073709551616 : Nat) (pPr_l29_T.mk x1 n0 (Int.ofNat n0) (0 : Int) p []), isX (X.e (0 : Nat)) (pPr_s0 n0 x1 p) = true → lok pPr_l61_st (18446744073709551616 : Nat) (pPr_l61_T.mk (pPr_l29_T.a0 (V.valOf (pPr_s0 n0 x1 p))) (0 : Int) (pPr_l29_T.a5 (V.valOf (pPr_s0 n0 x1 p))))]
theorem pPr_p (n0 : Nat) (x1 r0 : Bool) (p : List (List Int)) : evG Try.prog tabUc4 2000 81 [0, 1, 4, 5, 6, 7, 8, 9, 10, 11, 12, 13, 14, 15, 20, 53, 69, 70, 72, 73, 74, 124, 128] [(61, pPr_l61_sum), (31333, pPr_l31333_sum), (29, pPr_l29_sum)] [] [.a (.slc true 0 0 0 6 0 n0), .a (.bool true x1)] [⟨⟨0, 0, r0, some ⟨0, [.int .u8, .int .u8, .int .u8, .int .u8, .int .i16, .bool], p, none⟩⟩, []⟩] = some (pPr_o n0 x1 r0 p, LV.a (At.vec (nat_lit 1) (nat_lit 1) (nat_lit 5)), [none, some (BC.mk (Hd.mk (nat_lit 1) (nat_lit 0) false (some (Rw.mk (nat_lit 0) [Kd.int IntKind.u8, Kd.int IntKind.u8, Kd.int IntKind.u8, Kd.int IntKind.u8, Kd.int IntKind.i16] (pPr_0 n0 x1 p) none))) [])]) := by kernel_rfl
def pPr_c : Con
  | [.a (.slc true 0 0 0 6 0 n0), .a (.bool true x1)], [⟨⟨0, 0, r0, some ⟨0, [.int .u8, .int .u8, .int .u8, .int .u8, .int .i16, .bool], p, none⟩⟩, []⟩] => some (pPr_o n0 x1 r0 p, LV.a (At.vec (nat_lit 1) (nat_lit 1) (nat_lit 5)), [none, some (BC.mk (Hd.mk (nat_lit 1) (nat_lit 0) false (some (Rw.mk (nat_lit 0) [Kd.int IntKind.u8, Kd.int IntKind.u8, Kd.int IntKind.u8, Kd.int IntKind.u8, Kd.int IntKind.i16] (pPr_0 n0 x1 p) none))) [])])
  | _, _ => none
theorem pPr_ok : ConOK Try.prog 81 (normC pPr_c) := normC_ok (by
  intro args bs obs lv out h ho φ vs w may ha hM
  unfold pPr_c at h
  split at h
  · simp only [Option.some.injEq, Prod.mk.injEq] at h
    obtain ⟨rfl, rfl, rfl⟩ := h
    rename_i n0 x1 r0 p
    exact evG_okL' tabUc4_ok follows (LOK_cons (show subs (bodyOf Try.prog 81) 1 61 = [.block (blockOf (subs (bodyOf Try.prog 81) 1 61)) (.loop pPr_l61_code)] from by kernel_rfl) pPr_l61_sok (LOK_cons (show subs (bodyOf Try.prog 81) 1 31333 = [.block (blockOf (subs (bodyOf Try.prog 81) 1 31333)) (.loop pPr_l31333_code)] from by kernel_rfl) pPr_l31333_sok (LOK_cons (show subs (bodyOf Try.prog 81) 1 29 = [.block (blockOf (subs (bodyOf Try.prog 81) 1 29)) (.loop pPr_l29_code)] from by kernel_rfl) pPr_l29_sok (LOK_nil')))) _ _ _ _ _ (pPr_p n0 x1 r0 p) ho φ vs w may ha hM
  · cases h)
theorem pPr_en : Enters Try.prog 81 := fun args => by kernel_rfl
-- 9255 146 7 ms

/-! azulejo/azulejolaw08.Regs -/
def vRg_s0 (n0 : Nat) : Bool := decide ((0 : Int) < Int.ofNat n0)
def vRg_0 (n0 : Nat) (p : List (List Int)) : Int := bif vRg_s0 n0 then IntKind.wrap IntKind.i64 (rget p (0 : Nat) (0 : Nat)) else (0 : Int)
def vRg_s1 : Int := IntKind.wrap IntKind.i64 ((4 : Int) * (0 : Int))
def vRg_s2 : Int := IntKind.wrap IntKind.i64 ((0 : Int) + (1 : Int))
def vRg_s3 (n0 : Nat) : Int := Int.tmod (IntKind.wrap IntKind.i64 (vRg_s1 + vRg_s2)) (Int.ofNat n0)
def vRg_1 (n0 : Nat) (p : List (List Int)) : Int := bif vRg_s0 n0 then IntKind.wrap IntKind.i64 (rget p ((0 : Nat) + Int.toNat (vRg_s3 n0)) (0 : Nat)) else (0 : Int)
def vRg_s4 : Int := IntKind.wrap IntKind.i64 (vRg_s2 + (1 : Int))
def vRg_s5 (n0 : Nat) : Int := Int.tmod (IntKind.wrap IntKind.i64 (vRg_s1 + vRg_s4)) (Int.ofNat n0)
def vRg_2 (n0 : Nat) (p : List (List Int)) : Int := bif vRg_s0 n0 then IntKind.wrap IntKind.i64 (rget p ((0 : Nat) + Int.toNat (vRg_s5 n0)) (0 : Nat)) else (0 : Int)
def vRg_s6 : Int := IntKind.wrap IntKind.i64 (vRg_s4 + (1 : Int))
def vRg_s7 (n0 : Nat) : Int := Int.tmod (IntKind.wrap IntKind.i64 (vRg_s1 + vRg_s6)) (Int.ofNat n0)
def vRg_3 (n0 : Nat) (p : List (List Int)) : Int := bif vRg_s0 n0 then IntKind.wrap IntKind.i64 (rget p ((0 : Nat) + Int.toNat (vRg_s7 n0)) (0 : Nat)) else (0 : Int)
def vRg_s8 : Int := IntKind.wrap IntKind.i64 ((4 : Int) * vRg_s2)
def vRg_s9 (n0 : Nat) : Int := Int.tmod (IntKind.wrap IntKind.i64 (vRg_s8 + (0 : Int))) (Int.ofNat n0)
def vRg_4 (n0 : Nat) (p : List (List Int)) : Int := bif vRg_s0 n0 then IntKind.wrap IntKind.i64 (rget p ((0 : Nat) + Int.toNat (vRg_s9 n0)) (0 : Nat)) else (0 : Int)
def vRg_s10 (n0 : Nat) : Int := Int.tmod (IntKind.wrap IntKind.i64 (vRg_s8 + vRg_s2)) (Int.ofNat n0)
def vRg_5 (n0 : Nat) (p : List (List Int)) : Int := bif vRg_s0 n0 then IntKind.wrap IntKind.i64 (rget p ((0 : Nat) + Int.toNat (vRg_s10 n0)) (0 : Nat)) else (0 : Int)
def vRg_s11 (n0 : Nat) : Int := Int.tmod (IntKind.wrap IntKind.i64 (vRg_s8 + vRg_s4)) (Int.ofNat n0)
def vRg_6 (n0 : Nat) (p : List (List Int)) : Int := bif vRg_s0 n0 then IntKind.wrap IntKind.i64 (rget p ((0 : Nat) + Int.toNat (vRg_s11 n0)) (0 : Nat)) else (0 : Int)
def vRg_s12 (n0 : Nat) : Int := Int.tmod (IntKind.wrap IntKind.i64 (vRg_s8 + vRg_s6)) (Int.ofNat n0)
def vRg_7 (n0 : Nat) (p : List (List Int)) : Int := bif vRg_s0 n0 then IntKind.wrap IntKind.i64 (rget p ((0 : Nat) + Int.toNat (vRg_s12 n0)) (0 : Nat)) else (0 : Int)
def vRg_s13 : Int := IntKind.wrap IntKind.i64 ((4 : Int) * vRg_s4)
def vRg_s14 (n0 : Nat) : Int := Int.tmod (IntKind.wrap IntKind.i64 (vRg_s13 + (0 : Int))) (Int.ofNat n0)
def vRg_8 (n0 : Nat) (p : List (List Int)) : Int := bif vRg_s0 n0 then IntKind.wrap IntKind.i64 (rget p ((0 : Nat) + Int.toNat (vRg_s14 n0)) (0 : Nat)) else (0 : Int)
def vRg_s15 (n0 : Nat) : Int := Int.tmod (IntKind.wrap IntKind.i64 (vRg_s13 + vRg_s2)) (Int.ofNat n0)
def vRg_9 (n0 : Nat) (p : List (List Int)) : Int := bif vRg_s0 n0 then IntKind.wrap IntKind.i64 (rget p ((0 : Nat) + Int.toNat (vRg_s15 n0)) (0 : Nat)) else (0 : Int)
def vRg_s16 (n0 : Nat) : Int := Int.tmod (IntKind.wrap IntKind.i64 (vRg_s13 + vRg_s4)) (Int.ofNat n0)
def vRg_10 (n0 : Nat) (p : List (List Int)) : Int := bif vRg_s0 n0 then IntKind.wrap IntKind.i64 (rget p ((0 : Nat) + Int.toNat (vRg_s16 n0)) (0 : Nat)) else (0 : Int)
def vRg_s17 (n0 : Nat) : Int := Int.tmod (IntKind.wrap IntKind.i64 (vRg_s13 + vRg_s6)) (Int.ofNat n0)
def vRg_11 (n0 : Nat) (p : List (List Int)) : Int := bif vRg_s0 n0 then IntKind.wrap IntKind.i64 (rget p ((0 : Nat) + Int.toNat (vRg_s17 n0)) (0 : Nat)) else (0 : Int)
def vRg_s18 : Int := IntKind.wrap IntKind.i64 ((4 : Int) * vRg_s6)
def vRg_s19 (n0 : Nat) : Int := Int.tmod (IntKind.wrap IntKind.i64 (vRg_s18 + (0 : Int))) (Int.ofNat n0)
def vRg_12 (n0 : Nat) (p : List (List Int)) : Int := bif vRg_s0 n0 then IntKind.wrap IntKind.i64 (rget p ((0 : Nat) + Int.toNat (vRg_s19 n0)) (0 : Nat)) else (0 : Int)
def vRg_s20 (n0 : Nat) : Int := Int.tmod (IntKind.wrap IntKind.i64 (vRg_s18 + vRg_s2)) (Int.ofNat n0)
def vRg_13 (n0 : Nat) (p : List (List Int)) : Int := bif vRg_s0 n0 then IntKind.wrap IntKind.i64 (rget p ((0 : Nat) + Int.toNat (vRg_s20 n0)) (0 : Nat)) else (0 : Int)
def vRg_s21 (n0 : Nat) : Int := Int.tmod (IntKind.wrap IntKind.i64 (vRg_s18 + vRg_s4)) (Int.ofNat n0)
def vRg_14 (n0 : Nat) (p : List (List Int)) : Int := bif vRg_s0 n0 then IntKind.wrap IntKind.i64 (rget p ((0 : Nat) + Int.toNat (vRg_s21 n0)) (0 : Nat)) else (0 : Int)
def vRg_s22 (n0 : Nat) : Int := Int.tmod (IntKind.wrap IntKind.i64 (vRg_s18 + vRg_s6)) (Int.ofNat n0)
def vRg_15 (n0 : Nat) (p : List (List Int)) : Int := bif vRg_s0 n0 then IntKind.wrap IntKind.i64 (rget p ((0 : Nat) + Int.toNat (vRg_s22 n0)) (0 : Nat)) else (0 : Int)
def vRg_s23 : Int := IntKind.wrap IntKind.i64 (vRg_s6 + (1 : Int))
def vRg_s24 : Int := IntKind.wrap IntKind.i64 ((4 : Int) * vRg_s23)
def vRg_s25 (n0 : Nat) : Int := Int.tmod (IntKind.wrap IntKind.i64 (vRg_s24 + (0 : Int))) (Int.ofNat n0)
def vRg_16 (n0 : Nat) (p : List (List Int)) : Int := bif vRg_s0 n0 then IntKind.wrap IntKind.i64 (rget p ((0 : Nat) + Int.toNat (vRg_s25 n0)) (0 : Nat)) else (0 : Int)
def vRg_s26 (n0 : Nat) : Int := Int.tmod (IntKind.wrap IntKind.i64 (vRg_s24 + vRg_s2)) (Int.ofNat n0)
def vRg_17 (n0 : Nat) (p : List (List Int)) : Int := bif vRg_s0 n0 then IntKind.wrap IntKind.i64 (rget p ((0 : Nat) + Int.toNat (vRg_s26 n0)) (0 : Nat)) else (0 : Int)
def vRg_s27 (n0 : Nat) : Int := Int.tmod (IntKind.wrap IntKind.i64 (vRg_s24 + vRg_s4)) (Int.ofNat n0)
def vRg_18 (n0 : Nat) (p : List (List Int)) : Int := bif vRg_s0 n0 then IntKind.wrap IntKind.i64 (rget p ((0 : Nat) + Int.toNat (vRg_s27 n0)) (0 : Nat)) else (0 : Int)
def vRg_s28 (n0 : Nat) : Int := Int.tmod (IntKind.wrap IntKind.i64 (vRg_s24 + vRg_s6)) (Int.ofNat n0)
def vRg_19 (n0 : Nat) (p : List (List Int)) : Int := bif vRg_s0 n0 then IntKind.wrap IntKind.i64 (rget p ((0 : Nat) + Int.toNat (vRg_s28 n0)) (0 : Nat)) else (0 : Int)
def vRg_s29 : Int := IntKind.wrap IntKind.i64 (vRg_s23 + (1 : Int))
def vRg_s30 : Int := IntKind.wrap IntKind.i64 ((4 : Int) * vRg_s29)
def vRg_s31 (n0 : Nat) : Int := Int.tmod (IntKind.wrap IntKind.i64 (vRg_s30 + (0 : Int))) (Int.ofNat n0)
def vRg_20 (n0 : Nat) (p : List (List Int)) : Int := bif vRg_s0 n0 then IntKind.wrap IntKind.i64 (rget p ((0 : Nat) + Int.toNat (vRg_s31 n0)) (0 : Nat)) else (0 : Int)
def vRg_s32 (n0 : Nat) : Int := Int.tmod (IntKind.wrap IntKind.i64 (vRg_s30 + vRg_s2)) (Int.ofNat n0)
def vRg_21 (n0 : Nat) (p : List (List Int)) : Int := bif vRg_s0 n0 then IntKind.wrap IntKind.i64 (rget p ((0 : Nat) + Int.toNat (vRg_s32 n0)) (0 : Nat)) else (0 : Int)
def vRg_s33 (n0 : Nat) : Int := Int.tmod (IntKind.wrap IntKind.i64 (vRg_s30 + vRg_s4)) (Int.ofNat n0)
def vRg_22 (n0 : Nat) (p : List (List Int)) : Int := bif vRg_s0 n0 then IntKind.wrap IntKind.i64 (rget p ((0 : Nat) + Int.toNat (vRg_s33 n0)) (0 : Nat)) else (0 : Int)
def vRg_s34 (n0 : Nat) : Int := Int.tmod (IntKind.wrap IntKind.i64 (vRg_s30 + vRg_s6)) (Int.ofNat n0)
def vRg_23 (n0 : Nat) (p : List (List Int)) : Int := bif vRg_s0 n0 then IntKind.wrap IntKind.i64 (rget p ((0 : Nat) + Int.toNat (vRg_s34 n0)) (0 : Nat)) else (0 : Int)
def vRg_s35 : Int := IntKind.wrap IntKind.i64 (vRg_s29 + (1 : Int))
def vRg_s36 : Int := IntKind.wrap IntKind.i64 ((4 : Int) * vRg_s35)
def vRg_s37 (n0 : Nat) : Int := Int.tmod (IntKind.wrap IntKind.i64 (vRg_s36 + (0 : Int))) (Int.ofNat n0)
def vRg_24 (n0 : Nat) (p : List (List Int)) : Int := bif vRg_s0 n0 then IntKind.wrap IntKind.i64 (rget p ((0 : Nat) + Int.toNat (vRg_s37 n0)) (0 : Nat)) else (0 : Int)
def vRg_s38 (n0 : Nat) : Int := Int.tmod (IntKind.wrap IntKind.i64 (vRg_s36 + vRg_s2)) (Int.ofNat n0)
def vRg_25 (n0 : Nat) (p : List (List Int)) : Int := bif vRg_s0 n0 then IntKind.wrap IntKind.i64 (rget p ((0 : Nat) + Int.toNat (vRg_s38 n0)) (0 : Nat)) else (0 : Int)
def vRg_s39 (n0 : Nat) : Int := Int.tmod (IntKind.wrap IntKind.i64 (vRg_s36 + vRg_s4)) (Int.ofNat n0)
def vRg_26 (n0 : Nat) (p : List (List Int)) : Int := bif vRg_s0 n0 then IntKind.wrap IntKind.i64 (rget p ((0 : Nat) + Int.toNat (vRg_s39 n0)) (0 : Nat)) else (0 : Int)
def vRg_s40 (n0 : Nat) : Int := Int.tmod (IntKind.wrap IntKind.i64 (vRg_s36 + vRg_s6)) (Int.ofNat n0)
def vRg_27 (n0 : Nat) (p : List (List Int)) : Int := bif vRg_s0 n0 then IntKind.wrap IntKind.i64 (rget p ((0 : Nat) + Int.toNat (vRg_s40 n0)) (0 : Nat)) else (0 : Int)
def vRg_s41 : Int := IntKind.wrap IntKind.i64 (vRg_s35 + (1 : Int))
def vRg_s42 : Int := IntKind.wrap IntKind.i64 ((4 : Int) * vRg_s41)
def vRg_s43 (n0 : Nat) : Int := Int.tmod (IntKind.wrap IntKind.i64 (vRg_s42 + (0 : Int))) (Int.ofNat n0)
def vRg_28 (n0 : Nat) (p : List (List Int)) : Int := bif vRg_s0 n0 then IntKind.wrap IntKind.i64 (rget p ((0 : Nat) + Int.toNat (vRg_s43 n0)) (0 : Nat)) else (0 : Int)
def vRg_s44 (n0 : Nat) : Int := Int.tmod (IntKind.wrap IntKind.i64 (vRg_s42 + vRg_s2)) (Int.ofNat n0)
def vRg_29 (n0 : Nat) (p : List (List Int)) : Int := bif vRg_s0 n0 then IntKind.wrap IntKind.i64 (rget p ((0 : Nat) + Int.toNat (vRg_s44 n0)) (0 : Nat)) else (0 : Int)
def vRg_s45 (n0 : Nat) : Int := Int.tmod (IntKind.wrap IntKind.i64 (vRg_s42 + vRg_s4)) (Int.ofNat n0)
def vRg_30 (n0 : Nat) (p : List (List Int)) : Int := bif vRg_s0 n0 then IntKind.wrap IntKind.i64 (rget p ((0 : Nat) + Int.toNat (vRg_s45 n0)) (0 : Nat)) else (0 : Int)
def vRg_s46 (n0 : Nat) : Int := Int.tmod (IntKind.wrap IntKind.i64 (vRg_s42 + vRg_s6)) (Int.ofNat n0)
def vRg_31 (n0 : Nat) (p : List (List Int)) : Int := bif vRg_s0 n0 then IntKind.wrap IntKind.i64 (rget p ((0 : Nat) + Int.toNat (vRg_s46 n0)) (0 : Nat)) else (0 : Int)
def vRg_s47 : Int := IntKind.wrap IntKind.i64 (vRg_s41 + (1 : Int))
def vRg_s48 : Int := IntKind.wrap IntKind.i64 ((4 : Int) * vRg_s47)
def vRg_s49 (n0 : Nat) : Int := Int.tmod (IntKind.wrap IntKind.i64 (vRg_s48 + (0 : Int))) (Int.ofNat n0)
def vRg_32 (n0 : Nat) (p : List (List Int)) : Int := bif vRg_s0 n0 then IntKind.wrap IntKind.i64 (rget p ((0 : Nat) + Int.toNat (vRg_s49 n0)) (0 : Nat)) else (0 : Int)
def vRg_s50 (n0 : Nat) : Int := Int.tmod (IntKind.wrap IntKind.i64 (vRg_s48 + vRg_s2)) (Int.ofNat n0)
def vRg_33 (n0 : Nat) (p : List (List Int)) : Int := bif vRg_s0 n0 then IntKind.wrap IntKind.i64 (rget p ((0 : Nat) + Int.toNat (vRg_s50 n0)) (0 : Nat)) else (0 : Int)
def vRg_s51 (n0 : Nat) : Int := Int.tmod (IntKind.wrap IntKind.i64 (vRg_s48 + vRg_s4)) (Int.ofNat n0)
def vRg_34 (n0 : Nat) (p : List (List Int)) : Int := bif vRg_s0 n0 then IntKind.wrap IntKind.i64 (rget p ((0 : Nat) + Int.toNat (vRg_s51 n0)) (0 : Nat)) else (0 : Int)
def vRg_s52 (n0 : Nat) : Int := Int.tmod (IntKind.wrap IntKind.i64 (vRg_s48 + vRg_s6)) (Int.ofNat n0)
def vRg_35 (n0 : Nat) (p : List (List Int)) : Int := bif vRg_s0 n0 then IntKind.wrap IntKind.i64 (rget p ((0 : Nat) + Int.toNat (vRg_s52 n0)) (0 : Nat)) else (0 : Int)
def vRg_s53 : Int := IntKind.wrap IntKind.i64 (vRg_s47 + (1 : Int))
def vRg_s54 : Int := IntKind.wrap IntKind.i64 ((4 : Int) * vRg_s53)
def vRg_s55 (n0 : Nat) : Int := Int.tmod (IntKind.wrap IntKind.i64 (vRg_s54 + (0 : Int))) (Int.ofNat n0)
def vRg_36 (n0 : Nat) (p : List (List Int)) : Int := bif vRg_s0 n0 then IntKind.wrap IntKind.i64 (rget p ((0 : Nat) + Int.toNat (vRg_s55 n0)) (0 : Nat)) else (0 : Int)
def vRg_s56 (n0 : Nat) : Int := Int.tmod (IntKind.wrap IntKind.i64 (vRg_s54 + vRg_s2)) (Int.ofNat n0)
def vRg_37 (n0 : Nat) (p : List (List Int)) : Int := bif vRg_s0 n0 then IntKind.wrap IntKind.i64 (rget p ((0 : Nat) + Int.toNat (vRg_s56 n0)) (0 : Nat)) else (0 : Int)
def vRg_s57 (n0 : Nat) : Int := Int.tmod (IntKind.wrap IntKind.i64 (vRg_s54 + vRg_s4)) (Int.ofNat n0)
def vRg_38 (n0 : Nat) (p : List (List Int)) : Int := bif vRg_s0 n0 then IntKind.wrap IntKind.i64 (rget p ((0 : Nat) + Int.toNat (vRg_s57 n0)) (0 : Nat)) else (0 : Int)
def vRg_s58 (n0 : Nat) : Int := Int.tmod (IntKind.wrap IntKind.i64 (vRg_s54 + vRg_s6)) (Int.ofNat n0)
def vRg_39 (n0 : Nat) (p : List (List Int)) : Int := bif vRg_s0 n0 then IntKind.wrap IntKind.i64 (rget p ((0 : Nat) + Int.toNat (vRg_s58 n0)) (0 : Nat)) else (0 : Int)
def vRg_s59 : Int := IntKind.wrap IntKind.i64 (vRg_s53 + (1 : Int))
def vRg_s60 : Int := IntKind.wrap IntKind.i64 ((4 : Int) * vRg_s59)
def vRg_s61 (n0 : Nat) : Int := Int.tmod (IntKind.wrap IntKind.i64 (vRg_s60 + (0 : Int))) (Int.ofNat n0)
def vRg_40 (n0 : Nat) (p : List (List Int)) : Int := bif vRg_s0 n0 then IntKind.wrap IntKind.i64 (rget p ((0 : Nat) + Int.toNat (vRg_s61 n0)) (0 : Nat)) else (0 : Int)
def vRg_s62 (n0 : Nat) : Int := Int.tmod (IntKind.wrap IntKind.i64 (vRg_s60 + vRg_s2)) (Int.ofNat n0)
def vRg_41 (n0 : Nat) (p : List (List Int)) : Int := bif vRg_s0 n0 then IntKind.wrap IntKind.i64 (rget p ((0 : Nat) + Int.toNat (vRg_s62 n0)) (0 : Nat)) else (0 : Int)
def vRg_s63 (n0 : Nat) : Int := Int.tmod (IntKind.wrap IntKind.i64 (vRg_s60 + vRg_s4)) (Int.ofNat n0)
def vRg_42 (n0 : Nat) (p : List (List Int)) : Int := bif vRg_s0 n0 then IntKind.wrap IntKind.i64 (rget p ((0 : Nat) + Int.toNat (vRg_s63 n0)) (0 : Nat)) else (0 : Int)
def vRg_s64 (n0 : Nat) : Int := Int.tmod (IntKind.wrap IntKind.i64 (vRg_s60 + vRg_s6)) (Int.ofNat n0)
def vRg_43 (n0 : Nat) (p : List (List Int)) : Int := bif vRg_s0 n0 then IntKind.wrap IntKind.i64 (rget p ((0 : Nat) + Int.toNat (vRg_s64 n0)) (0 : Nat)) else (0 : Int)
def vRg_s65 (x1_0 x1_1 x1_2 x1_3 : Int) : List (List Int) := [[x1_0], [x1_1], [x1_2], [x1_3]]
def vRg_44 (x1_0 x1_1 x1_2 x1_3 : Int) : Int := rget (vRg_s65 x1_0 x1_1 x1_2 x1_3) (0 : Nat) (0 : Nat)
def vRg_45 (x1_0 x1_1 x1_2 x1_3 : Int) : Int := rget (vRg_s65 x1_0 x1_1 x1_2 x1_3) (1 : Nat) (0 : Nat)
def vRg_46 (x1_0 x1_1 x1_2 x1_3 : Int) : Int := rget (vRg_s65 x1_0 x1_1 x1_2 x1_3) (2 : Nat) (0 : Nat)
def vRg_47 (x1_0 x1_1 x1_2 x1_3 : Int) : Int := rget (vRg_s65 x1_0 x1_1 x1_2 x1_3) (3 : Nat) (0 : Nat)
def vRg_s66 (n0 : Nat) : Int := Int.tmod (IntKind.wrap IntKind.i64 (vRg_s1 + (0 : Int))) (Int.ofNat n0)
def vRg_s67 : Int := IntKind.wrap IntKind.i64 ((4 : Int) * IntKind.wrap IntKind.i64 (vRg_s59 + (1 : Int)))
def vRg_s68 (n0 : Nat) : Int := Int.tmod (IntKind.wrap IntKind.i64 (vRg_s67 + (0 : Int))) (Int.ofNat n0)
def vRg_s69 (n0 : Nat) : Int := Int.tmod (IntKind.wrap IntKind.i64 (vRg_s67 + vRg_s2)) (Int.ofNat n0)
def vRg_s70 (n0 : Nat) : Int := Int.tmod (IntKind.wrap IntKind.i64 (vRg_s67 + vRg_s4)) (Int.ofNat n0)
def vRg_s71 (n0 : Nat) : Int := Int.tmod (IntKind.wrap IntKind.i64 (vRg_s67 + vRg_s6)) (Int.ofNat n0)
def vRg_o (n0 : Nat) (x1_0 x1_1 x1_2 x1_3 : Int) (r0 : Bool) (p : List (List Int)) : List Prop := [vRg_s0 n0 = true → Int.ofNat n0 ≠ (0 : Int), vRg_s0 n0 = true → (0 : Int) ≤ vRg_s66 n0 ∧ vRg_s66 n0 < Int.ofNat n0, vRg_s0 n0 = true → Int.ofNat n0 ≠ (0 : Int), vRg_s0 n0 = true → (0 : Int) ≤ vRg_s3 n0 ∧ vRg_s3 n0 < Int.ofNat n0, vRg_s0 n0 = true → Int.ofNat n0 ≠ (0 : Int), vRg_s0 n0 = true → (0 : Int) ≤ vRg_s5 n0 ∧ vRg_s5 n0 < Int.ofNat n0, vRg_s0 n0 = true → Int.ofNat n0 ≠ (0 : Int), vRg_s0 n0 = true → (0 : Int) ≤ vRg_s7 n0 ∧ vRg_s7 n0 < Int.ofNat n0, vRg_s0 n0 = true → Int.ofNat n0 ≠ (0 : Int), vRg_s0 n0 = true → (0 : Int) ≤ vRg_s9 n0 ∧ vRg_s9 n0 < Int.ofNat n0, vRg_s0 n0 = true → Int.ofNat n0 ≠ (0 : Int), vRg_s0 n0 = true → (0 : Int) ≤ vRg_s10 n0 ∧ vRg_s10 n0 < Int.ofNat n0, vRg_s0 n0 = true → Int.ofNat n0 ≠ (0 : Int), vRg_s0 n0 = true → (0 : Int) ≤ vRg_s11 n0 ∧ vRg_s11 n0 < Int.ofNat n0, vRg_s0 n0 = true → Int.ofNat n0 ≠ (0 : Int), vRg_s0 n0 = true → (0 : Int) ≤ vRg_s12 n0 ∧ vRg_s12 n0 < Int.ofNat n0, vRg_s0 n0 = true → Int.ofNat n0 ≠ (0 : Int), vRg_s0 n0 = true → (0 : Int) ≤ vRg_s14 n0 ∧ vRg_s14 n0 < Int.ofNat n0, vRg_s0 n0 = true → Int.ofNat n0 ≠ (0 : Int), vRg_s0 n0 = true → (0 : Int) ≤ vRg_s15 n0 ∧ vRg_s15 n0 < Int.ofNat n0, vRg_s0 n0 = true → Int.ofNat n0 ≠ (0 : Int), vRg_s0 n0 = true → (0 : Int) ≤ vRg_s16 n0 ∧ vRg_s16 n0 < Int.ofNat n0, vRg_s0 n0 = true → Int.ofNat n0 ≠ (0 : Int), vRg_s0 n0 = true → (0 : Int) ≤ vRg_s17 n0 ∧ vRg_s17 n0 < Int.ofNat n0, vRg_s0 n0 = true → Int.ofNat n0 ≠ (0 : Int), vRg_s0 n0 = true → (0 : Int) ≤ vRg_s19 n0 ∧ vRg_s19 n0 < Int.ofNat n0, vRg_s0 n0 = true → Int.ofNat n0 ≠ (0 : Int), vRg_s0 n0 = true → (0 : Int) ≤ vRg_s20 n0 ∧ vRg_s20 n0 < Int.ofNat n0, vRg_s0 n0 = true → Int.ofNat n0 ≠ (0 : Int), vRg_s0 n0 = true → (0 : Int) ≤ vRg_s21 n0 ∧ vRg_s21 n0 < Int.ofNat n0, vRg_s0 n0 = true → Int.ofNat n0 ≠ (0 : Int), vRg_s0 n0 = true → (0 : Int) ≤ vRg_s22 n0 ∧ vRg_s22 n0 < Int.ofNat n0, vRg_s0 n0 = true → Int.ofNat n0 ≠ (0 : Int), vRg_s0 n0 = true → (0 : Int) ≤ vRg_s25 n0 ∧ vRg_s25 n0 < Int.ofNat n0, vRg_s0 n0 = true → Int.ofNat n0 ≠ (0 : Int), vRg_s0 n0 = true → (0 : Int) ≤ vRg_s26 n0 ∧ vRg_s26 n0 < Int.ofNat n0, vRg_s0 n0 = true → Int.ofNat n0 ≠ (0 : Int), vRg_s0 n0 = true → (0 : Int) ≤ vRg_s27 n0 ∧ vRg_s27 n0 < Int.ofNat n0, vRg_s0 n0 = true → Int.ofNat n0 ≠ (0 : Int), vRg_s0 n0 = true → (0 : Int) ≤ vRg_s28 n0 ∧ vRg_s28 n0 < Int.ofNat n0, vRg_s0 n0 = true → Int.ofNat n0 ≠ (0 : Int), vRg_s0 n0 = true → (0 : Int) ≤ vRg_s31 n0 ∧ vRg_s31 n0 < Int.ofNat n0, vRg_s0 n0 = true → Int.ofNat n0 ≠ (0 : Int), vRg_s0 n0 = true → (0 : Int) ≤ vRg_s32 n0 ∧ vRg_s32 n0 < Int.ofNat n0, vRg_s0 n0 = true → Int.ofNat n0 ≠ (0 : Int), vRg_s0 n0 = true → (0 : Int) ≤ vRg_s33 n0 ∧ vRg_s33 n0 < Int.ofNat n0, vRg_s0 n0 = true → Int.ofNat n0 ≠ (0 : Int), vRg_s0 n0 = true → (0 : Int) ≤ vRg_s34 n0 ∧ vRg_s34 n0 < Int.ofNat n0, vRg_s0 n0 = true → Int.ofNat n0 ≠ (0 : Int), vRg_s0 n0 = true → (0 : Int) ≤ vRg_s37 n0 ∧ vRg_s37 n0 < Int.ofNat n0, vRg_s0 n0 = true → Int.ofNat n0 ≠ (0 : Int), vRg_s0 n0 = true → (0 : Int) ≤ vRg_s38 n0 ∧ vRg_s38 n0 < Int.ofNat n0, vRg_s0 n0 = true → Int.ofNat n0 ≠ (0 : Int), vRg_s0 n0 = true → (0 : Int) ≤ vRg_s39 n0 ∧ vRg_s39 n0 < Int.ofNat n0, vRg_s0 n0 = true → Int.ofNat n0 ≠ (0 : Int), vRg_s0 n0 = true → (0 : Int) ≤ vRg_s40 n0 ∧ vRg_s40 n0 < Int.ofNat n0, vRg_s0 n0 = true → Int.ofNat n0 ≠ (0 : Int), vRg_s0 n0 = true → (0 : Int) ≤ vRg_s43 n0 ∧ vRg_s43 n0 < Int.ofNat n0, vRg_s0 n0 = true → Int.ofNat n0 ≠ (0 : Int), vRg_s0 n0 = true → (0 : Int) ≤ vRg_s44 n0 ∧ vRg_s44 n0 < Int.ofNat n0, vRg_s0 n0 = true → Int.ofNat n0 ≠ (0 : Int), vRg_s0 n0 = true → (0 : Int) ≤ vRg_s45 n0 ∧ vRg_s45 n0 < Int.ofNat n0, vRg_s0 n0 = true → Int.ofNat n0 ≠ (0 : Int), vRg_s0 n0 = true → (0 : Int) ≤ vRg_s46 n0 ∧ vRg_s46 n0 < Int.ofNat n0, vRg_s0 n0 = true → Int.ofNat n0 ≠ (0 : Int), vRg_s0 n0 = true → (0 : Int) ≤ vRg_s49 n0 ∧ vRg_s49 n0 < Int.ofNat n0, vRg_s0 n0 = true → Int.ofNat n0 ≠ (0 : Int), vRg_s0 n0 = true → (0 : Int) ≤ vRg_s50 n0 ∧ vRg_s50 n0 < Int.ofNat n0, vRg_s0 n0 = true → Int.ofNat n0 ≠ (0 : Int), vRg_s0 n0 = true → (0 : Int) ≤ vRg_s51 n0 ∧ vRg_s51 n0 < Int.ofNat n0, vRg_s0 n0 = true → Int.ofNat n0 ≠ (0 : Int), vRg_s0 n0 = true → (0 : Int) ≤ vRg_s52 n0 ∧ vRg_s52 n0 < Int.ofNat n0, vRg_s0 n0 = true → Int.ofNat n0 ≠ (0 : Int), vRg_s0 n0 = true → (0 : Int) ≤ vRg_s55 n0 ∧ vRg_s55 n0 < Int.ofNat n0, vRg_s0 n0 = true → Int.ofNat n0 ≠ (0 : Int), vRg_s0 n0 = true → (0 : Int) ≤ vRg_s56 n0 ∧ vRg_s56 n0 < Int.ofNat n0, vRg_s0 n0 = true → Int.ofNat n0 ≠ (0 : Int), vRg_s0 n0 = true → (0 : Int) ≤ vRg_s57 n0 ∧ vRg_s57 n0 < Int.ofNat n0, vRg_s0 n0 = true → Int.ofNat n0 ≠ (0 : Int), vRg_s0 n0 = true → (0 : Int) ≤ vRg_s58 n0 ∧ vRg_s58 n0 < Int.ofNat n0, vRg_s0 n0 = true → Int.ofNat n0 ≠ (0 : Int), vRg_s0 n0 = true → (0 : Int) ≤ vRg_s61 n0 ∧ vRg_s61 n0 < Int.ofNat n0, vRg_s0 n0 = true → Int.ofNat n0 ≠ (0 : Int), vRg_s0 n0 = true → (0 : Int) ≤ vRg_s62 n0 ∧ vRg_s62 n0 < Int.ofNat n0, vRg_s0 n0 = true → Int.ofNat n0 ≠ (0 : Int), vRg_s0 n0 = true → (0 : Int) ≤ vRg_s63 n0 ∧ vRg_s63 n0 < Int.ofNat n0, vRg_s0 n0 = true → Int.ofNat n0 ≠ (0 : Int), vRg_s0 n0 = true → (0 : Int) ≤ vRg_s64 n0 ∧ vRg_s64 n0 < Int.ofNat n0, vRg_s0 n0 = true → Int.ofNat n0 ≠ (0 : Int), vRg_s0 n0 = true → (0 : Int) ≤ vRg_s68 n0 ∧ vRg_s68 n0 < Int.ofNat n0, vRg_s0 n0 = true → Int.ofNat n0 ≠ (0 : Int), vRg_s0 n0 = true → (0 : Int) ≤ vRg_s69 n0 ∧ vRg_s69 n0 < Int.ofNat n0, vRg_s0 n0 = true → Int.ofNat n0 ≠ (0 : Int), vRg_s0 n0 = true → (0 : Int) ≤ vRg_s70 n0 ∧ vRg_s70 n0 < Int.ofNat n0, vRg_s0 n0 = true → Int.ofNat n0 ≠ (0 : Int), vRg_s0 n0 = true → (0 : Int) ≤ vRg_s71 n0 ∧ vRg_s71 n0 < Int.ofNat n0]
theorem vRg_ot (n0 : Nat) (x1_0 x1_1 x1_2 x1_3 : Int) (r0 : Bool) (p : List (List Int)) : Alls (vRg_o n0 x1_0 x1_1 x1_2 x1_3 r0 p) := by set_option maxRecDepth 100000 in exact ⟨fun h e => absurd (of_decide_eq_true h) (by rw [e]; decide), fun h => ⟨Int.tmod_nonneg _ (by decide), Int.tmod_lt_of_pos _ (of_decide_eq_true h)⟩, fun h e => absurd (of_decide_eq_true h) (by rw [e]; decide), fun h => ⟨Int.tmod_nonneg _ (by decide), Int.tmod_lt_of_pos _ (of_decide_eq_true h)⟩, fun h e => absurd (of_decide_eq_true h) (by rw [e]; decide), fun h => ⟨Int.tmod_nonneg _ (by decide), Int.tmod_lt_of_pos _ (of_decide_eq_true h)⟩, fun h e => absurd (of_decide_eq_true h) (by rw [e]; decide), fun h => ⟨Int.tmod_nonneg _ (by decide), Int.tmod_lt_of_pos _ (of_decide_eq_true h)⟩, fun h e => absurd (of_decide_eq_true h) (by rw [e]; decide), fun h => ⟨Int.tmod_nonneg _ (by decide), Int.tmod_lt_of_pos _ (of_decide_eq_true h)⟩, fun h e => absurd (of_decide_eq_true h) (by rw [e]; decide), fun h => ⟨Int.tmod_nonneg _ (by decide), Int.tmod_lt_of_pos _ (of_decide_eq_true h)⟩, fun h e => absurd (of_decide_eq_true h) (by rw [e]; decide), fun h => ⟨Int.tmod_nonneg _ (by decide), Int.tmod_lt_of_pos _ (of_decide_eq_true h)⟩, fun h e => absurd (of_decide_eq_true h) (by rw [e]; decide), fun h => ⟨Int.tmod_nonneg _ (by decide), Int.tmod_lt_of_pos _ (of_decide_eq_true h)⟩, fun h e => absurd (of_decide_eq_true h) (by rw [e]; decide), fun h => ⟨Int.tmod_nonneg _ (by decide), Int.tmod_lt_of_pos _ (of_decide_eq_true h)⟩, fun h e => absurd (of_decide_eq_true h) (by rw [e]; decide), fun h => ⟨Int.tmod_nonneg _ (by decide), Int.tmod_lt_of_pos _ (of_decide_eq_true h)⟩, fun h e => absurd (of_decide_eq_true h) (by rw [e]; decide), fun h => ⟨Int.tmod_nonneg _ (by decide), Int.tmod_lt_of_pos _ (of_decide_eq_true h)⟩, fun h e => absurd (of_decide_eq_true h) (by rw [e]; decide), fun h => ⟨Int.tmod_nonneg _ (by decide), Int.tmod_lt_of_pos _ (of_decide_eq_true h)⟩, fun h e => absurd (of_decide_eq_true h) (by rw [e]; decide), fun h => ⟨Int.tmod_nonneg _ (by decide), Int.tmod_lt_of_pos _ (of_decide_eq_true h)⟩, fun h e => absurd (of_decide_eq_true h) (by rw [e]; decide), fun h => ⟨Int.tmod_nonneg _ (by decide), Int.tmod_lt_of_pos _ (of_decide_eq_true h)⟩, fun h e => absurd (of_decide_eq_true h) (by rw [e]; decide), fun h => ⟨Int.tmod_nonneg _ (by decide), Int.tmod_lt_of_pos _ (of_decide_eq_true h)⟩, fun h e => absurd (of_decide_eq_true h) (by rw [e]; decide), fun h => ⟨Int.tmod_nonneg _ (by decide), Int.tmod_lt_of_pos _ (of_decide_eq_true h)⟩, fun h e => absurd (of_decide_eq_true h) (by rw [e]; decide), fun h => ⟨Int.tmod_nonneg _ (by decide), Int.tmod_lt_of_pos _ (of_decide_eq_true h)⟩, fun h e => absurd (of_decide_eq_true h) (by rw [e]; decide), fun h => ⟨Int.tmod_nonneg _ (by decide), Int.tmod_lt_of_pos _ (of_decide_eq_true h)⟩, fun h e => absurd (of_decide_eq_true h) (by rw [e]; decide), fun h => ⟨Int.tmod_nonneg _ (by decide), Int.tmod_lt_of_pos _ (of_decide_eq_true h)⟩, fun h e => absurd (of_decide_eq_true h) (by rw [e]; decide), fun h => ⟨Int.tmod_nonneg _ (by decide), Int.tmod_lt_of_pos _ (of_decide_eq_true h)⟩, fun h e => absurd (of_decide_eq_true h) (by rw [e]; decide), fun h => ⟨Int.tmod_nonneg _ (by decide), Int.tmod_lt_of_pos _ (of_decide_eq_true h)⟩, fun h e => absurd (of_decide_eq_true h) (by rw [e]; decide), fun h => ⟨Int.tmod_nonneg _ (by decide), Int.tmod_lt_of_pos _ (of_decide_eq_true h)⟩, fun h e => absurd (of_decide_eq_true h) (by rw [e]; decide), fun h => ⟨Int.tmod_nonneg _ (by decide), Int.tmod_lt_of_pos _ (of_decide_eq_true h)⟩, fun h e => absurd (of_decide_eq_true h) (by rw [e]; decide), fun h => ⟨Int.tmod_nonneg _ (by decide), Int.tmod_lt_of_pos _ (of_decide_eq_true h)⟩, fun h e => absurd (of_decide_eq_true h) (by rw [e]; decide), fun h => ⟨Int.tmod_nonneg _ (by decide), Int.tmod_lt_of_pos _ (of_decide_eq_true h)⟩, fun h e => absurd (of_decide_eq_true h) (by rw [e]; decide), fun h => ⟨Int.tmod_nonneg _ (by decide), Int.tmod_lt_of_pos _ (of_decide_eq_true h)⟩, fun h e => absurd (of_decide_eq_true h) (by rw [e]; decide), fun h => ⟨Int.tmod_nonneg _ (by decide), Int.tmod_lt_of_pos _ (of_decide_eq_true h)⟩, fun h e => absurd (of_decide_eq_true h) (by rw [e]; decide), fun h => ⟨Int.tmod_nonneg _ (by decide), Int.tmod_lt_of_pos _ (of_decide_eq_true h)⟩, fun h e => absurd (of_decide_eq_true h) (by rw [e]; decide), fun h => ⟨Int.tmod_nonneg _ (by decide), Int.tmod_lt_of_pos _ (of_decide_eq_true h)⟩, fun h e => absurd (of_decide_eq_true h) (by rw [e]; decide), fun h => ⟨Int.tmod_nonneg _ (by decide), Int.tmod_lt_of_pos _ (of_decide_eq_true h)⟩, fun h e => absurd (of_decide_eq_true h) (by rw [e]; decide), fun h => ⟨Int.tmod_nonneg _ (by decide), Int.tmod_lt_of_pos _ (of_decide_eq_true h)⟩, fun h e => absurd (of_decide_eq_true h) (by rw [e]; decide), fun h => ⟨Int.tmod_nonneg _ (by decide), Int.tmod_lt_of_pos _ (of_decide_eq_true h)⟩, fun h e => absurd (of_decide_eq_true h) (by rw [e]; decide), fun h => ⟨Int.tmod_nonneg _ (by decide), Int.tmod_lt_of_pos _ (of_decide_eq_true h)⟩, fun h e => absurd (of_decide_eq_true h) (by rw [e]; decide), fun h => ⟨Int.tmod_nonneg _ (by decide), Int.tmod_lt_of_pos _ (of_decide_eq_true h)⟩, fun h e => absurd (of_decide_eq_true h) (by rw [e]; decide), fun h => ⟨Int.tmod_nonneg _ (by decide), Int.tmod_lt_of_pos _ (of_decide_eq_true h)⟩, fun h e => absurd (of_decide_eq_true h) (by rw [e]; decide), fun h => ⟨Int.tmod_nonneg _ (by decide), Int.tmod_lt_of_pos _ (of_decide_eq_true h)⟩, fun h e => absurd (of_decide_eq_true h) (by rw [e]; decide), fun h => ⟨Int.tmod_nonneg _ (by decide), Int.tmod_lt_of_pos _ (of_decide_eq_true h)⟩, fun h e => absurd (of_decide_eq_true h) (by rw [e]; decide), fun h => ⟨Int.tmod_nonneg _ (by decide), Int.tmod_lt_of_pos _ (of_decide_eq_true h)⟩, fun h e => absurd (of_decide_eq_true h) (by rw [e]; decide), fun h => ⟨Int.tmod_nonneg _ (by decide), Int.tmod_lt_of_pos _ (of_decide_eq_true h)⟩, fun h e => absurd (of_decide_eq_true h) (by rw [e]; decide), fun h => ⟨Int.tmod_nonneg _ (by decide), Int.tmod_lt_of_pos _ (of_decide_eq_true h)⟩, fun h e => absurd (of_decide_eq_true h) (by rw [e]; decide), fun h => ⟨Int.tmod_nonneg _ (by decide), Int.tmod_lt_of_pos _ (of_decide_eq_true h)⟩, fun h e => absurd (of_decide_eq_true h) (by rw [e]; decide), fun h => ⟨Int.tmod_nonneg _ (by decide), Int.tmod_lt_of_pos _ (of_decide_eq_true h)⟩, fun h e => absurd (of_decide_eq_true h) (by rw [e]; decide), fun h => ⟨Int.tmod_nonneg _ (by decide), Int.tmod_lt_of_pos _ (of_decide_eq_true h)⟩, fun h e => absurd (of_decide_eq_true h) (by rw [e]; decide), fun h => ⟨Int.tmod_nonneg _ (by decide), Int.tmod_lt_of_pos _ (of_decide_eq_true h)⟩, fun h e => absurd (of_decide_eq_true h) (by rw [e]; decide), fun h => ⟨Int.tmod_nonneg _ (by decide), Int.tmod_lt_of_pos _ (of_decide_eq_true h)⟩, fun h e => absurd (of_decide_eq_true h) (by rw [e]; decide), fun h => ⟨Int.tmod_nonneg _ (by decide), Int.tmod_lt_of_pos _ (of_decide_eq_true h)⟩, fun h e => absurd (of_decide_eq_true h) (by rw [e]; decide), fun h => ⟨Int.tmod_nonneg _ (by decide), Int.tmod_lt_of_pos _ (of_decide_eq_true h)⟩, fun h e => absurd (of_decide_eq_true h) (by rw [e]; decide), fun h => ⟨Int.tmod_nonneg _ (by decide), Int.tmod_lt_of_pos _ (of_decide_eq_true h)⟩, trivial⟩
theorem vRg_p (n0 : Nat) (x1_0 x1_1 x1_2 x1_3 : Int) (r0 : Bool) (p : List (List Int)) : evG Try.prog tabUc4 2000 82 [0, 1, 3, 4, 5, 6, 7, 8, 9, 10, 12, 13, 18] [] [] [.a (.slc true 0 0 0 1 0 n0), .g [.int true .i64 x1_0, .int true .i64 x1_1, .int true .i64 x1_2, .int true .i64 x1_3]] [⟨⟨0, 0, r0, some ⟨0, [.int .i32], p, none⟩⟩, []⟩] = some (vRg_o n0 x1_0 x1_1 x1_2 x1_3 r0 p, LV.g [At.int true IntKind.i64 (vRg_0 n0 p), At.int true IntKind.i64 (vRg_1 n0 p), At.int true IntKind.i64 (vRg_2 n0 p), At.int true IntKind.i64 (vRg_3 n0 p), At.int true IntKind.i64 (vRg_4 n0 p), At.int true IntKind.i64 (vRg_5 n0 p), At.int true IntKind.i64 (vRg_6 n0 p), At.int true IntKind.i64 (vRg_7 n0 p), At.int true IntKind.i64 (vRg_8 n0 p), At.int true IntKind.i64 (vRg_9 n0 p), At.int true IntKind.i64 (vRg_10 n0 p), At.int true IntKind.i64 (vRg_11 n0 p), At.int true IntKind.i64 (vRg_12 n0 p), At.int true IntKind.i64 (vRg_13 n0 p), At.int true IntKind.i64 (vRg_14 n0 p), At.int true IntKind.i64 (vRg_15 n0 p), At.int true IntKind.i64 (vRg_16 n0 p), At.int true IntKind.i64 (vRg_17 n0 p), At.int true IntKind.i64 (vRg_18 n0 p), At.int true IntKind.i64 (vRg_19 n0 p), At.int true IntKind.i64 (vRg_20 n0 p), At.int true IntKind.i64 (vRg_21 n0 p), At.int true IntKind.i64 (vRg_22 n0 p), At.int true IntKind.i64 (vRg_23 n0 p), At.int true IntKind.i64 (vRg_24 n0 p), At.int true IntKind.i64 (vRg_25 n0 p), At.int true IntKind.i64 (vRg_26 n0 p), At.int true IntKind.i64 (vRg_27 n0 p), At.int true IntKind.i64 (vRg_28 n0 p), At.int true IntKind.i64 (vRg_29 n0 p), At.int true IntKind.i64 (vRg_30 n0 p), At.int true IntKind.i64 (vRg_31 n0 p), At.int true IntKind.i64 (vRg_32 n0 p), At.int true IntKind.i64 (vRg_33 n0 p), At.int true IntKind.i64 (vRg_34 n0 p), At.int true IntKind.i64 (vRg_35 n0 p), At.int true IntKind.i64 (vRg_36 n0 p), At.int true IntKind.i64 (vRg_37 n0 p), At.int true IntKind.i64 (vRg_38 n0 p), At.int true IntKind.i64 (vRg_39 n0 p), At.int true IntKind.i64 (vRg_40 n0 p), At.int true IntKind.i64 (vRg_41 n0 p), At.int true IntKind.i64 (vRg_42 n0 p), At.int true IntKind.i64 (vRg_43 n0 p), At.int true IntKind.i64 (vRg_44 x1_0 x1_1 x1_2 x1_3), At.int true IntKind.i64 (vRg_45 x1_0 x1_1 x1_2 x1_3), At.int true IntKind.i64 (vRg_46 x1_0 x1_1 x1_2 x1_3), At.int true IntKind.i64 (vRg_47 x1_0 x1_1 x1_2 x1_3)], [none]) := by kernel_rfl
def vRg_c : Con
  | [.a (.slc true 0 0 0 1 0 n0), .g [.int true .i64 x1_0, .int true .i64 x1_1, .int true .i64 x1_2, .int true .i64 x1_3]], [⟨⟨0, 0, r0, some ⟨0, [.int .i32], p, none⟩⟩, []⟩] => some ([], LV.g [At.int true IntKind.i64 (vRg_0 n0 p), At.int true IntKind.i64 (vRg_1 n0 p), At.int true IntKind.i64 (vRg_2 n0 p), At.int true IntKind.i64 (vRg_3 n0 p), At.int true IntKind.i64 (vRg_4 n0 p), At.int true IntKind.i64 (vRg_5 n0 p), At.int true IntKind.i64 (vRg_6 n0 p), At.int true IntKind.i64 (vRg_7 n0 p), At.int true IntKind.i64 (vRg_8 n0 p), At.int true IntKind.i64 (vRg_9 n0 p), At.int true IntKind.i64 (vRg_10 n0 p), At.int true IntKind.i64 (vRg_11 n0 p), At.int true IntKind.i64 (vRg_12 n0 p), At.int true IntKind.i64 (vRg_13 n0 p), At.int true IntKind.i64 (vRg_14 n0 p), At.int true IntKind.i64 (vRg_15 n0 p), At.int true IntKind.i64 (vRg_16 n0 p), At.int true IntKind.i64 (vRg_17 n0 p), At.int true IntKind.i64 (vRg_18 n0 p), At.int true IntKind.i64 (vRg_19 n0 p), At.int true IntKind.i64 (vRg_20 n0 p), At.int true IntKind.i64 (vRg_21 n0 p), At.int true IntKind.i64 (vRg_22 n0 p), At.int true IntKind.i64 (vRg_23 n0 p), At.int true IntKind.i64 (vRg_24 n0 p), At.int true IntKind.i64 (vRg_25 n0 p), At.int true IntKind.i64 (vRg_26 n0 p), At.int true IntKind.i64 (vRg_27 n0 p), At.int true IntKind.i64 (vRg_28 n0 p), At.int true IntKind.i64 (vRg_29 n0 p), At.int true IntKind.i64 (vRg_30 n0 p), At.int true IntKind.i64 (vRg_31 n0 p), At.int true IntKind.i64 (vRg_32 n0 p), At.int true IntKind.i64 (vRg_33 n0 p), At.int true IntKind.i64 (vRg_34 n0 p), At.int true IntKind.i64 (vRg_35 n0 p), At.int true IntKind.i64 (vRg_36 n0 p), At.int true IntKind.i64 (vRg_37 n0 p), At.int true IntKind.i64 (vRg_38 n0 p), At.int true IntKind.i64 (vRg_39 n0 p), At.int true IntKind.i64 (vRg_40 n0 p), At.int true IntKind.i64 (vRg_41 n0 p), At.int true IntKind.i64 (vRg_42 n0 p), At.int true IntKind.i64 (vRg_43 n0 p), At.int true IntKind.i64 (vRg_44 x1_0 x1_1 x1_2 x1_3), At.int true IntKind.i64 (vRg_45 x1_0 x1_1 x1_2 x1_3), At.int true IntKind.i64 (vRg_46 x1_0 x1_1 x1_2 x1_3), At.int true IntKind.i64 (vRg_47 x1_0 x1_1 x1_2 x1_3)], [none])
  | _, _ => none
theorem vRg_ok : ConOK Try.prog 82 (normC vRg_c) := normC_ok (by
  intro args bs obs lv out h ho φ vs w may ha hM
  unfold vRg_c at h
  split at h
  · simp only [Option.some.injEq, Prod.mk.injEq] at h
    obtain ⟨rfl, rfl, rfl⟩ := h
    rename_i n0 x1_0 x1_1 x1_2 x1_3 r0 p
    exact evG_ok tabUc4_ok follows _ _ _ _ _ (vRg_p n0 x1_0 x1_1 x1_2 x1_3 r0 p) (vRg_ot n0 x1_0 x1_1 x1_2 x1_3 r0 p) φ vs w may ha hM
  · cases h)
theorem vRg_en : Enters Try.prog 82 := fun args => by kernel_rfl
-- 8707 34336 159 ms

def tabUc5 : Tab := (81, normC pPr_c) :: (82, normC vRg_c) :: tabUc4
theorem tabUc5_ok : TOK Try.prog tabUc5 := TOK.cons pPr_en pPr_ok (TOK.cons vRg_en vRg_ok (tabUc4_ok))

end Go.Proofs.Ytcdejlgophpdjaa
end

section
namespace Go.Proofs.Ytcdejlgophpdjaa
open Go Go.RowKit Go.Proofs.Ytcdejlgophpdjaa.V
set_option linter.unusedVariables false
set_option linter.unusedSectionVars false

namespace Vm

theorem getD_set (p : List (List Int)) (i k : Nat) (r : List Int) : (p.set i r).getD k [] = if i = k ∧ k < p.length then r else p.getD k [] := by
  rw [List.getD_eq_getElem?_getD, List.getElem?_set, List.getD_eq_getElem?_getD]
  by_cases h : i = k
  · subst h
    by_cases q : i < p.length
    · rw [if_pos rfl, if_pos q, if_pos ⟨rfl, q⟩]; rfl
    · rw [if_pos rfl, if_neg q, if_neg (fun c => q c.2), List.getElem?_eq_none (by omega)]
  · rw [if_neg h, if_neg (fun c => h c.1)]
theorem rget_set (p : List (List Int)) (i k j : Nat) (r : List Int) : rget (p.set i r) k j = if i = k ∧ k < p.length then r.getD j 0 else rget p k j := by
  unfold rget
  rw [getD_set]
  split <;> rfl
theorem rget_out {p : List (List Int)} {k : Nat} (h : p.length ≤ k) (j : Nat) : rget p k j = 0 := by
  unfold rget
  have : p.getD k [] = [] := by rw [List.getD_eq_getElem?_getD, List.getElem?_eq_none h]; rfl
  rw [this]; rfl
theorem getD_app (p : List (List Int)) (r : List Int) (k : Nat) : (p ++ [r]).getD k [] = if k < p.length then p.getD k [] else if k = p.length then r else [] := by
  rw [List.getD_eq_getElem?_getD, List.getD_eq_getElem?_getD]
  by_cases h : k < p.length
  · rw [if_pos h, List.getElem?_append_left h]
  · rw [if_neg h, List.getElem?_append_right (by omega)]
    by_cases q : k = p.length
    · subst q; rw [if_pos rfl, Nat.sub_self]; rfl
    · rw [if_neg q, List.getElem?_eq_none (by rw [List.length_singleton]; omega)]; rfl
theorem rget_app (p : List (List Int)) (r : List Int) (k j : Nat) : rget (p ++ [r]) k j = if k < p.length then rget p k j else if k = p.length then r.getD j 0 else 0 := by
  unfold rget
  rw [getD_app]
  split
  · rfl
  · split <;> rfl

/-- A program of small numbers. -/
structure Rf (p : List (List Int)) (i : Nat) : Prop where
  op : 0 ≤ rget p i 0 ∧ rget p i 0 < 15
  dst : 0 ≤ rget p i 1 ∧ rget p i 1 < 12
  a : 0 ≤ rget p i 2 ∧ rget p i 2 < 9
  b : 0 ≤ rget p i 3 ∧ rget p i 3 < 12
  m : -32768 ≤ rget p i 4 ∧ rget p i 4 ≤ 32767
structure Rp (p : List (List Int)) : Prop where
  len : p.length ≤ 20
  f : ∀ i, i < p.length → Rf p i
theorem Rp.pb {p : List (List Int)} (R : Rp p) : Pb p := by
  refine ⟨by have := R.len; omega, fun i j hj => ?_, fun i => ?_⟩
  · by_cases h : i < p.length
    · have f := R.f i h
      have := f.op; have := f.dst; have := f.a; have := f.b
      match j, hj with
      | 0, _ => omega
      | 1, _ => omega
      | 2, _ => omega
      | 3, _ => omega
    · rw [rget_out (by omega)]; omega
  · by_cases h : i < p.length
    · exact (R.f i h).m
    · rw [rget_out (by omega)]; omega
theorem Rp.set {p : List (List Int)} (R : Rp p) (i : Nat) : Rp (p.set i [1, 0, 0, 0, 0]) := by
  refine ⟨by rw [List.length_set]; exact R.len, fun k hk => ?_⟩
  rw [List.length_set] at hk
  have f := R.f k hk
  by_cases h : i = k ∧ k < p.length
  · refine ⟨?_, ?_, ?_, ?_, ?_⟩ <;> rw [rget_set, if_pos h] <;> decide
  · refine ⟨?_, ?_, ?_, ?_, ?_⟩ <;> rw [rget_set, if_neg h]
    · exact f.op
    · exact f.dst
    · exact f.a
    · exact f.b
    · exact f.m

/-- It may make a program one that may not be. -/
def isSp (d : Bool) (n : Int) : Bool := decide (n = 12) || (decide (n = 11) || (decide (n = 13) && !d))
def spl (d : Bool) : List (List Int) → Nat
  | [] => 0
  | r :: l => (bif isSp d (r.getD 0 0) then 1 else 0) + spl d l
theorem spl_le (d : Bool) : ∀ l, spl d l ≤ l.length
  | [] => Nat.le_refl _
  | r :: l => by
    have := spl_le d l
    unfold spl
    rw [List.length_cons]
    cases isSp d (r.getD 0 0) <;> simp only [cond_true, cond_false] <;> omega
theorem spl_set (d : Bool) {s : List Int} (hs : isSp d (s.getD 0 0) = false) : ∀ (l : List (List Int)) (i : Nat), i < l.length → isSp d (rget l i 0) = true → spl d (l.set i s) + 1 = spl d l
  | [], i, h, _ => by simp at h
  | r :: l, 0, _, h => by
    have h' : isSp d (r.getD 0 0) = true := h
    show (bif isSp d (s.getD 0 0) then 1 else 0) + spl d l + 1 = (bif isSp d (r.getD 0 0) then 1 else 0) + spl d l
    rw [hs, h']; simp only [cond_true, cond_false]; omega
  | r :: l, i + 1, hi, h => by
    have := spl_set d hs l i (by simp at hi; omega) h
    show (bif isSp d (r.getD 0 0) then 1 else 0) + spl d (l.set i s) + 1 = (bif isSp d (r.getD 0 0) then 1 else 0) + spl d l
    omega

theorem no_sp {d : Bool} {p : List (List Int)} (R : Rp p) (h : ∀ i, i < p.length → isSp d (rget p i 0) = false) : pCh_0 d p = 0 := by
  have hl := R.len
  refine (ch_spec R.pb d).2 ⟨by omega, fun i hi => ?_, ?_⟩
  · have f := R.f i hi
    have o := f.op; have a1 := f.dst; have a2 := f.a; have a3 := f.b
    have s := h i hi
    unfold isSp at s
    simp only [Bool.or_eq_false_iff, Bool.and_eq_false_iff, decide_eq_false_iff_not] at s
    obtain ⟨s1, s2, s3⟩ := s
    have h0 : pCk_s0 (rget p i 0) d = false := by
      unfold pCk_s0
      rw [decide_eq_false (by omega)]
      by_cases q : rget p i 0 = 13
      · rw [q]
        rcases s3 with s3 | s3
        · exact absurd q s3
        · exact s3
      · rw [show (rget p i 0 == 13) = false from beq_eq_false_iff_ne.2 q]; rfl
    have h1 : pCk_s1 (rget p i 0) (rget p i 2) = false := by
      unfold pCk_s1
      rw [decide_eq_false (by omega)]
      cases rget p i 0 == 14 <;> rfl
    have h2 : pCk_s2 (rget p i 0) (rget p i 1) (rget p i 2) (rget p i 3) = false := by
      unfold pCk_s2
      rw [h1, decide_eq_false (by omega), decide_eq_false (by omega), decide_eq_false (by omega)]
      cases rget p i 0 != 12 <;> rfl
    have h5 : pCk_s5 (i : Int) (rget p i 0) (rget p i 3) (rget p i 4) p = false := by
      unfold pCk_s5
      rw [show (rget p i 0 == 12) = false from beq_eq_false_iff_ne.2 s1]; rfl
    unfold ckAt pCk_0
    rw [h0, h2, h5, show (rget p i 0 != 11) = true from bne_iff_ne.2 s2]; rfl
  · have : ∀ k, k ≤ p.length → Fs p k = 0 := by
      intro k hk
      induction k with
      | zero => rfl
      | succ k ih =>
        have s := h k (by omega)
        unfold isSp at s
        simp only [Bool.or_eq_false_iff, decide_eq_false_iff_not] at s
        show Fs p k + fe p k = 0
        rw [ih (by omega)]
        unfold fe
        rw [if_neg s.1]; rfl
    rw [this _ (Nat.le_refl _)]
    omega

/-- The next instruction that is struck. -/
def Bad (d : Bool) (p : List (List Int)) (i : Nat) : Prop := pCh_0 d p ≠ 0 ∧ (pCh_0 d (p.set i [1, 0, 0, 0, 0]) = 0 ∨ isSp d (rget p i 0) = true)

theorem bad_run {d : Bool} {p : List (List Int)} (R : Rp p) (r : Int) :
    (∃ v', lrun pPr_l31333_st 18446744073709551616 (pPr_l31333_T.mk d (-1) r (Int.ofNat p.length) 0 p) = some (.e 4, v') ∧ v'.a0 = d ∧ v'.a2 = r ∧ ((v'.a1 = -1 ∧ ∀ i, i < p.length → ¬ Bad d p i) ∨ (∃ i : Nat, i < p.length ∧ v'.a1 = (i : Int) ∧ Bad d p i))) ∧
    lok pPr_l31333_st 18446744073709551616 (pPr_l31333_T.mk d (-1) r (Int.ofNat p.length) 0 p) := by
  have hl := R.len
  obtain ⟨⟨x, v', e, hx, rfl, Q⟩, ok⟩ := mr_run (st := pPr_l31333_st) (I := fun D v => ∃ (k : Nat) (b : Int), v = pPr_l31333_T.mk d b r (Int.ofNat p.length) (k : Int) p ∧ k ≤ p.length ∧ D = p.length - k ∧ ((b = -1 ∧ ∀ i, i < k → ¬ Bad d p i) ∨ (∃ i : Nat, i < p.length ∧ b = (i : Int) ∧ Bad d p i)))
    (R := fun x v' => x = .e 4 ∧ v'.a0 = d ∧ v'.a2 = r ∧ ((v'.a1 = -1 ∧ ∀ i, i < p.length → ¬ Bad d p i) ∨ (∃ i : Nat, i < p.length ∧ v'.a1 = (i : Int) ∧ Bad d p i))) (by
      rintro D v ⟨k, b, rfl, hk, hd, hb⟩
      have s0 : pPr_l31333_s0 (pPr_l31333_T.mk d b r (Int.ofNat p.length) (k : Int) p) = decide (k < p.length) := by
        unfold pPr_l31333_s0
        exact decide_eq_decide.2 (show (k : Int) < (p.length : Int) ↔ k < p.length by omega)
      have s4 : pPr_l31333_s4 (pPr_l31333_T.mk d b r (Int.ofNat p.length) (k : Int) p) = p.set k [1, 0, 0, 0, 0] := by
        unfold pPr_l31333_s4 pPr_l31333_s1
        show (p.set (Int.toNat (k : Int)) _) = _
        rw [Int.toNat_natCast]
      have Rq := (R.set k).pb
      refine ⟨?_, ?_⟩
      · have o1 := ch_obs R.pb d
        have o2 := ch_obs Rq d
        unfold pPr_l31333_st
        rw [s0, s4]
        refine ⟨fun _ => ?_, fun h => ?_, fun _ _ => o1.1, fun _ _ => o1.2, fun _ _ _ => o2.1, fun _ _ _ => o2.2, fun h _ _ _ => ?_, fun h _ _ _ _ => ?_, fun h _ _ _ _ _ => ?_, trivial⟩
        · show (p.length : Nat) * 6 ≤ 70368744177664
          omega
        all_goals
          have := of_decide_eq_true h
          show (0 : Int) ≤ (k : Int) ∧ (k : Int) < (p.length : Int)
          omega
      · unfold pPr_l31333_st
        rw [s0]
        by_cases h : k < p.length
        · rw [decide_eq_true h]
          have e1 : IntKind.wrap .i64 ((k : Int) + 1) = ((k + 1 : Nat) : Int) := by rw [w64_in (by omega) (by omega)]; rfl
          have sp : ∀ n : Int, (bif n == 12 then true else bif n == 11 then true else bif n == 13 then !d else false) = isSp d n := fun n => by
            unfold isSp
            by_cases q1 : n = 12
            · subst q1; rfl
            · rw [show (n == 12) = false from beq_eq_false_iff_ne.2 q1, decide_eq_false q1]
              by_cases q2 : n = 11
              · subst q2; rfl
              · rw [show (n == 11) = false from beq_eq_false_iff_ne.2 q2, decide_eq_false q2]
                by_cases q3 : n = 13
                · subst q3; rfl
                · rw [show (n == 13) = false from beq_eq_false_iff_ne.2 q3, decide_eq_false q3]; rfl
          have cond : (bif pPr_l31333_s2 (pPr_l31333_T.mk d b r (Int.ofNat p.length) (k : Int) p) then bif pPr_l31333_s3 (pPr_l31333_T.mk d b r (Int.ofNat p.length) (k : Int) p) then bif pPr_l31333_s5 (pPr_l31333_T.mk d b r (Int.ofNat p.length) (k : Int) p) then true else bif pPr_l31333_s6 (pPr_l31333_T.mk d b r (Int.ofNat p.length) (k : Int) p) then true else bif pPr_l31333_s7 (pPr_l31333_T.mk d b r (Int.ofNat p.length) (k : Int) p) then true else bif rget p (Int.toNat (k : Int)) 0 == 13 then !d else false else false else false) = (decide (b < 0) && (pCh_0 d p != 0 && (pCh_0 d (p.set k [1, 0, 0, 0, 0]) == 0 || isSp d (rget p k 0)))) := by
            unfold pPr_l31333_s5 pPr_l31333_s2 pPr_l31333_s3 pPr_l31333_s6 pPr_l31333_s7
            rw [s4]
            show (bif decide (b < 0) then bif pCh_0 d p != 0 then bif pCh_0 d (p.set k [1, 0, 0, 0, 0]) == 0 then true else (bif rget p (Int.toNat (k : Int)) 0 == 12 then true else bif rget p (Int.toNat (k : Int)) 0 == 11 then true else bif rget p (Int.toNat (k : Int)) 0 == 13 then !d else false) else false else false) = _
            rw [sp, Int.toNat_natCast]
            cases decide (b < 0) <;> cases pCh_0 d p != 0 <;> cases pCh_0 d (p.set k [1, 0, 0, 0, 0]) == 0 <;> rfl
          refine .inl ⟨pPr_l31333_T.mk d (bif (decide (b < 0) && (pCh_0 d p != 0 && (pCh_0 d (p.set k [1, 0, 0, 0, 0]) == 0 || isSp d (rget p k 0)))) then (k : Int) else b) r (Int.ofNat p.length) ((k + 1 : Nat) : Int) p, p.length - (k + 1), ?_, by omega, k + 1, _, rfl, by omega, rfl, ?_⟩
          · rw [← cond, ← e1]; rfl
          · rcases hb with ⟨rfl, hb⟩ | ⟨i, hi, rfl, hb⟩
            · by_cases q : Bad d p k
              · have : (decide ((-1 : Int) < 0) && (pCh_0 d p != 0 && (pCh_0 d (p.set k [1, 0, 0, 0, 0]) == 0 || isSp d (rget p k 0)))) = true := by
                  rw [show (pCh_0 d p != 0) = true from bne_iff_ne.2 q.1]
                  rcases q.2 with c | c
                  · rw [c]; rfl
                  · rw [c]; cases pCh_0 d (p.set k [1, 0, 0, 0, 0]) == 0 <;> rfl
                rw [this]
                exact .inr ⟨k, h, rfl, q⟩
              · have : (decide ((-1 : Int) < 0) && (pCh_0 d p != 0 && (pCh_0 d (p.set k [1, 0, 0, 0, 0]) == 0 || isSp d (rget p k 0)))) = false := by
                  cases c : (decide ((-1 : Int) < 0) && (pCh_0 d p != 0 && (pCh_0 d (p.set k [1, 0, 0, 0, 0]) == 0 || isSp d (rget p k 0)))) with
                  | false => rfl
                  | true =>
                    simp only [Bool.and_eq_true, Bool.or_eq_true, bne_iff_ne, beq_iff_eq] at c
                    exact absurd ⟨c.2.1, c.2.2⟩ q
                rw [this]
                refine .inl ⟨rfl, fun i hi => ?_⟩
                by_cases e : i = k
                · subst e; exact q
                · exact hb i (by omega)
            · rw [decide_eq_false (show ¬ (i : Int) < 0 by omega)]
              exact .inr ⟨i, hi, rfl, hb⟩
        · rw [decide_eq_false h]
          refine .inr ⟨.e 4, _, by simp, rfl, rfl, rfl, rfl, ?_⟩
          rcases hb with ⟨e, hb⟩ | hb
          · exact .inl ⟨e, fun i hi => hb i (by omega)⟩
          · exact .inr hb)
    18446744073709551616 p.length _ ⟨0, -1, rfl, Nat.zero_le _, rfl, .inl ⟨rfl, fun i h => by omega⟩⟩ (by omega)
  exact ⟨⟨v', e, Q⟩, ok⟩

theorem fix_run {d : Bool} {p : List (List Int)} (R : Rp p) :
    (∃ x v', lrun pPr_l61_st 18446744073709551616 (pPr_l61_T.mk d 0 p) = some (x, v') ∧ Rp v'.a2 ∧ v'.a2.length = p.length ∧ pCh_0 d v'.a2 = 0) ∧ lok pPr_l61_st 18446744073709551616 (pPr_l61_T.mk d 0 p) := by
  obtain ⟨⟨x, v', e, hx, Q⟩, ok⟩ := mr_run (st := pPr_l61_st) (I := fun D v => ∃ (r : Nat) (q : List (List Int)), v = pPr_l61_T.mk d (r : Int) q ∧ Rp q ∧ q.length = p.length ∧ r + D = 60 ∧ (pCh_0 d q = 0 ∨ spl d q + r ≤ 20))
    (R := fun x v' => Rp v'.a2 ∧ v'.a2.length = p.length ∧ pCh_0 d v'.a2 = 0) (by
      rintro D v ⟨r, q, rfl, R, hl, hD, hc⟩
      have s0 : pPr_l61_s0 (pPr_l61_T.mk d (r : Int) q) = decide (r < 60) := by
        unfold pPr_l61_s0
        exact decide_eq_decide.2 (show (r : Int) < 60 ↔ r < 60 by omega)
      obtain ⟨⟨v1, e1, f1, f2, c⟩, ok⟩ := bad_run (d := d) R (r : Int)
      have s1 : pPr_l61_s1 (pPr_l61_T.mk d (r : Int) q) = some (.e 4, v1) := e1
      have s3 : pPr_l61_s3 (pPr_l61_T.mk d (r : Int) q) = decide (v1.a1 < 0) := by
        unfold pPr_l61_s3
        rw [s1]; rfl
      refine ⟨?_, ?_⟩
      · unfold pPr_l61_st
        rw [s0, s1, s3]
        refine ⟨fun _ => ok, fun _ _ h => ?_, trivial⟩
        show 0 ≤ v1.a1 ∧ v1.a1 < (q.length : Int)
        rcases c with ⟨c, _⟩ | ⟨i, hi, c, _⟩
        · rw [c] at h; exact absurd h (by decide)
        · rw [c]; omega
      · unfold pPr_l61_st
        rw [s0, s1, s3]
        by_cases h : r < 60
        · rw [decide_eq_true h]
          rcases c with ⟨c, hn⟩ | ⟨i, hi, c, hb⟩
          · refine .inr ⟨.e 2, pPr_l61_T.mk d (r : Int) q, by simp, ?_, R, hl, ?_⟩
            · rw [c]
              show some (X.e 2, pPr_l61_T.mk v1.a0 v1.a2 q) = _
              rw [f1, f2]
            · show pCh_0 d q = 0
              by_cases z : pCh_0 d q = 0
              · exact z
              · refine no_sp R fun i hi => ?_
                cases w : isSp d (rget q i 0) with
                | false => rfl
                | true => exact absurd ⟨z, .inr w⟩ (hn i hi)
          · refine .inl ⟨pPr_l61_T.mk d ((r + 1 : Nat) : Int) (q.set i [1, 0, 0, 0, 0]), D - 1, ?_, by omega, r + 1, q.set i [1, 0, 0, 0, 0], rfl, R.set i, by rw [List.length_set]; exact hl, by omega, ?_⟩
            · rw [c, decide_eq_false (show ¬ (i : Int) < 0 by omega)]
              show some (X.n, pPr_l61_T.mk v1.a0 (IntKind.wrap .i64 (v1.a2 + 1)) (q.set (Int.toNat v1.a1) [1, 0, 0, 0, 0])) = _
              rw [f1, f2, c, w64_in (by omega) (by omega), Int.toNat_natCast]; rfl
            · rcases hb.2 with w | w
              · exact .inl w
              · rcases hc with hc | hc
                · exact absurd hc hb.1
                · have := spl_set d (s := [1, 0, 0, 0, 0]) (by cases d <;> rfl) q i hi w
                  exact .inr (by omega)
        · rw [decide_eq_false h]
          refine .inr ⟨.e 2, pPr_l61_T.mk d (r : Int) q, by simp, rfl, R, hl, ?_⟩
          rcases hc with hc | hc
          · exact hc
          · omega)
    18446744073709551616 60 _ ⟨0, p, rfl, R, rfl, rfl, .inr (by have := spl_le d p; have := R.len; omega)⟩ (by omega)
  exact ⟨⟨x, v', e, Q⟩, ok⟩

end Vm

end Go.Proofs.Ytcdejlgophpdjaa
end

section
namespace Go.Proofs.Ytcdejlgophpdjaa
open Go Go.RowKit Go.Proofs.Ytcdejlgophpdjaa.V
set_option linter.unusedVariables false
set_option linter.unusedSectionVars false

namespace Vm

theorem ref_spec {p : List (List Int)} (B : Pb p) : Qp p (pRef_0 p) ∧ lok pRef_l29_st 18446744073709551616 (pRef_l29_T.mk (Int.ofNat p.length) 0 p []) := by
  have hl := B.len
  obtain ⟨⟨x, v', e, hx, Q⟩, ok⟩ := mr_run (st := pRef_l29_st) (I := fun d v => ∃ (k : Nat) (out : List (List Int)), v = pRef_l29_T.mk (Int.ofNat p.length) (k : Int) p out ∧ k ≤ p.length ∧ d = p.length - k ∧ out.length = k ∧ ∀ i j, i < k → j < 5 → rget out i j = rget p i j)
    (R := fun x v' => Qp p v'.a3) (by
      rintro d v ⟨k, out, rfl, hk, hd, ho, hr⟩
      have s0 : pRef_l29_s0 (pRef_l29_T.mk (Int.ofNat p.length) (k : Int) p out) = decide (k < p.length) := by
        unfold pRef_l29_s0
        exact decide_eq_decide.2 (show (k : Int) < (p.length : Int) ↔ k < p.length by omega)
      have s1 : pRef_l29_s1 (pRef_l29_T.mk (Int.ofNat p.length) (k : Int) p out) = out ++ [[rget p k 0, rget p k 1, rget p k 2, rget p k 3, rget p k 4]] := by
        have f0 := B.f k 0 (by omega)
        have f1 := B.f k 1 (by omega)
        have f2 := B.f k 2 (by omega)
        have f3 := B.f k 3 (by omega)
        have bm := B.m k
        unfold pRef_l29_s1
        show out ++ [[IntKind.wrap .i64 (rget p (Int.toNat (k : Int)) 0), IntKind.wrap .i64 (rget p (Int.toNat (k : Int)) 1), IntKind.wrap .i64 (rget p (Int.toNat (k : Int)) 2), IntKind.wrap .i64 (rget p (Int.toNat (k : Int)) 3), IntKind.wrap .i64 (rget p (Int.toNat (k : Int)) 4)]] = _
        rw [Int.toNat_natCast, w64_in (n := rget p k 0) (by omega) (by omega), w64_in (n := rget p k 1) (by omega) (by omega), w64_in (n := rget p k 2) (by omega) (by omega), w64_in (n := rget p k 3) (by omega) (by omega), w64_in (n := rget p k 4) (by omega) (by omega)]
      unfold pRef_l29_st
      rw [s0, s1]
      refine ⟨⟨fun h => ?_, fun _ => ?_, trivial⟩, ?_⟩
      · have := of_decide_eq_true h
        show (0 : Int) ≤ (k : Int) ∧ (k : Int) < (p.length : Int)
        omega
      · rw [List.length_append, List.length_singleton]; omega
      · by_cases h : k < p.length
        · rw [decide_eq_true h]
          refine .inl ⟨pRef_l29_T.mk (Int.ofNat p.length) ((k + 1 : Nat) : Int) p (out ++ [[rget p k 0, rget p k 1, rget p k 2, rget p k 3, rget p k 4]]), p.length - (k + 1), ?_, by omega, k + 1, _, rfl, by omega, rfl, by rw [List.length_append, List.length_singleton, ho], fun i j hi hj => ?_⟩
          · have e1 : IntKind.wrap .i64 ((k : Int) + 1) = ((k + 1 : Nat) : Int) := by rw [w64_in (by omega) (by omega)]; rfl
            rw [← e1]; rfl
          · rw [rget_app, ho]
            by_cases c : i < k
            · rw [if_pos c]; exact hr i j c hj
            · have : i = k := by omega
              subst this
              rw [if_neg c, if_pos rfl]
              match j, hj with
              | 0, _ => rfl
              | 1, _ => rfl
              | 2, _ => rfl
              | 3, _ => rfl
              | 4, _ => rfl
        · rw [decide_eq_false h]
          obtain rfl : k = p.length := by omega
          exact .inr ⟨.e 0, _, by simp, rfl, ⟨ho, hr⟩⟩)
    18446744073709551616 p.length _ ⟨0, [], rfl, Nat.zero_le _, rfl, rfl, fun i j h => by omega⟩ (by omega)
  refine ⟨?_, ok⟩
  unfold pRef_0
  rw [show lrun pRef_l29_st 18446744073709551616 (pRef_l29_T.mk (Int.ofNat p.length) 0 p []) = some (x, v') from e]
  exact Q
end Vm

end Go.Proofs.Ytcdejlgophpdjaa
end

section
namespace Go.Proofs.Ytcdejlgophpdjaa
open Go Go.RowKit Go.Proofs.Ytcdejlgophpdjaa.V

theorem vecLU_ok : ConOK Try.prog 2 vecLitC := by
  intro args bs obs lv out h ho
  unfold vecLitC at h
  split at h
  · simp only [Option.some.injEq, Prod.mk.injEq] at h
    obtain ⟨rfl, rfl, rfl⟩ := h
    exact ho.1.elim
  · cases h
def tabUd0 : Tab := (2, vecLitC) :: tabUc4
theorem tabUd0_ok : TOK Try.prog tabUd0 := TOK.cons rowU_en vecLU_ok tabUc4_ok

end Go.Proofs.Ytcdejlgophpdjaa
end

section
namespace Go.Proofs.Ytcdejlgophpdjaa
open Go Go.RowKit Go.Proofs.Ytcdejlgophpdjaa.V
set_option linter.unusedVariables false

/-! azulejo/azulejolaw08.Awake -/
def vAw_s0 : List Int := [(0 : Int), (0 : Int), (0 : Int), (0 : Int), (0 : Int), (0 : Int), (0 : Int), (0 : Int), (0 : Int), (0 : Int), (0 : Int), (0 : Int), (0 : Int), (0 : Int), (0 : Int), (0 : Int), (0 : Int), (0 : Int), (0 : Int), (0 : Int), (0 : Int), (0 : Int), (0 : Int), (0 : Int), (0 : Int), (0 : Int), (0 : Int), (0 : Int), (0 : Int), (0 : Int), (0 : Int), (0 : Int), (0 : Int), (0 : Int), (0 : Int), (0 : Int), (0 : Int), (0 : Int), (0 : Int), (0 : Int), (0 : Int), (0 : Int), (0 : Int), (0 : Int), (0 : Int), (0 : Int), (0 : Int), (0 : Int)]
def vAw_s1 : List (List Int) := [[(2 : Int), (0 : Int), (0 : Int), (0 : Int), (256 : Int)]]
def vAw_0 : Bool := bif vShN_0 (1 : Int) (2 : Int) (3 : Int) (4 : Int) (0 : Int) (0 : Int) (0 : Int) == (1 : Int) && (vShN_1 (1 : Int) (2 : Int) (3 : Int) (4 : Int) (0 : Int) (0 : Int) (0 : Int) == (2 : Int) && (vShN_2 (1 : Int) (2 : Int) (3 : Int) (4 : Int) (0 : Int) (0 : Int) (0 : Int) == (3 : Int) && vShN_3 (1 : Int) (2 : Int) (3 : Int) (4 : Int) (0 : Int) (0 : Int) (0 : Int) == (4 : Int))) then bif vRun_2 vAw_s0 vAw_s1 == (65536 : Int) then vRun_49 vAw_s0 vAw_s1 == (1 : Int) else false else false
def vAw_o  : List Prop := [decide ((0 : Int) < (0 : Int)) = false, (!pCh_s0 vAw_s1) = true → lok pCh_l29_st (18446744073709551616 : Nat) (pCh_l29_T.mk true (0 : Int) (Int.ofNat (1 : Nat)) (0 : Int) vAw_s1), (!pCh_s0 vAw_s1) = true → isX (X.e (0 : Nat)) (pCh_s1 true vAw_s1) = true → lok pFu_l29_st (18446744073709551616 : Nat) (pFu_l29_T.mk (0 : Int) (Int.ofNat (1 : Nat)) (Int.ofNat (1 : Nat)) (0 : Int) vAw_s1), vRun_s0 vAw_s1 = true → lok vRa5_l13_st (18446744073709551616 : Nat) (vRa5_l13_T.mk (Int.ofNat (1 : Nat)) false (0 : Int) (vRun_s2 vAw_s0) false (0 : Int) vAw_s1)]
theorem vAw_p  : evG Try.prog tabUd0 2000 80 [0, 1, 2, 4] [] [] [] [] = some (vAw_o , LV.a (At.bool true vAw_0), []) := by kernel_rfl
def vAw_c : Con
  | [], [] => some (vAw_o , LV.a (At.bool true vAw_0), [])
  | _, _ => none
theorem vAw_ok : ConOK Try.prog 80 (normC vAw_c) := normC_ok (by
  intro args bs obs lv out h ho φ vs w may ha hM
  unfold vAw_c at h
  split at h
  · simp only [Option.some.injEq, Prod.mk.injEq] at h
    obtain ⟨rfl, rfl, rfl⟩ := h
    exact evG_ok tabUd0_ok follows _ _ _ _ _ (vAw_p ) ho φ vs w may ha hM
  · cases h)
theorem vAw_en : Enters Try.prog 80 := fun args => by kernel_rfl
-- 327 29 15 ms

def tabUd1 : Tab := (80, normC vAw_c) :: tabUd0
theorem tabUd1_ok : TOK Try.prog tabUd1 := TOK.cons vAw_en vAw_ok (tabUd0_ok)

end Go.Proofs.Ytcdejlgophpdjaa
end

section
namespace Go.Proofs.Ytcdejlgophpdjaa
open Go Go.RowKit Go.Proofs.Ytcdejlgophpdjaa.V

def tabUe0 : Tab := (80, normC vAw_c) :: tabUc5
theorem tabUe0_ok : TOK Try.prog tabUe0 := TOK.cons vAw_en vAw_ok tabUc5_ok

end Go.Proofs.Ytcdejlgophpdjaa
end

section
namespace Go.Proofs.Ytcdejlgophpdjaa
open Go Go.RowKit Go.Proofs.Ytcdejlgophpdjaa.V

def tabUf0 : Tab := (85, normC r7Ru2_c) :: tabUe0
theorem tabUf0_ok : TOK Try.prog tabUf0 := TOK.cons r7Ru2_en r7Ru2_ok tabUe0_ok

end Go.Proofs.Ytcdejlgophpdjaa
end

