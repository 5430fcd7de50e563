/-
  Contracts of functions of the program, each run on the local memory (printed by a program of this session's own: wip/tools).
-/
import Derived.Test.YtcdejlgophpdjaaQVmColours5
section
namespace Go.Proofs.Ytcdejlgophpdjaa
open Go Go.RowKit Go.Proofs.Ytcdejlgophpdjaa.V
set_option linter.unusedVariables false

/-! azulejo/azulejolaw07.Program -/
noncomputable def pPr_l29_code : Go.Code := loopOf (subs (bodyOf Try.prog 81) 1 29)
structure pPr_l29_T where
  a0 : Bool
  a1 : Nat
  a2 : Int
  a3 : Int
  a4 : List (List Int)
  a5 : List (List Int)
  deriving Inhabited
def pPr_l29_hd (v : pPr_l29_T) : HS := HS.mk [(nat_lit 1, LV.a (At.bool true (pPr_l29_T.a0 v))), (nat_lit 4, LV.a At.nils), (nat_lit 5, LV.a (At.vec (nat_lit 1) (nat_lit 0) (nat_lit 5))), (nat_lit 12, LV.a (At.slc true (nat_lit 0) (nat_lit 0) (nat_lit 0) (nat_lit 6) (nat_lit 0) (pPr_l29_T.a1 v))), (nat_lit 13, LV.a (At.int true IntKind.i64 (pPr_l29_T.a2 v))), (nat_lit 14, LV.a (At.int true IntKind.i64 (pPr_l29_T.a3 v)))] [BC.mk (Hd.mk (nat_lit 0) (nat_lit 0) true (some (Rw.mk (nat_lit 0) [Kd.int IntKind.u8, Kd.int IntKind.u8, Kd.int IntKind.u8, Kd.int IntKind.u8, Kd.int IntKind.i16, Kd.bool] (pPr_l29_T.a4 v) none))) [], BC.mk (Hd.mk (nat_lit 0) (nat_lit 0) false (some (Rw.mk (nat_lit 0) [Kd.int IntKind.u8, Kd.int IntKind.u8, Kd.int IntKind.u8, Kd.int IntKind.u8, Kd.int IntKind.i16] (pPr_l29_T.a5 v) none))) []]
def pPr_l29_s0 (v : pPr_l29_T) : Bool := decide (pPr_l29_T.a3 v < pPr_l29_T.a2 v)
def pPr_l29_s1 (v : pPr_l29_T) : Bool := decide (pPr_l29_T.a3 v < (20 : Int))
def pPr_l29_s2 (v : pPr_l29_T) : Int := rget (pPr_l29_T.a4 v) (nat_lit 0 + Int.toNat (pPr_l29_T.a3 v)) (3 : Nat)
def pPr_l29_s3 (v : pPr_l29_T) : Int := rget (pPr_l29_T.a4 v) (nat_lit 0 + Int.toNat (pPr_l29_T.a3 v)) (4 : Nat)
def pPr_l29_s4 (v : pPr_l29_T) : List (List Int) := pPr_l29_T.a5 v ++ [[Int.tmod (rget (pPr_l29_T.a4 v) (nat_lit 0 + Int.toNat (pPr_l29_T.a3 v)) (0 : Nat)) (15 : Int), Int.tmod (rget (pPr_l29_T.a4 v) (nat_lit 0 + Int.toNat (pPr_l29_T.a3 v)) (1 : Nat)) (12 : Int), Int.tmod (rget (pPr_l29_T.a4 v) (nat_lit 0 + Int.toNat (pPr_l29_T.a3 v)) (2 : Nat)) (9 : Int), Int.tmod (pPr_l29_s2 v) (12 : Int), pPr_l29_s3 v]]
def pPr_l29_s5 : Int := Int.ofNat ((2 : Nat) ^ IntKind.bits IntKind.i16)
def pPr_l29_st (v : pPr_l29_T) : List Prop × List (X × Bool × pPr_l29_T) := ([pPr_l29_s0 v = true → (0 : Int) ≤ pPr_l29_T.a3 v ∧ pPr_l29_T.a3 v < Int.ofNat (pPr_l29_T.a1 v), pPr_l29_s0 v = true → pPr_l29_s1 v = true → List.length (pPr_l29_s4 v) * (6 : Nat) ≤ (70368744177664 : Nat), pPr_l29_s0 v = true → pPr_l29_s1 v = true → (0 : Int) ≤ pPr_l29_T.a3 v ∧ pPr_l29_T.a3 v < Int.ofNat (List.length (pPr_l29_s4 v))], [(X.e (0 : Nat), !pPr_l29_s0 v, pPr_l29_T.mk (pPr_l29_T.a0 v) (pPr_l29_T.a1 v) (pPr_l29_T.a2 v) (pPr_l29_T.a3 v) (pPr_l29_T.a4 v) (pPr_l29_T.a5 v)), (X.n, pPr_l29_s0 v, pPr_l29_T.mk (pPr_l29_T.a0 v) (pPr_l29_T.a1 v) (pPr_l29_T.a2 v) (IntKind.wrap IntKind.i64 (pPr_l29_T.a3 v + (1 : Int))) (pPr_l29_T.a4 v) (bif pPr_l29_s1 v then bif bif rget (pPr_l29_s4 v) (Int.toNat (pPr_l29_T.a3 v)) (0 : Nat) == (12 : Int) then true else rget (pPr_l29_s4 v) (Int.toNat (pPr_l29_T.a3 v)) (0 : Nat) == (11 : Int) then rset (rset (pPr_l29_s4 v) (Int.toNat (pPr_l29_T.a3 v)) (3 : Nat) [IntKind.wrap IntKind.u8 ((1 : Int) + Int.tmod (pPr_l29_s2 v) (4 : Int))]) (Int.toNat (pPr_l29_T.a3 v)) (4 : Nat) [IntKind.wrap IntKind.i16 ((1 : Int) + IntKind.wrap IntKind.i16 (Int.ofNat (Int.toNat (pPr_l29_s3 v % pPr_l29_s5) &&& Int.toNat ((3 : Int) % pPr_l29_s5))))] else pPr_l29_s4 v else pPr_l29_T.a5 v))])
def pPr_l29_rd : HS → Option pPr_l29_T := rdS [.b, .lit 0, .n, .i, .i, .r, .r] (fun l => pPr_l29_T.mk (gB l 0) (gN l 2) (gI l 3) (gI l 4) (gR l 5) (gR l 6)) pPr_l29_hd
def pPr_l29_sum : V.Sum := loopS pPr_l29_hd pPr_l29_rd pPr_l29_st 18446744073709551616 [X.e (0 : Nat)] [0, 1, 4, 5, 6, 7, 8, 9, 10, 11, 12, 13, 14, 15, 20, 53, 69, 70, 72, 73, 74, 124, 128] [1, 4, 5, 12, 13, 14] [1] [1] [(5, [.int .u8, .int .u8, .int .u8, .int .u8, .int .i16])] 0
theorem pPr_l29_E : ∀ v, bodyF Try.prog tabUc4 (ntOf Try.prog 81) [0, 1, 4, 5, 6, 7, 8, 9, 10, 11, 12, 13, 14, 15, 20, 53, 69, 70, 72, 73, 74, 124, 128] [1, 4, 5, 12, 13, 14] [] 2000 [1] [1] pPr_l29_code 116 (pPr_l29_hd v) = some ((pPr_l29_st v).1, (pPr_l29_st v).2.map fun q => (q.1, q.2.1, pPr_l29_hd q.2.2)) := fun v => by kernel_rfl
theorem pPr_l29_R : ∀ h v, pPr_l29_rd h = some v → h = pPr_l29_hd v := rdS_ok fun l => by kernel_rfl
set_option maxRecDepth 100000 in
theorem pPr_l29_sok : SumOK Try.prog (ntOf Try.prog 81) [0, 1, 4, 5, 6, 7, 8, 9, 10, 11, 12, 13, 14, 15, 20, 53, 69, 70, 72, 73, 74, 124, 128] (.block (blockOf (subs (bodyOf Try.prog 81) 1 29)) (.loop pPr_l29_code)) pPr_l29_sum := loopS_ok tabUc4_ok follows pPr_l29_E pPr_l29_R (fun v => by kernel_rfl) (LOK_of _ _ (LOK_nil'))
noncomputable def pPr_l31333_code : Go.Code := loopOf (subs (bodyOf Try.prog 81) 1 31333)
structure pPr_l31333_T where
  a0 : Bool
  a1 : Int
  a2 : Int
  a3 : Int
  a4 : Int
  a5 : List (List Int)
  deriving Inhabited
def pPr_l31333_hd (v : pPr_l31333_T) : HS := HS.mk [(nat_lit 1, LV.a (At.bool true (pPr_l31333_T.a0 v))), (nat_lit 4, LV.a At.nils), (nat_lit 5, LV.a (At.vec (nat_lit 0) (nat_lit 0) (nat_lit 5))), (nat_lit 9, LV.a (At.int true IntKind.i64 (pPr_l31333_T.a1 v))), (nat_lit 69, LV.a (At.int true IntKind.i64 (pPr_l31333_T.a2 v))), (nat_lit 72, LV.a (At.int true IntKind.i64 (pPr_l31333_T.a3 v))), (nat_lit 73, LV.a (At.int true IntKind.i64 (pPr_l31333_T.a4 v)))] [BC.mk (Hd.mk (nat_lit 0) (nat_lit 0) true (some (Rw.mk (nat_lit 0) [Kd.int IntKind.u8, Kd.int IntKind.u8, Kd.int IntKind.u8, Kd.int IntKind.u8, Kd.int IntKind.i16] (pPr_l31333_T.a5 v) none))) []]
def pPr_l31333_s0 (v : pPr_l31333_T) : Bool := decide (pPr_l31333_T.a4 v < pPr_l31333_T.a3 v)
def pPr_l31333_s1 (v : pPr_l31333_T) : List (List Int) := [] ++ pPr_l31333_T.a5 v
def pPr_l31333_s2 (v : pPr_l31333_T) : Bool := decide (pPr_l31333_T.a1 v < (0 : Int))
def pPr_l31333_s3 (v : pPr_l31333_T) : Bool := pCh_0 (pPr_l31333_T.a0 v) (pPr_l31333_T.a5 v) != (0 : Int)
def pPr_l31333_s4 (v : pPr_l31333_T) : List (List Int) := List.set (pPr_l31333_s1 v) (Int.toNat (pPr_l31333_T.a4 v)) [(1 : Int), (0 : Int), (0 : Int), (0 : Int), (0 : Int)]
def pPr_l31333_s5 (v : pPr_l31333_T) : Bool := pCh_0 (pPr_l31333_T.a0 v) (pPr_l31333_s4 v) == (0 : Int)
def pPr_l31333_s6 (v : pPr_l31333_T) : Bool := rget (pPr_l31333_T.a5 v) (Int.toNat (pPr_l31333_T.a4 v)) (0 : Nat) == (12 : Int)
def pPr_l31333_s7 (v : pPr_l31333_T) : Bool := rget (pPr_l31333_T.a5 v) (Int.toNat (pPr_l31333_T.a4 v)) (0 : Nat) == (11 : Int)
def pPr_l31333_st (v : pPr_l31333_T) : List Prop × List (X × Bool × pPr_l31333_T) := ([pPr_l31333_s0 v = true → List.length (pPr_l31333_s1 v) * (6 : Nat) ≤ (70368744177664 : Nat), pPr_l31333_s0 v = true → (0 : Int) ≤ pPr_l31333_T.a4 v ∧ pPr_l31333_T.a4 v < Int.ofNat (List.length (pPr_l31333_s1 v)), pPr_l31333_s0 v = true → pPr_l31333_s2 v = true → (!pCh_s0 (pPr_l31333_T.a5 v)) = true → lok pCh_l29_st (18446744073709551616 : Nat) (pCh_l29_T.mk (pPr_l31333_T.a0 v) (0 : Int) (Int.ofNat (List.length (pPr_l31333_T.a5 v))) (0 : Int) (pPr_l31333_T.a5 v)), pPr_l31333_s0 v = true → pPr_l31333_s2 v = true → (!pCh_s0 (pPr_l31333_T.a5 v)) = true → isX (X.e (0 : Nat)) (pCh_s1 (pPr_l31333_T.a0 v) (pPr_l31333_T.a5 v)) = true → lok pFu_l29_st (18446744073709551616 : Nat) (pFu_l29_T.mk (0 : Int) (Int.ofNat (List.length (pPr_l31333_T.a5 v))) (Int.ofNat (List.length (pPr_l31333_T.a5 v))) (0 : Int) (pPr_l31333_T.a5 v)), pPr_l31333_s0 v = true → pPr_l31333_s2 v = true → pPr_l31333_s3 v = true → (!pCh_s0 (pPr_l31333_s4 v)) = true → lok pCh_l29_st (18446744073709551616 : Nat) (pCh_l29_T.mk (pPr_l31333_T.a0 v) (0 : Int) (Int.ofNat (List.length (pPr_l31333_s4 v))) (0 : Int) (pPr_l31333_s4 v)), pPr_l31333_s0 v = true → pPr_l31333_s2 v = true → pPr_l31333_s3 v = true → (!pCh_s0 (pPr_l31333_s4 v)) = true → isX (X.e (0 : Nat)) (pCh_s1 (pPr_l31333_T.a0 v) (pPr_l31333_s4 v)) = true → lok pFu_l29_st (18446744073709551616 : Nat) (pFu_l29_T.mk (0 : Int) (Int.ofNat (List.length (pPr_l31333_s4 v))) (Int.ofNat (List.length (pPr_l31333_s4 v))) (0 : Int) (pPr_l31333_s4 v)), pPr_l31333_s0 v = true → pPr_l31333_s2 v = true → pPr_l31333_s3 v = true → pPr_l31333_s5 v = false → (0 : Int) ≤ pPr_l31333_T.a4 v ∧ pPr_l31333_T.a4 v < Int.ofNat (List.length (pPr_l31333_T.a5 v)), pPr_l31333_s0 v = true → pPr_l31333_s2 v = true → pPr_l31333_s3 v = true → pPr_l31333_s5 v = false → pPr_l31333_s6 v = false → (0 : Int) ≤ pPr_l31333_T.a4 v ∧ pPr_l31333_T.a4 v < Int.ofNat (List.length (pPr_l31333_T.a5 v)), pPr_l31333_s0 v = true → pPr_l31333_s2 v = true → pPr_l31333_s3 v = true → pPr_l31333_s5 v = false → pPr_l31333_s6 v = false → pPr_l31333_s7 v = false → (0 : Int) ≤ pPr_l31333_T.a4 v ∧ pPr_l31333_T.a4 v < Int.ofNat (List.length (pPr_l31333_T.a5 v))], [(X.e (4 : Nat), !pPr_l31333_s0 v, pPr_l31333_T.mk (pPr_l31333_T.a0 v) (pPr_l31333_T.a1 v) (pPr_l31333_T.a2 v) (pPr_l31333_T.a3 v) (pPr_l31333_T.a4 v) (pPr_l31333_T.a5 v)), (X.n, pPr_l31333_s0 v, pPr_l31333_T.mk (pPr_l31333_T.a0 v) (bif bif pPr_l31333_s2 v then bif pPr_l31333_s3 v then bif pPr_l31333_s5 v then true else bif pPr_l31333_s6 v then true else bif pPr_l31333_s7 v then true else bif rget (pPr_l31333_T.a5 v) (Int.toNat (pPr_l31333_T.a4 v)) (0 : Nat) == (13 : Int) then !pPr_l31333_T.a0 v else false else false else false then pPr_l31333_T.a4 v else pPr_l31333_T.a1 v) (pPr_l31333_T.a2 v) (pPr_l31333_T.a3 v) (IntKind.wrap IntKind.i64 (pPr_l31333_T.a4 v + (1 : Int))) (pPr_l31333_T.a5 v))])
def pPr_l31333_rd : HS → Option pPr_l31333_T := rdS [.b, .i, .i, .i, .i, .r] (fun l => pPr_l31333_T.mk (gB l 0) (gI l 1) (gI l 2) (gI l 3) (gI l 4) (gR l 5)) pPr_l31333_hd
def pPr_l31333_sum : V.Sum := loopS pPr_l31333_hd pPr_l31333_rd pPr_l31333_st 18446744073709551616 [X.e (4 : Nat)] [0, 1, 4, 5, 6, 7, 8, 9, 10, 11, 12, 13, 14, 15, 20, 53, 69, 70, 72, 73, 74, 124, 128] [1, 4, 5, 9, 69, 72, 73] [] [] [] 4
theorem pPr_l31333_E : ∀ v, bodyF Try.prog tabUc4 (ntOf Try.prog 81) [0, 1, 4, 5, 6, 7, 8, 9, 10, 11, 12, 13, 14, 15, 20, 53, 69, 70, 72, 73, 74, 124, 128] [1, 4, 5, 9, 69, 72, 73] [] 2000 [] [] pPr_l31333_code 125332 (pPr_l31333_hd v) = some ((pPr_l31333_st v).1, (pPr_l31333_st v).2.map fun q => (q.1, q.2.1, pPr_l31333_hd q.2.2)) := fun v => by kernel_rfl
theorem pPr_l31333_R : ∀ h v, pPr_l31333_rd h = some v → h = pPr_l31333_hd v := rdS_ok fun l => by kernel_rfl
set_option maxRecDepth 100000 in
theorem pPr_l31333_sok : SumOK Try.prog (ntOf Try.prog 81) [0, 1, 4, 5, 6, 7, 8, 9, 10, 11, 12, 13, 14, 15, 20, 53, 69, 70, 72, 73, 74, 124, 128] (.block (blockOf (subs (bodyOf Try.prog 81) 1 31333)) (.loop pPr_l31333_code)) pPr_l31333_sum := loopS_ok tabUc4_ok follows pPr_l31333_E pPr_l31333_R (fun v => by kernel_rfl) (LOK_of _ _ (LOK_nil'))
noncomputable def pPr_l61_code : Go.Code := loopOf (subs (bodyOf Try.prog 81) 1 61)
structure pPr_l61_T where
  a0 : Bool
  a1 : Int
  a2 : List (List Int)
  deriving Inhabited
def pPr_l61_hd (v : pPr_l61_T) : HS := HS.mk [(nat_lit 1, LV.a (At.bool true (pPr_l61_T.a0 v))), (nat_lit 4, LV.a At.nils), (nat_lit 5, LV.a (At.vec (nat_lit 0) (nat_lit 0) (nat_lit 5))), (nat_lit 69, LV.a (At.int true IntKind.i64 (pPr_l61_T.a1 v)))] [BC.mk (Hd.mk (nat_lit 0) (nat_lit 0) false (some (Rw.mk (nat_lit 0) [Kd.int IntKind.u8, Kd.int IntKind.u8, Kd.int IntKind.u8, Kd.int IntKind.u8, Kd.int IntKind.i16] (pPr_l61_T.a2 v) none))) []]
def pPr_l61_s0 (v : pPr_l61_T) : Bool := decide (pPr_l61_T.a1 v < (60 : Int))
def pPr_l61_s1 (v : pPr_l61_T) : Option (X × pPr_l31333_T) := lrun pPr_l31333_st (18446744073709551616 : Nat) (pPr_l31333_T.mk (pPr_l61_T.a0 v) (-1 : Int) (pPr_l61_T.a1 v) (Int.ofNat (List.length (pPr_l61_T.a2 v))) (0 : Int) (pPr_l61_T.a2 v))
def pPr_l61_s3 (v : pPr_l61_T) : Bool := decide (pPr_l31333_T.a1 (V.valOf (pPr_l61_s1 v)) < (0 : Int))
def pPr_l61_st (v : pPr_l61_T) : List Prop × List (X × Bool × pPr_l61_T) := ([pPr_l61_s0 v = true → lok pPr_l31333_st (18446744073709551616 : Nat) (pPr_l31333_T.mk (pPr_l61_T.a0 v) (-1 : Int) (pPr_l61_T.a1 v) (Int.ofNat (List.length (pPr_l61_T.a2 v))) (0 : Int) (pPr_l61_T.a2 v)), pPr_l61_s0 v = true → isX (X.e (4 : Nat)) (pPr_l61_s1 v) = true → (!pPr_l61_s3 v) = true → (0 : Int) ≤ pPr_l31333_T.a1 (V.valOf (pPr_l61_s1 v)) ∧ pPr_l31333_T.a1 (V.valOf (pPr_l61_s1 v)) < Int.ofNat (List.length (pPr_l61_T.a2 v))], [(X.e (2 : Nat), !pPr_l61_s0 v || pPr_l61_s0 v && (isX (X.e (4 : Nat)) (pPr_l61_s1 v) && pPr_l61_s3 v), pPr_l61_T.mk (bif !pPr_l61_s0 v then pPr_l61_T.a0 v else pPr_l31333_T.a0 (V.valOf (pPr_l61_s1 v))) (bif !pPr_l61_s0 v then pPr_l61_T.a1 v else pPr_l31333_T.a2 (V.valOf (pPr_l61_s1 v))) (pPr_l61_T.a2 v)), (X.n, pPr_l61_s0 v && (isX (X.e (4 : Nat)) (pPr_l61_s1 v) && !pPr_l61_s3 v), pPr_l61_T.mk (pPr_l31333_T.a0 (V.valOf (pPr_l61_s1 v))) (IntKind.wrap IntKind.i64 (pPr_l31333_T.a2 (V.valOf (pPr_l61_s1 v)) + (1 : Int))) (List.set (pPr_l61_T.a2 v) (Int.toNat (pPr_l31333_T.a1 (V.valOf (pPr_l61_s1 v)))) [(1 : Int), (0 : Int), (0 : Int), (0 : Int), (0 : Int)]))])
def pPr_l61_rd : HS → Option pPr_l61_T := rdS [.b, .i, .r] (fun l => pPr_l61_T.mk (gB l 0) (gI l 1) (gR l 2)) pPr_l61_hd
def pPr_l61_sum : V.Sum := loopS pPr_l61_hd pPr_l61_rd pPr_l61_st 18446744073709551616 [X.e (2 : Nat)] [0, 1, 4, 5, 6, 7, 8, 9, 10, 11, 12, 13, 14, 15, 20, 53, 69, 70, 72, 73, 74, 124, 128] [1, 4, 5, 69] [0] [] [] 2
theorem pPr_l61_E : ∀ v, bodyF Try.prog tabUc4 (ntOf Try.prog 81) [0, 1, 4, 5, 6, 7, 8, 9, 10, 11, 12, 13, 14, 15, 20, 53, 69, 70, 72, 73, 74, 124, 128] [1, 4, 5, 69] [(31333, pPr_l31333_sum)] 2000 [0] [] pPr_l61_code 244 (pPr_l61_hd v) = some ((pPr_l61_st v).1, (pPr_l61_st v).2.map fun q => (q.1, q.2.1, pPr_l61_hd q.2.2)) := fun v => by kernel_rfl
theorem pPr_l61_R : ∀ h v, pPr_l61_rd h = some v → h = pPr_l61_hd v := rdS_ok fun l => by kernel_rfl
set_option maxRecDepth 100000 in
theorem pPr_l61_sok : SumOK Try.prog (ntOf Try.prog 81) [0, 1, 4, 5, 6, 7, 8, 9, 10, 11, 12, 13, 14, 15, 20, 53, 69, 70, 72, 73, 74, 124, 128] (.block (blockOf (subs (bodyOf Try.prog 81) 1 61)) (.loop pPr_l61_code)) pPr_l61_sum := loopS_ok tabUc4_ok follows pPr_l61_E pPr_l61_R (fun v => by kernel_rfl) (LOK_of _ _ (LOK_cons (show subs pPr_l61_code 244 31333 = [.block (blockOf (subs (bodyOf Try.prog 81) 1 31333)) (.loop pPr_l31333_code)] from by kernel_rfl) pPr_l31333_sok (LOK_nil')))
def pPr_s0 (n0 : Nat) (x1 : Bool) (p : List (List Int)) : Option (X × pPr_l29_T) := lrun pPr_l29_st (18446744073709551616 : Nat) (pPr_l29_T.mk x1 n0 (Int.ofNat n0) (0 : Int) p [])
def pPr_0 (n0 : Nat) (x1 : Bool) (p : List (List Int)) : List (List Int) := pPr_l61_T.a2 (V.valOf (lrun pPr_l61_st (18446744073709551616 : Nat) (pPr_l61_T.mk (pPr_l29_T.a0 (V.valOf (pPr_s0 n0 x1 p))) (0 : Int) (pPr_l29_T.a5 (V.valOf (pPr_s0 n0 x1 p))))))
def pPr_o (n0 : Nat) (x1 r0 : Bool) (p : List (List Int)) : List Prop := [lok pPr_l29_st (18446744073709551616 : Nat) (pPr_l29_T.mk x1 n0 (Int.ofNat n0) (0 : Int) p []), isX (X.e (0 : Nat)) (pPr_s0 n0 x1 p) = true → lok pPr_l61_st (18446744073709551616 : Nat) (pPr_l61_T.mk (pPr_l29_T.a0 (V.valOf (pPr_s0 n0 x1 p))) (0 : Int) (pPr_l29_T.a5 (V.valOf (pPr_s0 n0 x1 p))))]
theorem pPr_p (n0 : Nat) (x1 r0 : Bool) (p : List (List Int)) : evG Try.prog tabUc4 2000 81 [0, 1, 4, 5, 6, 7, 8, 9, 10, 11, 12, 13, 14, 15, 20, 53, 69, 70, 72, 73, 74, 124, 128] [(61, pPr_l61_sum), (31333, pPr_l31333_sum), (29, pPr_l29_sum)] [] [.a (.slc true 0 0 0 6 0 n0), .a (.bool true x1)] [⟨⟨0, 0, r0, some ⟨0, [.int .u8, .int .u8, .int .u8, .int .u8, .int .i16, .bool], p, none⟩⟩, []⟩] = some (pPr_o n0 x1 r0 p, LV.a (At.vec (nat_lit 1) (nat_lit 1) (nat_lit 5)), [none, some (BC.mk (Hd.mk (nat_lit 1) (nat_lit 0) false (some (Rw.mk (nat_lit 0) [Kd.int IntKind.u8, Kd.int IntKind.u8, Kd.int IntKind.u8, Kd.int IntKind.u8, Kd.int IntKind.i16] (pPr_0 n0 x1 p) none))) [])]) := by kernel_rfl
def pPr_c : Con
  | [.a (.slc true 0 0 0 6 0 n0), .a (.bool true x1)], [⟨⟨0, 0, r0, some ⟨0, [.int .u8, .int .u8, .int .u8, .int .u8, .int .i16, .bool], p, none⟩⟩, []⟩] => some (pPr_o n0 x1 r0 p, LV.a (At.vec (nat_lit 1) (nat_lit 1) (nat_lit 5)), [none, some (BC.mk (Hd.mk (nat_lit 1) (nat_lit 0) false (some (Rw.mk (nat_lit 0) [Kd.int IntKind.u8, Kd.int IntKind.u8, Kd.int IntKind.u8, Kd.int IntKind.u8, Kd.int IntKind.i16] (pPr_0 n0 x1 p) none))) [])])
  | _, _ => none
theorem pPr_ok : ConOK Try.prog 81 (normC pPr_c) := normC_ok (by
  intro args bs obs lv out h ho φ vs w may ha hM
  unfold pPr_c at h
  split at h
  · simp only [Option.some.injEq, Prod.mk.injEq] at h
    obtain ⟨rfl, rfl, rfl⟩ := h
    rename_i n0 x1 r0 p
    exact evG_okL' tabUc4_ok follows (LOK_cons (show subs (bodyOf Try.prog 81) 1 61 = [.block (blockOf (subs (bodyOf Try.prog 81) 1 61)) (.loop pPr_l61_code)] from by kernel_rfl) pPr_l61_sok (LOK_cons (show subs (bodyOf Try.prog 81) 1 31333 = [.block (blockOf (subs (bodyOf Try.prog 81) 1 31333)) (.loop pPr_l31333_code)] from by kernel_rfl) pPr_l31333_sok (LOK_cons (show subs (bodyOf Try.prog 81) 1 29 = [.block (blockOf (subs (bodyOf Try.prog 81) 1 29)) (.loop pPr_l29_code)] from by kernel_rfl) pPr_l29_sok (LOK_nil')))) _ _ _ _ _ (pPr_p n0 x1 r0 p) ho φ vs w may ha hM
  · cases h)
theorem pPr_en : Enters Try.prog 81 := fun args => by kernel_rfl
-- 9683 155 8 ms

/-! azulejo/azulejolaw08.Regs -/
def vRg_s0 (n0 : Nat) : Bool := decide ((0 : Int) < Int.ofNat n0)
def vRg_0 (n0 : Nat) (p : List (List Int)) : Int := bif vRg_s0 n0 then IntKind.wrap IntKind.i64 (rget p (0 : Nat) (0 : Nat)) else (0 : Int)
def vRg_s1 : Int := IntKind.wrap IntKind.i64 ((4 : Int) * (0 : Int))
def vRg_s2 : Int := IntKind.wrap IntKind.i64 ((0 : Int) + (1 : Int))
def vRg_s3 (n0 : Nat) : Int := Int.tmod (IntKind.wrap IntKind.i64 (vRg_s1 + vRg_s2)) (Int.ofNat n0)
def vRg_1 (n0 : Nat) (p : List (List Int)) : Int := bif vRg_s0 n0 then IntKind.wrap IntKind.i64 (rget p ((0 : Nat) + Int.toNat (vRg_s3 n0)) (0 : Nat)) else (0 : Int)
def vRg_s4 : Int := IntKind.wrap IntKind.i64 (vRg_s2 + (1 : Int))
def vRg_s5 (n0 : Nat) : Int := Int.tmod (IntKind.wrap IntKind.i64 (vRg_s1 + vRg_s4)) (Int.ofNat n0)
def vRg_2 (n0 : Nat) (p : List (List Int)) : Int := bif vRg_s0 n0 then IntKind.wrap IntKind.i64 (rget p ((0 : Nat) + Int.toNat (vRg_s5 n0)) (0 : Nat)) else (0 : Int)
def vRg_s6 : Int := IntKind.wrap IntKind.i64 (vRg_s4 + (1 : Int))
def vRg_s7 (n0 : Nat) : Int := Int.tmod (IntKind.wrap IntKind.i64 (vRg_s1 + vRg_s6)) (Int.ofNat n0)
def vRg_3 (n0 : Nat) (p : List (List Int)) : Int := bif vRg_s0 n0 then IntKind.wrap IntKind.i64 (rget p ((0 : Nat) + Int.toNat (vRg_s7 n0)) (0 : Nat)) else (0 : Int)
def vRg_s8 : Int := IntKind.wrap IntKind.i64 ((4 : Int) * vRg_s2)
def vRg_s9 (n0 : Nat) : Int := Int.tmod (IntKind.wrap IntKind.i64 (vRg_s8 + (0 : Int))) (Int.ofNat n0)
def vRg_4 (n0 : Nat) (p : List (List Int)) : Int := bif vRg_s0 n0 then IntKind.wrap IntKind.i64 (rget p ((0 : Nat) + Int.toNat (vRg_s9 n0)) (0 : Nat)) else (0 : Int)
def vRg_s10 (n0 : Nat) : Int := Int.tmod (IntKind.wrap IntKind.i64 (vRg_s8 + vRg_s2)) (Int.ofNat n0)
def vRg_5 (n0 : Nat) (p : List (List Int)) : Int := bif vRg_s0 n0 then IntKind.wrap IntKind.i64 (rget p ((0 : Nat) + Int.toNat (vRg_s10 n0)) (0 : Nat)) else (0 : Int)
def vRg_s11 (n0 : Nat) : Int := Int.tmod (IntKind.wrap IntKind.i64 (vRg_s8 + vRg_s4)) (Int.ofNat n0)
def vRg_6 (n0 : Nat) (p : List (List Int)) : Int := bif vRg_s0 n0 then IntKind.wrap IntKind.i64 (rget p ((0 : Nat) + Int.toNat (vRg_s11 n0)) (0 : Nat)) else (0 : Int)
def vRg_s12 (n0 : Nat) : Int := Int.tmod (IntKind.wrap IntKind.i64 (vRg_s8 + vRg_s6)) (Int.ofNat n0)
def vRg_7 (n0 : Nat) (p : List (List Int)) : Int := bif vRg_s0 n0 then IntKind.wrap IntKind.i64 (rget p ((0 : Nat) + Int.toNat (vRg_s12 n0)) (0 : Nat)) else (0 : Int)
def vRg_s13 : Int := IntKind.wrap IntKind.i64 ((4 : Int) * vRg_s4)
def vRg_s14 (n0 : Nat) : Int := Int.tmod (IntKind.wrap IntKind.i64 (vRg_s13 + (0 : Int))) (Int.ofNat n0)
def vRg_8 (n0 : Nat) (p : List (List Int)) : Int := bif vRg_s0 n0 then IntKind.wrap IntKind.i64 (rget p ((0 : Nat) + Int.toNat (vRg_s14 n0)) (0 : Nat)) else (0 : Int)
def vRg_s15 (n0 : Nat) : Int := Int.tmod (IntKind.wrap IntKind.i64 (vRg_s13 + vRg_s2)) (Int.ofNat n0)
def vRg_9 (n0 : Nat) (p : List (List Int)) : Int := bif vRg_s0 n0 then IntKind.wrap IntKind.i64 (rget p ((0 : Nat) + Int.toNat (vRg_s15 n0)) (0 : Nat)) else (0 : Int)
def vRg_s16 (n0 : Nat) : Int := Int.tmod (IntKind.wrap IntKind.i64 (vRg_s13 + vRg_s4)) (Int.ofNat n0)
def vRg_10 (n0 : Nat) (p : List (List Int)) : Int := bif vRg_s0 n0 then IntKind.wrap IntKind.i64 (rget p ((0 : Nat) + Int.toNat (vRg_s16 n0)) (0 : Nat)) else (0 : Int)
def vRg_s17 (n0 : Nat) : Int := Int.tmod (IntKind.wrap IntKind.i64 (vRg_s13 + vRg_s6)) (Int.ofNat n0)
def vRg_11 (n0 : Nat) (p : List (List Int)) : Int := bif vRg_s0 n0 then IntKind.wrap IntKind.i64 (rget p ((0 : Nat) + Int.toNat (vRg_s17 n0)) (0 : Nat)) else (0 : Int)
def vRg_s18 : Int := IntKind.wrap IntKind.i64 ((4 : Int) * vRg_s6)
def vRg_s19 (n0 : Nat) : Int := Int.tmod (IntKind.wrap IntKind.i64 (vRg_s18 + (0 : Int))) (Int.ofNat n0)
def vRg_12 (n0 : Nat) (p : List (List Int)) : Int := bif vRg_s0 n0 then IntKind.wrap IntKind.i64 (rget p ((0 : Nat) + Int.toNat (vRg_s19 n0)) (0 : Nat)) else (0 : Int)
def vRg_s20 (n0 : Nat) : Int := Int.tmod (IntKind.wrap IntKind.i64 (vRg_s18 + vRg_s2)) (Int.ofNat n0)
def vRg_13 (n0 : Nat) (p : List (List Int)) : Int := bif vRg_s0 n0 then IntKind.wrap IntKind.i64 (rget p ((0 : Nat) + Int.toNat (vRg_s20 n0)) (0 : Nat)) else (0 : Int)
def vRg_s21 (n0 : Nat) : Int := Int.tmod (IntKind.wrap IntKind.i64 (vRg_s18 + vRg_s4)) (Int.ofNat n0)
def vRg_14 (n0 : Nat) (p : List (List Int)) : Int := bif vRg_s0 n0 then IntKind.wrap IntKind.i64 (rget p ((0 : Nat) + Int.toNat (vRg_s21 n0)) (0 : Nat)) else (0 : Int)
def vRg_s22 (n0 : Nat) : Int := Int.tmod (IntKind.wrap IntKind.i64 (vRg_s18 + vRg_s6)) (Int.ofNat n0)
def vRg_15 (n0 : Nat) (p : List (List Int)) : Int := bif vRg_s0 n0 then IntKind.wrap IntKind.i64 (rget p ((0 : Nat) + Int.toNat (vRg_s22 n0)) (0 : Nat)) else (0 : Int)
def vRg_s23 : Int := IntKind.wrap IntKind.i64 (vRg_s6 + (1 : Int))
def vRg_s24 : Int := IntKind.wrap IntKind.i64 ((4 : Int) * vRg_s23)
def vRg_s25 (n0 : Nat) : Int := Int.tmod (IntKind.wrap IntKind.i64 (vRg_s24 + (0 : Int))) (Int.ofNat n0)
def vRg_16 (n0 : Nat) (p : List (List Int)) : Int := bif vRg_s0 n0 then IntKind.wrap IntKind.i64 (rget p ((0 : Nat) + Int.toNat (vRg_s25 n0)) (0 : Nat)) else (0 : Int)
def vRg_s26 (n0 : Nat) : Int := Int.tmod (IntKind.wrap IntKind.i64 (vRg_s24 + vRg_s2)) (Int.ofNat n0)
def vRg_17 (n0 : Nat) (p : List (List Int)) : Int := bif vRg_s0 n0 then IntKind.wrap IntKind.i64 (rget p ((0 : Nat) + Int.toNat (vRg_s26 n0)) (0 : Nat)) else (0 : Int)
def vRg_s27 (n0 : Nat) : Int := Int.tmod (IntKind.wrap IntKind.i64 (vRg_s24 + vRg_s4)) (Int.ofNat n0)
def vRg_18 (n0 : Nat) (p : List (List Int)) : Int := bif vRg_s0 n0 then IntKind.wrap IntKind.i64 (rget p ((0 : Nat) + Int.toNat (vRg_s27 n0)) (0 : Nat)) else (0 : Int)
def vRg_s28 (n0 : Nat) : Int := Int.tmod (IntKind.wrap IntKind.i64 (vRg_s24 + vRg_s6)) (Int.ofNat n0)
def vRg_19 (n0 : Nat) (p : List (List Int)) : Int := bif vRg_s0 n0 then IntKind.wrap IntKind.i64 (rget p ((0 : Nat) + Int.toNat (vRg_s28 n0)) (0 : Nat)) else (0 : Int)
def vRg_s29 : Int := IntKind.wrap IntKind.i64 (vRg_s23 + (1 : Int))
def vRg_s30 : Int := IntKind.wrap IntKind.i64 ((4 : Int) * vRg_s29)
def vRg_s31 (n0 : Nat) : Int := Int.tmod (IntKind.wrap IntKind.i64 (vRg_s30 + (0 : Int))) (Int.ofNat n0)
def vRg_20 (n0 : Nat) (p : List (List Int)) : Int := bif vRg_s0 n0 then IntKind.wrap IntKind.i64 (rget p ((0 : Nat) + Int.toNat (vRg_s31 n0)) (0 : Nat)) else (0 : Int)
def vRg_s32 (n0 : Nat) : Int := Int.tmod (IntKind.wrap IntKind.i64 (vRg_s30 + vRg_s2)) (Int.ofNat n0)
def vRg_21 (n0 : Nat) (p : List (List Int)) : Int := bif vRg_s0 n0 then IntKind.wrap IntKind.i64 (rget p ((0 : Nat) + Int.toNat (vRg_s32 n0)) (0 : Nat)) else (0 : Int)
def vRg_s33 (n0 : Nat) : Int := Int.tmod (IntKind.wrap IntKind.i64 (vRg_s30 + vRg_s4)) (Int.ofNat n0)
def vRg_22 (n0 : Nat) (p : List (List Int)) : Int := bif vRg_s0 n0 then IntKind.wrap IntKind.i64 (rget p ((0 : Nat) + Int.toNat (vRg_s33 n0)) (0 : Nat)) else (0 : Int)
def vRg_s34 (n0 : Nat) : Int := Int.tmod (IntKind.wrap IntKind.i64 (vRg_s30 + vRg_s6)) (Int.ofNat n0)
def vRg_23 (n0 : Nat) (p : List (List Int)) : Int := bif vRg_s0 n0 then IntKind.wrap IntKind.i64 (rget p ((0 : Nat) + Int.toNat (vRg_s34 n0)) (0 : Nat)) else (0 : Int)
def vRg_s35 : Int := IntKind.wrap IntKind.i64 (vRg_s29 + (1 : Int))
def vRg_s36 : Int := IntKind.wrap IntKind.i64 ((4 : Int) * vRg_s35)
def vRg_s37 (n0 : Nat) : Int := Int.tmod (IntKind.wrap IntKind.i64 (vRg_s36 + (0 : Int))) (Int.ofNat n0)
def vRg_24 (n0 : Nat) (p : List (List Int)) : Int := bif vRg_s0 n0 then IntKind.wrap IntKind.i64 (rget p ((0 : Nat) + Int.toNat (vRg_s37 n0)) (0 : Nat)) else (0 : Int)
def vRg_s38 (n0 : Nat) : Int := Int.tmod (IntKind.wrap IntKind.i64 (vRg_s36 + vRg_s2)) (Int.ofNat n0)
def vRg_25 (n0 : Nat) (p : List (List Int)) : Int := bif vRg_s0 n0 then IntKind.wrap IntKind.i64 (rget p ((0 : Nat) + Int.toNat (vRg_s38 n0)) (0 : Nat)) else (0 : Int)
def vRg_s39 (n0 : Nat) : Int := Int.tmod (IntKind.wrap IntKind.i64 (vRg_s36 + vRg_s4)) (Int.ofNat n0)
def vRg_26 (n0 : Nat) (p : List (List Int)) : Int := bif vRg_s0 n0 then IntKind.wrap IntKind.i64 (rget p ((0 : Nat) + Int.toNat (vRg_s39 n0)) (0 : Nat)) else (0 : Int)
def vRg_s40 (n0 : Nat) : Int := Int.tmod (IntKind.wrap IntKind.i64 (vRg_s36 + vRg_s6)) (Int.ofNat n0)
def vRg_27 (n0 : Nat) (p : List (List Int)) : Int := bif vRg_s0 n0 then IntKind.wrap IntKind.i64 (rget p ((0 : Nat) + Int.toNat (vRg_s40 n0)) (0 : Nat)) else (0 : Int)
def vRg_s41 : Int := IntKind.wrap IntKind.i64 (vRg_s35 + (1 : Int))
def vRg_s42 : Int := IntKind.wrap IntKind.i64 ((4 : Int) * vRg_s41)
def vRg_s43 (n0 : Nat) : Int := Int.tmod (IntKind.wrap IntKind.i64 (vRg_s42 + (0 : Int))) (Int.ofNat n0)
def vRg_28 (n0 : Nat) (p : List (List Int)) : Int := bif vRg_s0 n0 then IntKind.wrap IntKind.i64 (rget p ((0 : Nat) + Int.toNat (vRg_s43 n0)) (0 : Nat)) else (0 : Int)
def vRg_s44 (n0 : Nat) : Int := Int.tmod (IntKind.wrap IntKind.i64 (vRg_s42 + vRg_s2)) (Int.ofNat n0)
def vRg_29 (n0 : Nat) (p : List (List Int)) : Int := bif vRg_s0 n0 then IntKind.wrap IntKind.i64 (rget p ((0 : Nat) + Int.toNat (vRg_s44 n0)) (0 : Nat)) else (0 : Int)
def vRg_s45 (n0 : Nat) : Int := Int.tmod (IntKind.wrap IntKind.i64 (vRg_s42 + vRg_s4)) (Int.ofNat n0)
def vRg_30 (n0 : Nat) (p : List (List Int)) : Int := bif vRg_s0 n0 then IntKind.wrap IntKind.i64 (rget p ((0 : Nat) + Int.toNat (vRg_s45 n0)) (0 : Nat)) else (0 : Int)
def vRg_s46 (n0 : Nat) : Int := Int.tmod (IntKind.wrap IntKind.i64 (vRg_s42 + vRg_s6)) (Int.ofNat n0)
def vRg_31 (n0 : Nat) (p : List (List Int)) : Int := bif vRg_s0 n0 then IntKind.wrap IntKind.i64 (rget p ((0 : Nat) + Int.toNat (vRg_s46 n0)) (0 : Nat)) else (0 : Int)
def vRg_s47 : Int := IntKind.wrap IntKind.i64 (vRg_s41 + (1 : Int))
def vRg_s48 : Int := IntKind.wrap IntKind.i64 ((4 : Int) * vRg_s47)
def vRg_s49 (n0 : Nat) : Int := Int.tmod (IntKind.wrap IntKind.i64 (vRg_s48 + (0 : Int))) (Int.ofNat n0)
def vRg_32 (n0 : Nat) (p : List (List Int)) : Int := bif vRg_s0 n0 then IntKind.wrap IntKind.i64 (rget p ((0 : Nat) + Int.toNat (vRg_s49 n0)) (0 : Nat)) else (0 : Int)
def vRg_s50 (n0 : Nat) : Int := Int.tmod (IntKind.wrap IntKind.i64 (vRg_s48 + vRg_s2)) (Int.ofNat n0)
def vRg_33 (n0 : Nat) (p : List (List Int)) : Int := bif vRg_s0 n0 then IntKind.wrap IntKind.i64 (rget p ((0 : Nat) + Int.toNat (vRg_s50 n0)) (0 : Nat)) else (0 : Int)
def vRg_s51 (n0 : Nat) : Int := Int.tmod (IntKind.wrap IntKind.i64 (vRg_s48 + vRg_s4)) (Int.ofNat n0)
def vRg_34 (n0 : Nat) (p : List (List Int)) : Int := bif vRg_s0 n0 then IntKind.wrap IntKind.i64 (rget p ((0 : Nat) + Int.toNat (vRg_s51 n0)) (0 : Nat)) else (0 : Int)
def vRg_s52 (n0 : Nat) : Int := Int.tmod (IntKind.wrap IntKind.i64 (vRg_s48 + vRg_s6)) (Int.ofNat n0)
def vRg_35 (n0 : Nat) (p : List (List Int)) : Int := bif vRg_s0 n0 then IntKind.wrap IntKind.i64 (rget p ((0 : Nat) + Int.toNat (vRg_s52 n0)) (0 : Nat)) else (0 : Int)
def vRg_s53 : Int := IntKind.wrap IntKind.i64 (vRg_s47 + (1 : Int))
def vRg_s54 : Int := IntKind.wrap IntKind.i64 ((4 : Int) * vRg_s53)
def vRg_s55 (n0 : Nat) : Int := Int.tmod (IntKind.wrap IntKind.i64 (vRg_s54 + (0 : Int))) (Int.ofNat n0)
def vRg_36 (n0 : Nat) (p : List (List Int)) : Int := bif vRg_s0 n0 then IntKind.wrap IntKind.i64 (rget p ((0 : Nat) + Int.toNat (vRg_s55 n0)) (0 : Nat)) else (0 : Int)
def vRg_s56 (n0 : Nat) : Int := Int.tmod (IntKind.wrap IntKind.i64 (vRg_s54 + vRg_s2)) (Int.ofNat n0)
def vRg_37 (n0 : Nat) (p : List (List Int)) : Int := bif vRg_s0 n0 then IntKind.wrap IntKind.i64 (rget p ((0 : Nat) + Int.toNat (vRg_s56 n0)) (0 : Nat)) else (0 : Int)
def vRg_s57 (n0 : Nat) : Int := Int.tmod (IntKind.wrap IntKind.i64 (vRg_s54 + vRg_s4)) (Int.ofNat n0)
def vRg_38 (n0 : Nat) (p : List (List Int)) : Int := bif vRg_s0 n0 then IntKind.wrap IntKind.i64 (rget p ((0 : Nat) + Int.toNat (vRg_s57 n0)) (0 : Nat)) else (0 : Int)
def vRg_s58 (n0 : Nat) : Int := Int.tmod (IntKind.wrap IntKind.i64 (vRg_s54 + vRg_s6)) (Int.ofNat n0)
def vRg_39 (n0 : Nat) (p : List (List Int)) : Int := bif vRg_s0 n0 then IntKind.wrap IntKind.i64 (rget p ((0 : Nat) + Int.toNat (vRg_s58 n0)) (0 : Nat)) else (0 : Int)
def vRg_s59 : Int := IntKind.wrap IntKind.i64 (vRg_s53 + (1 : Int))
def vRg_s60 : Int := IntKind.wrap IntKind.i64 ((4 : Int) * vRg_s59)
def vRg_s61 (n0 : Nat) : Int := Int.tmod (IntKind.wrap IntKind.i64 (vRg_s60 + (0 : Int))) (Int.ofNat n0)
def vRg_40 (n0 : Nat) (p : List (List Int)) : Int := bif vRg_s0 n0 then IntKind.wrap IntKind.i64 (rget p ((0 : Nat) + Int.toNat (vRg_s61 n0)) (0 : Nat)) else (0 : Int)
def vRg_s62 (n0 : Nat) : Int := Int.tmod (IntKind.wrap IntKind.i64 (vRg_s60 + vRg_s2)) (Int.ofNat n0)
def vRg_41 (n0 : Nat) (p : List (List Int)) : Int := bif vRg_s0 n0 then IntKind.wrap IntKind.i64 (rget p ((0 : Nat) + Int.toNat (vRg_s62 n0)) (0 : Nat)) else (0 : Int)
def vRg_s63 (n0 : Nat) : Int := Int.tmod (IntKind.wrap IntKind.i64 (vRg_s60 + vRg_s4)) (Int.ofNat n0)
def vRg_42 (n0 : Nat) (p : List (List Int)) : Int := bif vRg_s0 n0 then IntKind.wrap IntKind.i64 (rget p ((0 : Nat) + Int.toNat (vRg_s63 n0)) (0 : Nat)) else (0 : Int)
def vRg_s64 (n0 : Nat) : Int := Int.tmod (IntKind.wrap IntKind.i64 (vRg_s60 + vRg_s6)) (Int.ofNat n0)
def vRg_43 (n0 : Nat) (p : List (List Int)) : Int := bif vRg_s0 n0 then IntKind.wrap IntKind.i64 (rget p ((0 : Nat) + Int.toNat (vRg_s64 n0)) (0 : Nat)) else (0 : Int)
def vRg_s65 (x1_0 x1_1 x1_2 x1_3 : Int) : List (List Int) := [[x1_0], [x1_1], [x1_2], [x1_3]]
def vRg_44 (x1_0 x1_1 x1_2 x1_3 : Int) : Int := rget (vRg_s65 x1_0 x1_1 x1_2 x1_3) (0 : Nat) (0 : Nat)
def vRg_45 (x1_0 x1_1 x1_2 x1_3 : Int) : Int := rget (vRg_s65 x1_0 x1_1 x1_2 x1_3) (1 : Nat) (0 : Nat)
def vRg_46 (x1_0 x1_1 x1_2 x1_3 : Int) : Int := rget (vRg_s65 x1_0 x1_1 x1_2 x1_3) (2 : Nat) (0 : Nat)
def vRg_47 (x1_0 x1_1 x1_2 x1_3 : Int) : Int := rget (vRg_s65 x1_0 x1_1 x1_2 x1_3) (3 : Nat) (0 : Nat)
def vRg_s66 (n0 : Nat) : Int := Int.tmod (IntKind.wrap IntKind.i64 (vRg_s1 + (0 : Int))) (Int.ofNat n0)
def vRg_s67 : Int := IntKind.wrap IntKind.i64 ((4 : Int) * IntKind.wrap IntKind.i64 (vRg_s59 + (1 : Int)))
def vRg_s68 (n0 : Nat) : Int := Int.tmod (IntKind.wrap IntKind.i64 (vRg_s67 + (0 : Int))) (Int.ofNat n0)
def vRg_s69 (n0 : Nat) : Int := Int.tmod (IntKind.wrap IntKind.i64 (vRg_s67 + vRg_s2)) (Int.ofNat n0)
def vRg_s70 (n0 : Nat) : Int := Int.tmod (IntKind.wrap IntKind.i64 (vRg_s67 + vRg_s4)) (Int.ofNat n0)
def vRg_s71 (n0 : Nat) : Int := Int.tmod (IntKind.wrap IntKind.i64 (vRg_s67 + vRg_s6)) (Int.ofNat n0)
def vRg_o (n0 : Nat) (x1_0 x1_1 x1_2 x1_3 : Int) (r0 : Bool) (p : List (List Int)) : List Prop := [vRg_s0 n0 = true → Int.ofNat n0 ≠ (0 : Int), vRg_s0 n0 = true → (0 : Int) ≤ vRg_s66 n0 ∧ vRg_s66 n0 < Int.ofNat n0, vRg_s0 n0 = true → Int.ofNat n0 ≠ (0 : Int), vRg_s0 n0 = true → (0 : Int) ≤ vRg_s3 n0 ∧ vRg_s3 n0 < Int.ofNat n0, vRg_s0 n0 = true → Int.ofNat n0 ≠ (0 : Int), vRg_s0 n0 = true → (0 : Int) ≤ vRg_s5 n0 ∧ vRg_s5 n0 < Int.ofNat n0, vRg_s0 n0 = true → Int.ofNat n0 ≠ (0 : Int), vRg_s0 n0 = true → (0 : Int) ≤ vRg_s7 n0 ∧ vRg_s7 n0 < Int.ofNat n0, vRg_s0 n0 = true → Int.ofNat n0 ≠ (0 : Int), vRg_s0 n0 = true → (0 : Int) ≤ vRg_s9 n0 ∧ vRg_s9 n0 < Int.ofNat n0, vRg_s0 n0 = true → Int.ofNat n0 ≠ (0 : Int), vRg_s0 n0 = true → (0 : Int) ≤ vRg_s10 n0 ∧ vRg_s10 n0 < Int.ofNat n0, vRg_s0 n0 = true → Int.ofNat n0 ≠ (0 : Int), vRg_s0 n0 = true → (0 : Int) ≤ vRg_s11 n0 ∧ vRg_s11 n0 < Int.ofNat n0, vRg_s0 n0 = true → Int.ofNat n0 ≠ (0 : Int), vRg_s0 n0 = true → (0 : Int) ≤ vRg_s12 n0 ∧ vRg_s12 n0 < Int.ofNat n0, vRg_s0 n0 = true → Int.ofNat n0 ≠ (0 : Int), vRg_s0 n0 = true → (0 : Int) ≤ vRg_s14 n0 ∧ vRg_s14 n0 < Int.ofNat n0, vRg_s0 n0 = true → Int.ofNat n0 ≠ (0 : Int), vRg_s0 n0 = true → (0 : Int) ≤ vRg_s15 n0 ∧ vRg_s15 n0 < Int.ofNat n0, vRg_s0 n0 = true → Int.ofNat n0 ≠ (0 : Int), vRg_s0 n0 = true → (0 : Int) ≤ vRg_s16 n0 ∧ vRg_s16 n0 < Int.ofNat n0, vRg_s0 n0 = true → Int.ofNat n0 ≠ (0 : Int), vRg_s0 n0 = true → (0 : Int) ≤ vRg_s17 n0 ∧ vRg_s17 n0 < Int.ofNat n0, vRg_s0 n0 = true → Int.ofNat n0 ≠ (0 : Int), vRg_s0 n0 = true → (0 : Int) ≤ vRg_s19 n0 ∧ vRg_s19 n0 < Int.ofNat n0, vRg_s0 n0 = true → Int.ofNat n0 ≠ (0 : Int), vRg_s0 n0 = true → (0 : Int) ≤ vRg_s20 n0 ∧ vRg_s20 n0 < Int.ofNat n0, vRg_s0 n0 = true → Int.ofNat n0 ≠ (0 : Int), vRg_s0 n0 = true → (0 : Int) ≤ vRg_s21 n0 ∧ vRg_s21 n0 < Int.ofNat n0, vRg_s0 n0 = true → Int.ofNat n0 ≠ (0 : Int), vRg_s0 n0 = true → (0 : Int) ≤ vRg_s22 n0 ∧ vRg_s22 n0 < Int.ofNat n0, vRg_s0 n0 = true → Int.ofNat n0 ≠ (0 : Int), vRg_s0 n0 = true → (0 : Int) ≤ vRg_s25 n0 ∧ vRg_s25 n0 < Int.ofNat n0, vRg_s0 n0 = true → Int.ofNat n0 ≠ (0 : Int), vRg_s0 n0 = true → (0 : Int) ≤ vRg_s26 n0 ∧ vRg_s26 n0 < Int.ofNat n0, vRg_s0 n0 = true → Int.ofNat n0 ≠ (0 : Int), vRg_s0 n0 = true → (0 : Int) ≤ vRg_s27 n0 ∧ vRg_s27 n0 < Int.ofNat n0, vRg_s0 n0 = true → Int.ofNat n0 ≠ (0 : Int), vRg_s0 n0 = true → (0 : Int) ≤ vRg_s28 n0 ∧ vRg_s28 n0 < Int.ofNat n0, vRg_s0 n0 = true → Int.ofNat n0 ≠ (0 : Int), vRg_s0 n0 = true → (0 : Int) ≤ vRg_s31 n0 ∧ vRg_s31 n0 < Int.ofNat n0, vRg_s0 n0 = true → Int.ofNat n0 ≠ (0 : Int), vRg_s0 n0 = true → (0 : Int) ≤ vRg_s32 n0 ∧ vRg_s32 n0 < Int.ofNat n0, vRg_s0 n0 = true → Int.ofNat n0 ≠ (0 : Int), vRg_s0 n0 = true → (0 : Int) ≤ vRg_s33 n0 ∧ vRg_s33 n0 < Int.ofNat n0, vRg_s0 n0 = true → Int.ofNat n0 ≠ (0 : Int), vRg_s0 n0 = true → (0 : Int) ≤ vRg_s34 n0 ∧ vRg_s34 n0 < Int.ofNat n0, vRg_s0 n0 = true → Int.ofNat n0 ≠ (0 : Int), vRg_s0 n0 = true → (0 : Int) ≤ vRg_s37 n0 ∧ vRg_s37 n0 < Int.ofNat n0, vRg_s0 n0 = true → Int.ofNat n0 ≠ (0 : Int), vRg_s0 n0 = true → (0 : Int) ≤ vRg_s38 n0 ∧ vRg_s38 n0 < Int.ofNat n0, vRg_s0 n0 = true → Int.ofNat n0 ≠ (0 : Int), vRg_s0 n0 = true → (0 : Int) ≤ vRg_s39 n0 ∧ vRg_s39 n0 < Int.ofNat n0, vRg_s0 n0 = true → Int.ofNat n0 ≠ (0 : Int), vRg_s0 n0 = true → (0 : Int) ≤ vRg_s40 n0 ∧ vRg_s40 n0 < Int.ofNat n0, vRg_s0 n0 = true → Int.ofNat n0 ≠ (0 : Int), vRg_s0 n0 = true → (0 : Int) ≤ vRg_s43 n0 ∧ vRg_s43 n0 < Int.ofNat n0, vRg_s0 n0 = true → Int.ofNat n0 ≠ (0 : Int), vRg_s0 n0 = true → (0 : Int) ≤ vRg_s44 n0 ∧ vRg_s44 n0 < Int.ofNat n0, vRg_s0 n0 = true → Int.ofNat n0 ≠ (0 : Int), vRg_s0 n0 = true → (0 : Int) ≤ vRg_s45 n0 ∧ vRg_s45 n0 < Int.ofNat n0, vRg_s0 n0 = true → Int.ofNat n0 ≠ (0 : Int), vRg_s0 n0 = true → (0 : Int) ≤ vRg_s46 n0 ∧ vRg_s46 n0 < Int.ofNat n0, vRg_s0 n0 = true → Int.ofNat n0 ≠ (0 : Int), vRg_s0 n0 = true → (0 : Int) ≤ vRg_s49 n0 ∧ vRg_s49 n0 < Int.ofNat n0, vRg_s0 n0 = true → Int.ofNat n0 ≠ (0 : Int), vRg_s0 n0 = true → (0 : Int) ≤ vRg_s50 n0 ∧ vRg_s50 n0 < Int.ofNat n0, vRg_s0 n0 = true → Int.ofNat n0 ≠ (0 : Int), vRg_s0 n0 = true → (0 : Int) ≤ vRg_s51 n0 ∧ vRg_s51 n0 < Int.ofNat n0, vRg_s0 n0 = true → Int.ofNat n0 ≠ (0 : Int), vRg_s0 n0 = true → (0 : Int) ≤ vRg_s52 n0 ∧ vRg_s52 n0 < Int.ofNat n0, vRg_s0 n0 = true → Int.ofNat n0 ≠ (0 : Int), vRg_s0 n0 = true → (0 : Int) ≤ vRg_s55 n0 ∧ vRg_s55 n0 < Int.ofNat n0, vRg_s0 n0 = true → Int.ofNat n0 ≠ (0 : Int), vRg_s0 n0 = true → (0 : Int) ≤ vRg_s56 n0 ∧ vRg_s56 n0 < Int.ofNat n0, vRg_s0 n0 = true → Int.ofNat n0 ≠ (0 : Int), vRg_s0 n0 = true → (0 : Int) ≤ vRg_s57 n0 ∧ vRg_s57 n0 < Int.ofNat n0, vRg_s0 n0 = true → Int.ofNat n0 ≠ (0 : Int), vRg_s0 n0 = true → (0 : Int) ≤ vRg_s58 n0 ∧ vRg_s58 n0 < Int.ofNat n0, vRg_s0 n0 = true → Int.ofNat n0 ≠ (0 : Int), vRg_s0 n0 = true → (0 : Int) ≤ vRg_s61 n0 ∧ vRg_s61 n0 < Int.ofNat n0, vRg_s0 n0 = true → Int.ofNat n0 ≠ (0 : Int), vRg_s0 n0 = true → (0 : Int) ≤ vRg_s62 n0 ∧ vRg_s62 n0 < Int.ofNat n0, vRg_s0 n0 = true → Int.ofNat n0 ≠ (0 : Int), vRg_s0 n0 = true → (0 : Int) ≤ vRg_s63 n0 ∧ vRg_s63 n0 < Int.ofNat n0, vRg_s0 n0 = true → Int.ofNat n0 ≠ (0 : Int), vRg_s0 n0 = true → (0 : Int) ≤ vRg_s64 n0 ∧ vRg_s64 n0 < Int.ofNat n0, vRg_s0 n0 = true → Int.ofNat n0 ≠ (0 : Int), vRg_s0 n0 = true → (0 : Int) ≤ vRg_s68 n0 ∧ vRg_s68 n0 < Int.ofNat n0, vRg_s0 n0 = true → Int.ofNat n0 ≠ (0 : Int), vRg_s0 n0 = true → (0 : Int) ≤ vRg_s69 n0 ∧ vRg_s69 n0 < Int.ofNat n0, vRg_s0 n0 = true → Int.ofNat n0 ≠ (0 : Int), vRg_s0 n0 = true → (0 : Int) ≤ vRg_s70 n0 ∧ vRg_s70 n0 < Int.ofNat n0, vRg_s0 n0 = true → Int.ofNat n0 ≠ (0 : Int), vRg_s0 n0 = true → (0 : Int) ≤ vRg_s71 n0 ∧ vRg_s71 n0 < Int.ofNat n0]
theorem vRg_p (n0 : Nat) (x1_0 x1_1 x1_2 x1_3 : Int) (r0 : Bool) (p : List (List Int)) : evG Try.prog tabUc4 2000 82 [0, 1, 3, 4, 5, 6, 7, 8, 9, 10, 12, 13, 18] [] [] [.a (.slc true 0 0 0 1 0 n0), .g [.int true .i64 x1_0, .int true .i64 x1_1, .int true .i64 x1_2, .int true .i64 x1_3]] [⟨⟨0, 0, r0, some ⟨0, [.int .i32], p, none⟩⟩, []⟩] = some (vRg_o n0 x1_0 x1_1 x1_2 x1_3 r0 p, LV.g [At.int true IntKind.i64 (vRg_0 n0 p), At.int true IntKind.i64 (vRg_1 n0 p), At.int true IntKind.i64 (vRg_2 n0 p), At.int true IntKind.i64 (vRg_3 n0 p), At.int true IntKind.i64 (vRg_4 n0 p), At.int true IntKind.i64 (vRg_5 n0 p), At.int true IntKind.i64 (vRg_6 n0 p), At.int true IntKind.i64 (vRg_7 n0 p), At.int true IntKind.i64 (vRg_8 n0 p), At.int true IntKind.i64 (vRg_9 n0 p), At.int true IntKind.i64 (vRg_10 n0 p), At.int true IntKind.i64 (vRg_11 n0 p), At.int true IntKind.i64 (vRg_12 n0 p), At.int true IntKind.i64 (vRg_13 n0 p), At.int true IntKind.i64 (vRg_14 n0 p), At.int true IntKind.i64 (vRg_15 n0 p), At.int true IntKind.i64 (vRg_16 n0 p), At.int true IntKind.i64 (vRg_17 n0 p), At.int true IntKind.i64 (vRg_18 n0 p), At.int true IntKind.i64 (vRg_19 n0 p), At.int true IntKind.i64 (vRg_20 n0 p), At.int true IntKind.i64 (vRg_21 n0 p), At.int true IntKind.i64 (vRg_22 n0 p), At.int true IntKind.i64 (vRg_23 n0 p), At.int true IntKind.i64 (vRg_24 n0 p), At.int true IntKind.i64 (vRg_25 n0 p), At.int true IntKind.i64 (vRg_26 n0 p), At.int true IntKind.i64 (vRg_27 n0 p), At.int true IntKind.i64 (vRg_28 n0 p), At.int true IntKind.i64 (vRg_29 n0 p), At.int true IntKind.i64 (vRg_30 n0 p), At.int true IntKind.i64 (vRg_31 n0 p), At.int true IntKind.i64 (vRg_32 n0 p), At.int true IntKind.i64 (vRg_33 n0 p), At.int true IntKind.i64 (vRg_34 n0 p), At.int true IntKind.i64 (vRg_35 n0 p), At.int true IntKind.i64 (vRg_36 n0 p), At.int true IntKind.i64 (vRg_37 n0 p), At.int true IntKind.i64 (vRg_38 n0 p), At.int true IntKind.i64 (vRg_39 n0 p), At.int true IntKind.i64 (vRg_40 n0 p), At.int true IntKind.i64 (vRg_41 n0 p), At.int true IntKind.i64 (vRg_42 n0 p), At.int true IntKind.i64 (vRg_43 n0 p), At.int true IntKind.i64 (vRg_44 x1_0 x1_1 x1_2 x1_3), At.int true IntKind.i64 (vRg_45 x1_0 x1_1 x1_2 x1_3), At.int true IntKind.i64 (vRg_46 x1_0 x1_1 x1_2 x1_3), At.int true IntKind.i64 (vRg_47 x1_0 x1_1 x1_2 x1_3)], [none]) := by kernel_rfl
def vRg_c : Con
  | [.a (.slc true 0 0 0 1 0 n0), .g [.int true .i64 x1_0, .int true .i64 x1_1, .int true .i64 x1_2, .int true .i64 x1_3]], [⟨⟨0, 0, r0, some ⟨0, [.int .i32], p, none⟩⟩, []⟩] => some (vRg_o n0 x1_0 x1_1 x1_2 x1_3 r0 p, LV.g [At.int true IntKind.i64 (vRg_0 n0 p), At.int true IntKind.i64 (vRg_1 n0 p), At.int true IntKind.i64 (vRg_2 n0 p), At.int true IntKind.i64 (vRg_3 n0 p), At.int true IntKind.i64 (vRg_4 n0 p), At.int true IntKind.i64 (vRg_5 n0 p), At.int true IntKind.i64 (vRg_6 n0 p), At.int true IntKind.i64 (vRg_7 n0 p), At.int true IntKind.i64 (vRg_8 n0 p), At.int true IntKind.i64 (vRg_9 n0 p), At.int true IntKind.i64 (vRg_10 n0 p), At.int true IntKind.i64 (vRg_11 n0 p), At.int true IntKind.i64 (vRg_12 n0 p), At.int true IntKind.i64 (vRg_13 n0 p), At.int true IntKind.i64 (vRg_14 n0 p), At.int true IntKind.i64 (vRg_15 n0 p), At.int true IntKind.i64 (vRg_16 n0 p), At.int true IntKind.i64 (vRg_17 n0 p), At.int true IntKind.i64 (vRg_18 n0 p), At.int true IntKind.i64 (vRg_19 n0 p), At.int true IntKind.i64 (vRg_20 n0 p), At.int true IntKind.i64 (vRg_21 n0 p), At.int true IntKind.i64 (vRg_22 n0 p), At.int true IntKind.i64 (vRg_23 n0 p), At.int true IntKind.i64 (vRg_24 n0 p), At.int true IntKind.i64 (vRg_25 n0 p), At.int true IntKind.i64 (vRg_26 n0 p), At.int true IntKind.i64 (vRg_27 n0 p), At.int true IntKind.i64 (vRg_28 n0 p), At.int true IntKind.i64 (vRg_29 n0 p), At.int true IntKind.i64 (vRg_30 n0 p), At.int true IntKind.i64 (vRg_31 n0 p), At.int true IntKind.i64 (vRg_32 n0 p), At.int true IntKind.i64 (vRg_33 n0 p), At.int true IntKind.i64 (vRg_34 n0 p), At.int true IntKind.i64 (vRg_35 n0 p), At.int true IntKind.i64 (vRg_36 n0 p), At.int true IntKind.i64 (vRg_37 n0 p), At.int true IntKind.i64 (vRg_38 n0 p), At.int true IntKind.i64 (vRg_39 n0 p), At.int true IntKind.i64 (vRg_40 n0 p), At.int true IntKind.i64 (vRg_41 n0 p), At.int true IntKind.i64 (vRg_42 n0 p), At.int true IntKind.i64 (vRg_43 n0 p), At.int true IntKind.i64 (vRg_44 x1_0 x1_1 x1_2 x1_3), At.int true IntKind.i64 (vRg_45 x1_0 x1_1 x1_2 x1_3), At.int true IntKind.i64 (vRg_46 x1_0 x1_1 x1_2 x1_3), At.int true IntKind.i64 (vRg_47 x1_0 x1_1 x1_2 x1_3)], [none])
  | _, _ => none
theorem vRg_ok : ConOK Try.prog 82 (normC vRg_c) := normC_ok (by
  intro args bs obs lv out h ho φ vs w may ha hM
  unfold vRg_c at h
  split at h
  · simp only [Option.some.injEq, Prod.mk.injEq] at h
    obtain ⟨rfl, rfl, rfl⟩ := h
    rename_i n0 x1_0 x1_1 x1_2 x1_3 r0 p
    exact evG_ok tabUc4_ok follows _ _ _ _ _ (vRg_p n0 x1_0 x1_1 x1_2 x1_3 r0 p) ho φ vs w may ha hM
  · cases h)
theorem vRg_en : Enters Try.prog 82 := fun args => by kernel_rfl
-- 8512 38589 159 ms

def tabUc5 : Tab := (81, normC pPr_c) :: (82, normC vRg_c) :: tabUc4
theorem tabUc5_ok : TOK Try.prog tabUc5 := TOK.cons pPr_en pPr_ok (TOK.cons vRg_en vRg_ok (tabUc4_ok))

end Go.Proofs.Ytcdejlgophpdjaa
end

section
namespace Go.Proofs.Ytcdejlgophpdjaa
open Go Go.RowKit Go.Proofs.Ytcdejlgophpdjaa.V
set_option linter.unusedVariables false
set_option linter.unusedSectionVars false

namespace Vm

theorem getD_set (p : List (List Int)) (i k : Nat) (r : List Int) : (p.set i r).getD k [] = if i = k ∧ k < p.length then r else p.getD k [] := by
  rw [List.getD_eq_getElem?_getD, List.getElem?_set, List.getD_eq_getElem?_getD]
  by_cases h : i = k
  · subst h
    by_cases q : i < p.length
    · rw [if_pos rfl, if_pos q, if_pos ⟨rfl, q⟩]; rfl
    · rw [if_pos rfl, if_neg q, if_neg (fun c => q c.2), List.getElem?_eq_none (by omega)]
  · rw [if_neg h, if_neg (fun c => h c.1)]
theorem rget_set (p : List (List Int)) (i k j : Nat) (r : List Int) : rget (p.set i r) k j = if i = k ∧ k < p.length then r.getD j 0 else rget p k j := by
  unfold rget
  rw [getD_set]
  split <;> rfl
theorem rget_out {p : List (List Int)} {k : Nat} (h : p.length ≤ k) (j : Nat) : rget p k j = 0 := by
  unfold rget
  have : p.getD k [] = [] := by rw [List.getD_eq_getElem?_getD, List.getElem?_eq_none h]; rfl
  rw [this]; rfl
theorem getD_app (p : List (List Int)) (r : List Int) (k : Nat) : (p ++ [r]).getD k [] = if k < p.length then p.getD k [] else if k = p.length then r else [] := by
  rw [List.getD_eq_getElem?_getD, List.getD_eq_getElem?_getD]
  by_cases h : k < p.length
  · rw [if_pos h, List.getElem?_append_left h]
  · rw [if_neg h, List.getElem?_append_right (by omega)]
    by_cases q : k = p.length
    · subst q; rw [if_pos rfl, Nat.sub_self]; rfl
    · rw [if_neg q, List.getElem?_eq_none (by rw [List.length_singleton]; omega)]; rfl
theorem rget_app (p : List (List Int)) (r : List Int) (k j : Nat) : rget (p ++ [r]) k j = if k < p.length then rget p k j else if k = p.length then r.getD j 0 else 0 := by
  unfold rget
  rw [getD_app]
  split
  · rfl
  · split <;> rfl

/-- A program of small numbers. -/
structure Rf (p : List (List Int)) (i : Nat) : Prop where
  op : 0 ≤ rget p i 0 ∧ rget p i 0 < 15
  dst : 0 ≤ rget p i 1 ∧ rget p i 1 < 12
  a : 0 ≤ rget p i 2 ∧ rget p i 2 < 9
  b : 0 ≤ rget p i 3 ∧ rget p i 3 < 12
  m : -32768 ≤ rget p i 4 ∧ rget p i 4 ≤ 32767
structure Rp (p : List (List Int)) : Prop where
  len : p.length ≤ 20
  f : ∀ i, i < p.length → Rf p i
theorem Rp.pb {p : List (List Int)} (R : Rp p) : Pb p := by
  refine ⟨by have := R.len; omega, fun i j hj => ?_, fun i => ?_⟩
  · by_cases h : i < p.length
    · have f := R.f i h
      have := f.op; have := f.dst; have := f.a; have := f.b
      match j, hj with
      | 0, _ => omega
      | 1, _ => omega
      | 2, _ => omega
      | 3, _ => omega
    · rw [rget_out (by omega)]; omega
  · by_cases h : i < p.length
    · exact (R.f i h).m
    · rw [rget_out (by omega)]; omega
theorem Rp.set {p : List (List Int)} (R : Rp p) (i : Nat) : Rp (p.set i [1, 0, 0, 0, 0]) := by
  refine ⟨by rw [List.length_set]; exact R.len, fun k hk => ?_⟩
  rw [List.length_set] at hk
  have f := R.f k hk
  by_cases h : i = k ∧ k < p.length
  · refine ⟨?_, ?_, ?_, ?_, ?_⟩ <;> rw [rget_set, if_pos h] <;> decide
  · refine ⟨?_, ?_, ?_, ?_, ?_⟩ <;> rw [rget_set, if_neg h]
    · exact f.op
    · exact f.dst
    · exact f.a
    · exact f.b
    · exact f.m

/-- It may make a program one that may not be. -/
def isSp (d : Bool) (n : Int) : Bool := decide (n = 12) || (decide (n = 11) || (decide (n = 13) && !d))
def spl (d : Bool) : List (List Int) → Nat
  | [] => 0
  | r :: l => (bif isSp d (r.getD 0 0) then 1 else 0) + spl d l
theorem spl_le (d : Bool) : ∀ l, spl d l ≤ l.length
  | [] => Nat.le_refl _
  | r :: l => by
    have := spl_le d l
    unfold spl
    rw [List.length_cons]
    cases isSp d (r.getD 0 0) <;> simp only [cond_true, cond_false] <;> omega
theorem spl_set (d : Bool) {s : List Int} (hs : isSp d (s.getD 0 0) = false) : ∀ (l : List (List Int)) (i : Nat), i < l.length → isSp d (rget l i 0) = true → spl d (l.set i s) + 1 = spl d l
  | [], i, h, _ => by simp at h
  | r :: l, 0, _, h => by
    have h' : isSp d (r.getD 0 0) = true := h
    show (bif isSp d (s.getD 0 0) then 1 else 0) + spl d l + 1 = (bif isSp d (r.getD 0 0) then 1 else 0) + spl d l
    rw [hs, h']; simp only [cond_true, cond_false]; omega
  | r :: l, i + 1, hi, h => by
    have := spl_set d hs l i (by simp at hi; omega) h
    show (bif isSp d (r.getD 0 0) then 1 else 0) + spl d (l.set i s) + 1 = (bif isSp d (r.getD 0 0) then 1 else 0) + spl d l
    omega

theorem no_sp {d : Bool} {p : List (List Int)} (R : Rp p) (h : ∀ i, i < p.length → isSp d (rget p i 0) = false) : pCh_0 d p = 0 := by
  have hl := R.len
  refine (ch_spec R.pb d).2 ⟨by omega, fun i hi => ?_, ?_⟩
  · have f := R.f i hi
    have o := f.op; have a1 := f.dst; have a2 := f.a; have a3 := f.b
    have s := h i hi
    unfold isSp at s
    simp only [Bool.or_eq_false_iff, Bool.and_eq_false_iff, decide_eq_false_iff_not] at s
    obtain ⟨s1, s2, s3⟩ := s
    have h0 : pCk_s0 (rget p i 0) d = false := by
      unfold pCk_s0
      rw [decide_eq_false (by omega)]
      by_cases q : rget p i 0 = 13
      · rw [q]
        rcases s3 with s3 | s3
        · exact absurd q s3
        · exact s3
      · rw [show (rget p i 0 == 13) = false from beq_eq_false_iff_ne.2 q]; rfl
    have h1 : pCk_s1 (rget p i 0) (rget p i 2) = false := by
      unfold pCk_s1
      rw [decide_eq_false (by omega)]
      cases rget p i 0 == 14 <;> rfl
    have h2 : pCk_s2 (rget p i 0) (rget p i 1) (rget p i 2) (rget p i 3) = false := by
      unfold pCk_s2
      rw [h1, decide_eq_false (by omega), decide_eq_false (by omega), decide_eq_false (by omega)]
      cases rget p i 0 != 12 <;> rfl
    have h5 : pCk_s5 (i : Int) (rget p i 0) (rget p i 3) (rget p i 4) p = false := by
      unfold pCk_s5
      rw [show (rget p i 0 == 12) = false from beq_eq_false_iff_ne.2 s1]; rfl
    unfold ckAt pCk_0
    rw [h0, h2, h5, show (rget p i 0 != 11) = true from bne_iff_ne.2 s2]; rfl
  · have : ∀ k, k ≤ p.length → Fs p k = 0 := by
      intro k hk
      induction k with
      | zero => rfl
      | succ k ih =>
        have s := h k (by omega)
        unfold isSp at s
        simp only [Bool.or_eq_false_iff, decide_eq_false_iff_not] at s
        show Fs p k + fe p k = 0
        rw [ih (by omega)]
        unfold fe
        rw [if_neg s.1]; rfl
    rw [this _ (Nat.le_refl _)]
    omega

/-- The next instruction that is struck. -/
def Bad (d : Bool) (p : List (List Int)) (i : Nat) : Prop := pCh_0 d p ≠ 0 ∧ (pCh_0 d (p.set i [1, 0, 0, 0, 0]) = 0 ∨ isSp d (rget p i 0) = true)

theorem bad_run {d : Bool} {p : List (List Int)} (R : Rp p) (r : Int) :
    (∃ v', lrun pPr_l31333_st 18446744073709551616 (pPr_l31333_T.mk d (-1) r (Int.ofNat p.length) 0 p) = some (.e 4, v') ∧ v'.a0 = d ∧ v'.a2 = r ∧ ((v'.a1 = -1 ∧ ∀ i, i < p.length → ¬ Bad d p i) ∨ (∃ i : Nat, i < p.length ∧ v'.a1 = (i : Int) ∧ Bad d p i))) ∧
    lok pPr_l31333_st 18446744073709551616 (pPr_l31333_T.mk d (-1) r (Int.ofNat p.length) 0 p) := by
  have hl := R.len
  obtain ⟨⟨x, v', e, hx, rfl, Q⟩, ok⟩ := mr_run (st := pPr_l31333_st) (I := fun D v => ∃ (k : Nat) (b : Int), v = pPr_l31333_T.mk d b r (Int.ofNat p.length) (k : Int) p ∧ k ≤ p.length ∧ D = p.length - k ∧ ((b = -1 ∧ ∀ i, i < k → ¬ Bad d p i) ∨ (∃ i : Nat, i < p.length ∧ b = (i : Int) ∧ Bad d p i)))
    (R := fun x v' => x = .e 4 ∧ v'.a0 = d ∧ v'.a2 = r ∧ ((v'.a1 = -1 ∧ ∀ i, i < p.length → ¬ Bad d p i) ∨ (∃ i : Nat, i < p.length ∧ v'.a1 = (i : Int) ∧ Bad d p i))) (by
      rintro D v ⟨k, b, rfl, hk, hd, hb⟩
      have s0 : pPr_l31333_s0 (pPr_l31333_T.mk d b r (Int.ofNat p.length) (k : Int) p) = decide (k < p.length) := by
        unfold pPr_l31333_s0
        exact decide_eq_decide.2 (show (k : Int) < (p.length : Int) ↔ k < p.length by omega)
      have s4 : pPr_l31333_s4 (pPr_l31333_T.mk d b r (Int.ofNat p.length) (k : Int) p) = p.set k [1, 0, 0, 0, 0] := by
        unfold pPr_l31333_s4 pPr_l31333_s1
        show (p.set (Int.toNat (k : Int)) _) = _
        rw [Int.toNat_natCast]
      have Rq := (R.set k).pb
      refine ⟨?_, ?_⟩
      · have o1 := ch_obs R.pb d
        have o2 := ch_obs Rq d
        unfold pPr_l31333_st
        rw [s0, s4]
        refine ⟨fun _ => ?_, fun h => ?_, fun _ _ => o1.1, fun _ _ => o1.2, fun _ _ _ => o2.1, fun _ _ _ => o2.2, fun h _ _ _ => ?_, fun h _ _ _ _ => ?_, fun h _ _ _ _ _ => ?_, trivial⟩
        · show (p.length : Nat) * 6 ≤ 70368744177664
          omega
        all_goals
          have := of_decide_eq_true h
          show (0 : Int) ≤ (k : Int) ∧ (k : Int) < (p.length : Int)
          omega
      · unfold pPr_l31333_st
        rw [s0]
        by_cases h : k < p.length
        · rw [decide_eq_true h]
          have e1 : IntKind.wrap .i64 ((k : Int) + 1) = ((k + 1 : Nat) : Int) := by rw [w64_in (by omega) (by omega)]; rfl
          have sp : ∀ n : Int, (bif n == 12 then true else bif n == 11 then true else bif n == 13 then !d else false) = isSp d n := fun n => by
            unfold isSp
            by_cases q1 : n = 12
            · subst q1; rfl
            · rw [show (n == 12) = false from beq_eq_false_iff_ne.2 q1, decide_eq_false q1]
              by_cases q2 : n = 11
              · subst q2; rfl
              · rw [show (n == 11) = false from beq_eq_false_iff_ne.2 q2, decide_eq_false q2]
                by_cases q3 : n = 13
                · subst q3; rfl
                · rw [show (n == 13) = false from beq_eq_false_iff_ne.2 q3, decide_eq_false q3]; rfl
          have cond : (bif pPr_l31333_s2 (pPr_l31333_T.mk d b r (Int.ofNat p.length) (k : Int) p) then bif pPr_l31333_s3 (pPr_l31333_T.mk d b r (Int.ofNat p.length) (k : Int) p) then bif pPr_l31333_s5 (pPr_l31333_T.mk d b r (Int.ofNat p.length) (k : Int) p) then true else bif pPr_l31333_s6 (pPr_l31333_T.mk d b r (Int.ofNat p.length) (k : Int) p) then true else bif pPr_l31333_s7 (pPr_l31333_T.mk d b r (Int.ofNat p.length) (k : Int) p) then true else bif rget p (Int.toNat (k : Int)) 0 == 13 then !d else false else false else false) = (decide (b < 0) && (pCh_0 d p != 0 && (pCh_0 d (p.set k [1, 0, 0, 0, 0]) == 0 || isSp d (rget p k 0)))) := by
            unfold pPr_l31333_s5 pPr_l31333_s2 pPr_l31333_s3 pPr_l31333_s6 pPr_l31333_s7
            rw [s4]
            show (bif decide (b < 0) then bif pCh_0 d p != 0 then bif pCh_0 d (p.set k [1, 0, 0, 0, 0]) == 0 then true else (bif rget p (Int.toNat (k : Int)) 0 == 12 then true else bif rget p (Int.toNat (k : Int)) 0 == 11 then true else bif rget p (Int.toNat (k : Int)) 0 == 13 then !d else false) else false else false) = _
            rw [sp, Int.toNat_natCast]
            cases decide (b < 0) <;> cases pCh_0 d p != 0 <;> cases pCh_0 d (p.set k [1, 0, 0, 0, 0]) == 0 <;> rfl
          refine .inl ⟨pPr_l31333_T.mk d (bif (decide (b < 0) && (pCh_0 d p != 0 && (pCh_0 d (p.set k [1, 0, 0, 0, 0]) == 0 || isSp d (rget p k 0)))) then (k : Int) else b) r (Int.ofNat p.length) ((k + 1 : Nat) : Int) p, p.length - (k + 1), ?_, by omega, k + 1, _, rfl, by omega, rfl, ?_⟩
          · rw [← cond, ← e1]; rfl
          · rcases hb with ⟨rfl, hb⟩ | ⟨i, hi, rfl, hb⟩
            · by_cases q : Bad d p k
              · have : (decide ((-1 : Int) < 0) && (pCh_0 d p != 0 && (pCh_0 d (p.set k [1, 0, 0, 0, 0]) == 0 || isSp d (rget p k 0)))) = true := by
                  rw [show (pCh_0 d p != 0) = true from bne_iff_ne.2 q.1]
                  rcases q.2 with c | c
                  · rw [c]; rfl
                  · rw [c]; cases pCh_0 d (p.set k [1, 0, 0, 0, 0]) == 0 <;> rfl
                rw [this]
                exact .inr ⟨k, h, rfl, q⟩
              · have : (decide ((-1 : Int) < 0) && (pCh_0 d p != 0 && (pCh_0 d (p.set k [1, 0, 0, 0, 0]) == 0 || isSp d (rget p k 0)))) = false := by
                  cases c : (decide ((-1 : Int) < 0) && (pCh_0 d p != 0 && (pCh_0 d (p.set k [1, 0, 0, 0, 0]) == 0 || isSp d (rget p k 0)))) with
                  | false => rfl
                  | true =>
                    simp only [Bool.and_eq_true, Bool.or_eq_true, bne_iff_ne, beq_iff_eq] at c
                    exact absurd ⟨c.2.1, c.2.2⟩ q
                rw [this]
                refine .inl ⟨rfl, fun i hi => ?_⟩
                by_cases e : i = k
                · subst e; exact q
                · exact hb i (by omega)
            · rw [decide_eq_false (show ¬ (i : Int) < 0 by omega)]
              exact .inr ⟨i, hi, rfl, hb⟩
        · rw [decide_eq_false h]
          refine .inr ⟨.e 4, _, by simp, rfl, rfl, rfl, rfl, ?_⟩
          rcases hb with ⟨e, hb⟩ | hb
          · exact .inl ⟨e, fun i hi => hb i (by omega)⟩
          · exact .inr hb)
    18446744073709551616 p.length _ ⟨0, -1, rfl, Nat.zero_le _, rfl, .inl ⟨rfl, fun i h => by omega⟩⟩ (by omega)
  exact ⟨⟨v', e, Q⟩, ok⟩

theorem fix_run {d : Bool} {p : List (List Int)} (R : Rp p) :
    (∃ x v', lrun pPr_l61_st 18446744073709551616 (pPr_l61_T.mk d 0 p) = some (x, v') ∧ Rp v'.a2 ∧ v'.a2.length = p.length ∧ pCh_0 d v'.a2 = 0) ∧ lok pPr_l61_st 18446744073709551616 (pPr_l61_T.mk d 0 p) := by
  obtain ⟨⟨x, v', e, hx, Q⟩, ok⟩ := mr_run (st := pPr_l61_st) (I := fun D v => ∃ (r : Nat) (q : List (List Int)), v = pPr_l61_T.mk d (r : Int) q ∧ Rp q ∧ q.length = p.length ∧ r + D = 60 ∧ (pCh_0 d q = 0 ∨ spl d q + r ≤ 20))
    (R := fun x v' => Rp v'.a2 ∧ v'.a2.length = p.length ∧ pCh_0 d v'.a2 = 0) (by
      rintro D v ⟨r, q, rfl, R, hl, hD, hc⟩
      have s0 : pPr_l61_s0 (pPr_l61_T.mk d (r : Int) q) = decide (r < 60) := by
        unfold pPr_l61_s0
        exact decide_eq_decide.2 (show (r : Int) < 60 ↔ r < 60 by omega)
      obtain ⟨⟨v1, e1, f1, f2, c⟩, ok⟩ := bad_run (d := d) R (r : Int)
      have s1 : pPr_l61_s1 (pPr_l61_T.mk d (r : Int) q) = some (.e 4, v1) := e1
      have s3 : pPr_l61_s3 (pPr_l61_T.mk d (r : Int) q) = decide (v1.a1 < 0) := by
        unfold pPr_l61_s3
        rw [s1]; rfl
      refine ⟨?_, ?_⟩
      · unfold pPr_l61_st
        rw [s0, s1, s3]
        refine ⟨fun _ => ok, fun _ _ h => ?_, trivial⟩
        show 0 ≤ v1.a1 ∧ v1.a1 < (q.length : Int)
        rcases c with ⟨c, _⟩ | ⟨i, hi, c, _⟩
        · rw [c] at h; exact absurd h (by decide)
        · rw [c]; omega
      · unfold pPr_l61_st
        rw [s0, s1, s3]
        by_cases h : r < 60
        · rw [decide_eq_true h]
          rcases c with ⟨c, hn⟩ | ⟨i, hi, c, hb⟩
          · refine .inr ⟨.e 2, pPr_l61_T.mk d (r : Int) q, by simp, ?_, R, hl, ?_⟩
            · rw [c]
              show some (X.e 2, pPr_l61_T.mk v1.a0 v1.a2 q) = _
              rw [f1, f2]
            · show pCh_0 d q = 0
              by_cases z : pCh_0 d q = 0
              · exact z
              · refine no_sp R fun i hi => ?_
                cases w : isSp d (rget q i 0) with
                | false => rfl
                | true => exact absurd ⟨z, .inr w⟩ (hn i hi)
          · refine .inl ⟨pPr_l61_T.mk d ((r + 1 : Nat) : Int) (q.set i [1, 0, 0, 0, 0]), D - 1, ?_, by omega, r + 1, q.set i [1, 0, 0, 0, 0], rfl, R.set i, by rw [List.length_set]; exact hl, by omega, ?_⟩
            · rw [c, decide_eq_false (show ¬ (i : Int) < 0 by omega)]
              show some (X.n, pPr_l61_T.mk v1.a0 (IntKind.wrap .i64 (v1.a2 + 1)) (q.set (Int.toNat v1.a1) [1, 0, 0, 0, 0])) = _
              rw [f1, f2, c, w64_in (by omega) (by omega), Int.toNat_natCast]; rfl
            · rcases hb.2 with w | w
              · exact .inl w
              · rcases hc with hc | hc
                · exact absurd hc hb.1
                · have := spl_set d (s := [1, 0, 0, 0, 0]) (by cases d <;> rfl) q i hi w
                  exact .inr (by omega)
        · rw [decide_eq_false h]
          refine .inr ⟨.e 2, pPr_l61_T.mk d (r : Int) q, by simp, rfl, R, hl, ?_⟩
          rcases hc with hc | hc
          · exact hc
          · omega)
    18446744073709551616 60 _ ⟨0, p, rfl, R, rfl, rfl, .inr (by have := spl_le d p; have := R.len; omega)⟩ (by omega)
  exact ⟨⟨x, v', e, Q⟩, ok⟩

end Vm

end Go.Proofs.Ytcdejlgophpdjaa
end

section
namespace Go.Proofs.Ytcdejlgophpdjaa
open Go Go.RowKit Go.Proofs.Ytcdejlgophpdjaa.V

theorem vecLU_ok : ConOK Try.prog 2 vecLitC := by
  intro args bs obs lv out h ho
  unfold vecLitC at h
  split at h
  · simp only [Option.some.injEq, Prod.mk.injEq] at h
    obtain ⟨rfl, rfl, rfl⟩ := h
    exact ho.1.elim
  · cases h
def tabUd0 : Tab := (2, vecLitC) :: tabUc4
theorem tabUd0_ok : TOK Try.prog tabUd0 := TOK.cons rowU_en vecLU_ok tabUc4_ok

end Go.Proofs.Ytcdejlgophpdjaa
end

section
namespace Go.Proofs.Ytcdejlgophpdjaa
open Go Go.RowKit Go.Proofs.Ytcdejlgophpdjaa.V
set_option linter.unusedVariables false

/-! azulejo/azulejolaw08.Awake -/
def vAw_s0 : List (List Int) := [[(2 : Int), (0 : Int), (0 : Int), (0 : Int), (256 : Int)]]
def vAw_0 : Bool := bif vShN_0 (1 : Int) (2 : Int) (3 : Int) (4 : Int) (0 : Int) (0 : Int) (0 : Int) == (1 : Int) && (vShN_1 (1 : Int) (2 : Int) (3 : Int) (4 : Int) (0 : Int) (0 : Int) (0 : Int) == (2 : Int) && (vShN_2 (1 : Int) (2 : Int) (3 : Int) (4 : Int) (0 : Int) (0 : Int) (0 : Int) == (3 : Int) && vShN_3 (1 : Int) (2 : Int) (3 : Int) (4 : Int) (0 : Int) (0 : Int) (0 : Int) == (4 : Int))) then bif vRun_2 (0 : Int) (0 : Int) (0 : Int) (0 : Int) (0 : Int) (0 : Int) (0 : Int) (0 : Int) (0 : Int) (0 : Int) (0 : Int) (0 : Int) (0 : Int) (0 : Int) (0 : Int) (0 : Int) (0 : Int) (0 : Int) (0 : Int) (0 : Int) (0 : Int) (0 : Int) (0 : Int) (0 : Int) (0 : Int) (0 : Int) (0 : Int) (0 : Int) (0 : Int) (0 : Int) (0 : Int) (0 : Int) (0 : Int) (0 : Int) (0 : Int) (0 : Int) (0 : Int) (0 : Int) (0 : Int) (0 : Int) (0 : Int) (0 : Int) (0 : Int) (0 : Int) (0 : Int) (0 : Int) (0 : Int) (0 : Int) vAw_s0 == (65536 : Int) then vRun_49 (0 : Int) (0 : Int) (0 : Int) (0 : Int) (0 : Int) (0 : Int) (0 : Int) (0 : Int) (0 : Int) (0 : Int) (0 : Int) (0 : Int) (0 : Int) (0 : Int) (0 : Int) (0 : Int) (0 : Int) (0 : Int) (0 : Int) (0 : Int) (0 : Int) (0 : Int) (0 : Int) (0 : Int) (0 : Int) (0 : Int) (0 : Int) (0 : Int) (0 : Int) (0 : Int) (0 : Int) (0 : Int) (0 : Int) (0 : Int) (0 : Int) (0 : Int) (0 : Int) (0 : Int) (0 : Int) (0 : Int) (0 : Int) (0 : Int) (0 : Int) (0 : Int) (0 : Int) (0 : Int) (0 : Int) (0 : Int) vAw_s0 == (1 : Int) else false else false
def vAw_o  : List Prop := [decide ((0 : Int) < (0 : Int)) = false, (!pCh_s0 vAw_s0) = true → lok pCh_l29_st (18446744073709551616 : Nat) (pCh_l29_T.mk true (0 : Int) (Int.ofNat (1 : Nat)) (0 : Int) vAw_s0), (!pCh_s0 vAw_s0) = true → isX (X.e (0 : Nat)) (pCh_s1 true vAw_s0) = true → lok pFu_l29_st (18446744073709551616 : Nat) (pFu_l29_T.mk (0 : Int) (Int.ofNat (1 : Nat)) (Int.ofNat (1 : Nat)) (0 : Int) vAw_s0), vRun_s0 vAw_s0 = true → lok vRa5_l13_st (18446744073709551616 : Nat) (vRa5_l13_T.mk (Int.ofNat (1 : Nat)) false (0 : Int) (vRun_s2 (0 : Int) (0 : Int) (0 : Int) (0 : Int) (0 : Int) (0 : Int) (0 : Int) (0 : Int) (0 : Int) (0 : Int) (0 : Int) (0 : Int) (0 : Int) (0 : Int) (0 : Int) (0 : Int) (0 : Int) (0 : Int) (0 : Int) (0 : Int) (0 : Int) (0 : Int) (0 : Int) (0 : Int) (0 : Int) (0 : Int) (0 : Int) (0 : Int) (0 : Int) (0 : Int) (0 : Int) (0 : Int) (0 : Int) (0 : Int) (0 : Int) (0 : Int) (0 : Int) (0 : Int) (0 : Int) (0 : Int) (0 : Int) (0 : Int) (0 : Int) (0 : Int) (0 : Int) (0 : Int) (0 : Int) (0 : Int)) false (0 : Int) vAw_s0)]
theorem vAw_p  : evG Try.prog tabUd0 2000 80 [0, 1, 2, 4] [] [] [] [] = some (vAw_o , LV.a (At.bool true vAw_0), []) := by kernel_rfl
def vAw_c : Con
  | [], [] => some (vAw_o , LV.a (At.bool true vAw_0), [])
  | _, _ => none
theorem vAw_ok : ConOK Try.prog 80 (normC vAw_c) := normC_ok (by
  intro args bs obs lv out h ho φ vs w may ha hM
  unfold vAw_c at h
  split at h
  · simp only [Option.some.injEq, Prod.mk.injEq] at h
    obtain ⟨rfl, rfl, rfl⟩ := h
    exact evG_ok tabUd0_ok follows _ _ _ _ _ (vAw_p ) ho φ vs w may ha hM
  · cases h)
theorem vAw_en : Enters Try.prog 80 := fun args => by kernel_rfl
-- 589 104 16 ms

def tabUd1 : Tab := (80, normC vAw_c) :: tabUd0
theorem tabUd1_ok : TOK Try.prog tabUd1 := TOK.cons vAw_en vAw_ok (tabUd0_ok)

end Go.Proofs.Ytcdejlgophpdjaa
end

section
namespace Go.Proofs.Ytcdejlgophpdjaa
open Go Go.RowKit Go.Proofs.Ytcdejlgophpdjaa.V

def tabUe0 : Tab := (80, normC vAw_c) :: tabUc5
theorem tabUe0_ok : TOK Try.prog tabUe0 := TOK.cons vAw_en vAw_ok tabUc5_ok

end Go.Proofs.Ytcdejlgophpdjaa
end

section
namespace Go.Proofs.Ytcdejlgophpdjaa
open Go Go.RowKit Go.Proofs.Ytcdejlgophpdjaa.V
set_option linter.unusedVariables false

/-! azulejo/azulejolaw08.VmColours -/
def lVmCo_s0 (n0 : Nat) : Bool := decide ((40 : Int) < Int.ofNat n0)
def lVmCo_s1 (n0 : Nat) (x2_0 x2_1 x2_2 x2_3 x4 x5 x6 : Int) (y0 : List (List Int)) : Int := vSh_0 x2_0 x2_1 x2_2 x2_3 x4 x5 x6 (pPr_0 n0 true y0)
def lVmCo_s2 (n0 : Nat) (x1_0 x1_1 x1_2 x1_3 x2_0 x2_1 x2_2 x2_3 x3_0 x3_1 x3_2 x3_3 x3_4 x3_5 x3_6 x3_7 x3_8 x3_9 x3_10 x3_11 x3_12 x3_13 x3_14 x3_15 : Int) (y0 : List (List Int)) : Int := vPl_4 x3_0 x3_1 x3_2 x3_3 x3_4 x3_5 x3_6 x3_7 x3_8 x3_9 x3_10 x3_11 x3_12 x3_13 x3_14 x3_15 x1_0 x1_1 x1_2 x1_3 x2_0 x2_1 x2_2 x2_3 (pPr_0 n0 false y0)
def lVmCo_s3 (n0 : Nat) (x1_0 x1_1 x1_2 x1_3 x2_0 x2_1 x2_2 x2_3 x3_0 x3_1 x3_2 x3_3 x3_4 x3_5 x3_6 x3_7 x3_8 x3_9 x3_10 x3_11 x3_12 x3_13 x3_14 x3_15 : Int) (y0 : List (List Int)) : Int := vPl_0 x3_0 x3_1 x3_2 x3_3 x3_4 x3_5 x3_6 x3_7 x3_8 x3_9 x3_10 x3_11 x3_12 x3_13 x3_14 x3_15 x1_0 x1_1 x1_2 x1_3 x2_0 x2_1 x2_2 x2_3 (pPr_0 n0 false y0)
def lVmCo_s4 (n0 : Nat) (x1_0 x1_1 x1_2 x1_3 x2_0 x2_1 x2_2 x2_3 x3_0 x3_1 x3_2 x3_3 x3_4 x3_5 x3_6 x3_7 x3_8 x3_9 x3_10 x3_11 x3_12 x3_13 x3_14 x3_15 x4 x5 x6 : Int) (y0 : List (List Int)) : Bool := bif decide (lVmCo_s1 n0 x2_0 x2_1 x2_2 x2_3 x4 x5 x6 y0 < (0 : Int)) then true else bif decide ((65536 : Int) < lVmCo_s1 n0 x2_0 x2_1 x2_2 x2_3 x4 x5 x6 y0) then true else bif decide (lVmCo_s2 n0 x1_0 x1_1 x1_2 x1_3 x2_0 x2_1 x2_2 x2_3 x3_0 x3_1 x3_2 x3_3 x3_4 x3_5 x3_6 x3_7 x3_8 x3_9 x3_10 x3_11 x3_12 x3_13 x3_14 x3_15 y0 < (0 : Int)) then true else bif decide ((65536 : Int) < lVmCo_s2 n0 x1_0 x1_1 x1_2 x1_3 x2_0 x2_1 x2_2 x2_3 x3_0 x3_1 x3_2 x3_3 x3_4 x3_5 x3_6 x3_7 x3_8 x3_9 x3_10 x3_11 x3_12 x3_13 x3_14 x3_15 y0) then true else bif decide (lVmCo_s3 n0 x1_0 x1_1 x1_2 x1_3 x2_0 x2_1 x2_2 x2_3 x3_0 x3_1 x3_2 x3_3 x3_4 x3_5 x3_6 x3_7 x3_8 x3_9 x3_10 x3_11 x3_12 x3_13 x3_14 x3_15 y0 < (-4194304 : Int)) then true else decide ((4194304 : Int) < lVmCo_s3 n0 x1_0 x1_1 x1_2 x1_3 x2_0 x2_1 x2_2 x2_3 x3_0 x3_1 x3_2 x3_3 x3_4 x3_5 x3_6 x3_7 x3_8 x3_9 x3_10 x3_11 x3_12 x3_13 x3_14 x3_15 y0)
def lVmCo_s5 (n0 : Nat) (x1_0 x1_1 x1_2 x1_3 x2_0 x2_1 x2_2 x2_3 x3_0 x3_1 x3_2 x3_3 x3_4 x3_5 x3_6 x3_7 x3_8 x3_9 x3_10 x3_11 x3_12 x3_13 x3_14 x3_15 x4 x5 x6 : Int) (y0 : List (List Int)) : Bool := !lVmCo_s4 n0 x1_0 x1_1 x1_2 x1_3 x2_0 x2_1 x2_2 x2_3 x3_0 x3_1 x3_2 x3_3 x3_4 x3_5 x3_6 x3_7 x3_8 x3_9 x3_10 x3_11 x3_12 x3_13 x3_14 x3_15 x4 x5 x6 y0
def lVmCo_s6 (n0 : Nat) (x2_0 x2_1 x2_2 x2_3 x4 x5 x6 : Int) (y0 : List (List Int)) : Int := vSh_1 x2_0 x2_1 x2_2 x2_3 x4 x5 x6 (pPr_0 n0 true y0)
def lVmCo_s7 (n0 : Nat) (x1_0 x1_1 x1_2 x1_3 x2_0 x2_1 x2_2 x2_3 x3_0 x3_1 x3_2 x3_3 x3_4 x3_5 x3_6 x3_7 x3_8 x3_9 x3_10 x3_11 x3_12 x3_13 x3_14 x3_15 : Int) (y0 : List (List Int)) : Int := vPl_5 x3_0 x3_1 x3_2 x3_3 x3_4 x3_5 x3_6 x3_7 x3_8 x3_9 x3_10 x3_11 x3_12 x3_13 x3_14 x3_15 x1_0 x1_1 x1_2 x1_3 x2_0 x2_1 x2_2 x2_3 (pPr_0 n0 false y0)
def lVmCo_s8 (n0 : Nat) (x1_0 x1_1 x1_2 x1_3 x2_0 x2_1 x2_2 x2_3 x3_0 x3_1 x3_2 x3_3 x3_4 x3_5 x3_6 x3_7 x3_8 x3_9 x3_10 x3_11 x3_12 x3_13 x3_14 x3_15 : Int) (y0 : List (List Int)) : Int := vPl_1 x3_0 x3_1 x3_2 x3_3 x3_4 x3_5 x3_6 x3_7 x3_8 x3_9 x3_10 x3_11 x3_12 x3_13 x3_14 x3_15 x1_0 x1_1 x1_2 x1_3 x2_0 x2_1 x2_2 x2_3 (pPr_0 n0 false y0)
def lVmCo_s9 (n0 : Nat) (x1_0 x1_1 x1_2 x1_3 x2_0 x2_1 x2_2 x2_3 x3_0 x3_1 x3_2 x3_3 x3_4 x3_5 x3_6 x3_7 x3_8 x3_9 x3_10 x3_11 x3_12 x3_13 x3_14 x3_15 x4 x5 x6 : Int) (y0 : List (List Int)) : Bool := bif decide (lVmCo_s6 n0 x2_0 x2_1 x2_2 x2_3 x4 x5 x6 y0 < (0 : Int)) then true else bif decide ((65536 : Int) < lVmCo_s6 n0 x2_0 x2_1 x2_2 x2_3 x4 x5 x6 y0) then true else bif decide (lVmCo_s7 n0 x1_0 x1_1 x1_2 x1_3 x2_0 x2_1 x2_2 x2_3 x3_0 x3_1 x3_2 x3_3 x3_4 x3_5 x3_6 x3_7 x3_8 x3_9 x3_10 x3_11 x3_12 x3_13 x3_14 x3_15 y0 < (0 : Int)) then true else bif decide ((65536 : Int) < lVmCo_s7 n0 x1_0 x1_1 x1_2 x1_3 x2_0 x2_1 x2_2 x2_3 x3_0 x3_1 x3_2 x3_3 x3_4 x3_5 x3_6 x3_7 x3_8 x3_9 x3_10 x3_11 x3_12 x3_13 x3_14 x3_15 y0) then true else bif decide (lVmCo_s8 n0 x1_0 x1_1 x1_2 x1_3 x2_0 x2_1 x2_2 x2_3 x3_0 x3_1 x3_2 x3_3 x3_4 x3_5 x3_6 x3_7 x3_8 x3_9 x3_10 x3_11 x3_12 x3_13 x3_14 x3_15 y0 < (-4194304 : Int)) then true else decide ((4194304 : Int) < lVmCo_s8 n0 x1_0 x1_1 x1_2 x1_3 x2_0 x2_1 x2_2 x2_3 x3_0 x3_1 x3_2 x3_3 x3_4 x3_5 x3_6 x3_7 x3_8 x3_9 x3_10 x3_11 x3_12 x3_13 x3_14 x3_15 y0)
def lVmCo_s10 (n0 : Nat) (x1_0 x1_1 x1_2 x1_3 x2_0 x2_1 x2_2 x2_3 x3_0 x3_1 x3_2 x3_3 x3_4 x3_5 x3_6 x3_7 x3_8 x3_9 x3_10 x3_11 x3_12 x3_13 x3_14 x3_15 x4 x5 x6 : Int) (y0 : List (List Int)) : Bool := !lVmCo_s9 n0 x1_0 x1_1 x1_2 x1_3 x2_0 x2_1 x2_2 x2_3 x3_0 x3_1 x3_2 x3_3 x3_4 x3_5 x3_6 x3_7 x3_8 x3_9 x3_10 x3_11 x3_12 x3_13 x3_14 x3_15 x4 x5 x6 y0
def lVmCo_s11 (n0 : Nat) (x2_0 x2_1 x2_2 x2_3 x4 x5 x6 : Int) (y0 : List (List Int)) : Int := vSh_2 x2_0 x2_1 x2_2 x2_3 x4 x5 x6 (pPr_0 n0 true y0)
def lVmCo_s12 (n0 : Nat) (x1_0 x1_1 x1_2 x1_3 x2_0 x2_1 x2_2 x2_3 x3_0 x3_1 x3_2 x3_3 x3_4 x3_5 x3_6 x3_7 x3_8 x3_9 x3_10 x3_11 x3_12 x3_13 x3_14 x3_15 : Int) (y0 : List (List Int)) : Int := vPl_6 x3_0 x3_1 x3_2 x3_3 x3_4 x3_5 x3_6 x3_7 x3_8 x3_9 x3_10 x3_11 x3_12 x3_13 x3_14 x3_15 x1_0 x1_1 x1_2 x1_3 x2_0 x2_1 x2_2 x2_3 (pPr_0 n0 false y0)
def lVmCo_s13 (n0 : Nat) (x1_0 x1_1 x1_2 x1_3 x2_0 x2_1 x2_2 x2_3 x3_0 x3_1 x3_2 x3_3 x3_4 x3_5 x3_6 x3_7 x3_8 x3_9 x3_10 x3_11 x3_12 x3_13 x3_14 x3_15 : Int) (y0 : List (List Int)) : Int := vPl_2 x3_0 x3_1 x3_2 x3_3 x3_4 x3_5 x3_6 x3_7 x3_8 x3_9 x3_10 x3_11 x3_12 x3_13 x3_14 x3_15 x1_0 x1_1 x1_2 x1_3 x2_0 x2_1 x2_2 x2_3 (pPr_0 n0 false y0)
def lVmCo_s14 (n0 : Nat) (x1_0 x1_1 x1_2 x1_3 x2_0 x2_1 x2_2 x2_3 x3_0 x3_1 x3_2 x3_3 x3_4 x3_5 x3_6 x3_7 x3_8 x3_9 x3_10 x3_11 x3_12 x3_13 x3_14 x3_15 x4 x5 x6 : Int) (y0 : List (List Int)) : Bool := bif decide (lVmCo_s11 n0 x2_0 x2_1 x2_2 x2_3 x4 x5 x6 y0 < (0 : Int)) then true else bif decide ((65536 : Int) < lVmCo_s11 n0 x2_0 x2_1 x2_2 x2_3 x4 x5 x6 y0) then true else bif decide (lVmCo_s12 n0 x1_0 x1_1 x1_2 x1_3 x2_0 x2_1 x2_2 x2_3 x3_0 x3_1 x3_2 x3_3 x3_4 x3_5 x3_6 x3_7 x3_8 x3_9 x3_10 x3_11 x3_12 x3_13 x3_14 x3_15 y0 < (0 : Int)) then true else bif decide ((65536 : Int) < lVmCo_s12 n0 x1_0 x1_1 x1_2 x1_3 x2_0 x2_1 x2_2 x2_3 x3_0 x3_1 x3_2 x3_3 x3_4 x3_5 x3_6 x3_7 x3_8 x3_9 x3_10 x3_11 x3_12 x3_13 x3_14 x3_15 y0) then true else bif decide (lVmCo_s13 n0 x1_0 x1_1 x1_2 x1_3 x2_0 x2_1 x2_2 x2_3 x3_0 x3_1 x3_2 x3_3 x3_4 x3_5 x3_6 x3_7 x3_8 x3_9 x3_10 x3_11 x3_12 x3_13 x3_14 x3_15 y0 < (-4194304 : Int)) then true else decide ((4194304 : Int) < lVmCo_s13 n0 x1_0 x1_1 x1_2 x1_3 x2_0 x2_1 x2_2 x2_3 x3_0 x3_1 x3_2 x3_3 x3_4 x3_5 x3_6 x3_7 x3_8 x3_9 x3_10 x3_11 x3_12 x3_13 x3_14 x3_15 y0)
def lVmCo_s15 (n0 : Nat) (x1_0 x1_1 x1_2 x1_3 x2_0 x2_1 x2_2 x2_3 x3_0 x3_1 x3_2 x3_3 x3_4 x3_5 x3_6 x3_7 x3_8 x3_9 x3_10 x3_11 x3_12 x3_13 x3_14 x3_15 x4 x5 x6 : Int) (y0 : List (List Int)) : Bool := !lVmCo_s14 n0 x1_0 x1_1 x1_2 x1_3 x2_0 x2_1 x2_2 x2_3 x3_0 x3_1 x3_2 x3_3 x3_4 x3_5 x3_6 x3_7 x3_8 x3_9 x3_10 x3_11 x3_12 x3_13 x3_14 x3_15 x4 x5 x6 y0
def lVmCo_s16 (n0 : Nat) (x2_0 x2_1 x2_2 x2_3 x4 x5 x6 : Int) (y0 : List (List Int)) : Int := vSh_3 x2_0 x2_1 x2_2 x2_3 x4 x5 x6 (pPr_0 n0 true y0)
def lVmCo_s17 (n0 : Nat) (x1_0 x1_1 x1_2 x1_3 x2_0 x2_1 x2_2 x2_3 x3_0 x3_1 x3_2 x3_3 x3_4 x3_5 x3_6 x3_7 x3_8 x3_9 x3_10 x3_11 x3_12 x3_13 x3_14 x3_15 : Int) (y0 : List (List Int)) : Int := vPl_7 x3_0 x3_1 x3_2 x3_3 x3_4 x3_5 x3_6 x3_7 x3_8 x3_9 x3_10 x3_11 x3_12 x3_13 x3_14 x3_15 x1_0 x1_1 x1_2 x1_3 x2_0 x2_1 x2_2 x2_3 (pPr_0 n0 false y0)
def lVmCo_s18 (n0 : Nat) (x1_0 x1_1 x1_2 x1_3 x2_0 x2_1 x2_2 x2_3 x3_0 x3_1 x3_2 x3_3 x3_4 x3_5 x3_6 x3_7 x3_8 x3_9 x3_10 x3_11 x3_12 x3_13 x3_14 x3_15 : Int) (y0 : List (List Int)) : Int := vPl_3 x3_0 x3_1 x3_2 x3_3 x3_4 x3_5 x3_6 x3_7 x3_8 x3_9 x3_10 x3_11 x3_12 x3_13 x3_14 x3_15 x1_0 x1_1 x1_2 x1_3 x2_0 x2_1 x2_2 x2_3 (pPr_0 n0 false y0)
def lVmCo_s19 (n0 : Nat) (x1_0 x1_1 x1_2 x1_3 x2_0 x2_1 x2_2 x2_3 x3_0 x3_1 x3_2 x3_3 x3_4 x3_5 x3_6 x3_7 x3_8 x3_9 x3_10 x3_11 x3_12 x3_13 x3_14 x3_15 x4 x5 x6 : Int) (y0 : List (List Int)) : Bool := bif decide (lVmCo_s16 n0 x2_0 x2_1 x2_2 x2_3 x4 x5 x6 y0 < (0 : Int)) then true else bif decide ((65536 : Int) < lVmCo_s16 n0 x2_0 x2_1 x2_2 x2_3 x4 x5 x6 y0) then true else bif decide (lVmCo_s17 n0 x1_0 x1_1 x1_2 x1_3 x2_0 x2_1 x2_2 x2_3 x3_0 x3_1 x3_2 x3_3 x3_4 x3_5 x3_6 x3_7 x3_8 x3_9 x3_10 x3_11 x3_12 x3_13 x3_14 x3_15 y0 < (0 : Int)) then true else bif decide ((65536 : Int) < lVmCo_s17 n0 x1_0 x1_1 x1_2 x1_3 x2_0 x2_1 x2_2 x2_3 x3_0 x3_1 x3_2 x3_3 x3_4 x3_5 x3_6 x3_7 x3_8 x3_9 x3_10 x3_11 x3_12 x3_13 x3_14 x3_15 y0) then true else bif decide (lVmCo_s18 n0 x1_0 x1_1 x1_2 x1_3 x2_0 x2_1 x2_2 x2_3 x3_0 x3_1 x3_2 x3_3 x3_4 x3_5 x3_6 x3_7 x3_8 x3_9 x3_10 x3_11 x3_12 x3_13 x3_14 x3_15 y0 < (-4194304 : Int)) then true else decide ((4194304 : Int) < lVmCo_s18 n0 x1_0 x1_1 x1_2 x1_3 x2_0 x2_1 x2_2 x2_3 x3_0 x3_1 x3_2 x3_3 x3_4 x3_5 x3_6 x3_7 x3_8 x3_9 x3_10 x3_11 x3_12 x3_13 x3_14 x3_15 y0)
def lVmCo_s20 (x6 : Int) : Int := if x6 < (0 : Int) then (0 : Int) else x6
def lVmCo_s21 (x6 : Int) : Int := if (65535 : Int) < lVmCo_s20 x6 then (65535 : Int) else lVmCo_s20 x6
def lVmCo_s22 (n0 : Nat) (x2_0 x2_1 x2_2 x2_3 x4 x5 x6 : Int) (y0 : List (List Int)) : Bool := lVmCo_s1 n0 x2_0 x2_1 x2_2 x2_3 x4 x5 x6 y0 == vSh_0 (vCol_0 x2_0) (vCol_1 x2_1) (vCol_2 x2_2) (vCol_3 x2_3) x4 x5 (lVmCo_s21 x6) (pPr_0 n0 true y0) && (lVmCo_s6 n0 x2_0 x2_1 x2_2 x2_3 x4 x5 x6 y0 == vSh_1 (vCol_0 x2_0) (vCol_1 x2_1) (vCol_2 x2_2) (vCol_3 x2_3) x4 x5 (lVmCo_s21 x6) (pPr_0 n0 true y0) && (lVmCo_s11 n0 x2_0 x2_1 x2_2 x2_3 x4 x5 x6 y0 == vSh_2 (vCol_0 x2_0) (vCol_1 x2_1) (vCol_2 x2_2) (vCol_3 x2_3) x4 x5 (lVmCo_s21 x6) (pPr_0 n0 true y0) && lVmCo_s16 n0 x2_0 x2_1 x2_2 x2_3 x4 x5 x6 y0 == vSh_3 (vCol_0 x2_0) (vCol_1 x2_1) (vCol_2 x2_2) (vCol_3 x2_3) x4 x5 (lVmCo_s21 x6) (pPr_0 n0 true y0)))
def lVmCo_s23 (n0 : Nat) (x2_0 x2_1 x2_2 x2_3 x4 x5 x6 : Int) (y0 : List (List Int)) : Bool := vSh_4 x2_0 x2_1 x2_2 x2_3 x4 x5 x6 (pPr_0 n0 true y0) == vSh_4 (vCol_0 x2_0) (vCol_1 x2_1) (vCol_2 x2_2) (vCol_3 x2_3) x4 x5 (lVmCo_s21 x6) (pPr_0 n0 true y0)
def lVmCo_s24 (n0 : Nat) (x2_0 x2_1 x2_2 x2_3 x4 x5 x6 : Int) (y0 : List (List Int)) : Int := vSh_5 x2_0 x2_1 x2_2 x2_3 x4 x5 x6 (pPr_0 n0 true y0)
def lVmCo_s25 (n0 : Nat) (x2_0 x2_1 x2_2 x2_3 x4 x5 x6 : Int) (y0 : List (List Int)) : Bool := lVmCo_s24 n0 x2_0 x2_1 x2_2 x2_3 x4 x5 x6 y0 == vSh_5 (vCol_0 x2_0) (vCol_1 x2_1) (vCol_2 x2_2) (vCol_3 x2_3) x4 x5 (lVmCo_s21 x6) (pPr_0 n0 true y0)
def lVmCo_0 (n0 : Nat) (x1_0 x1_1 x1_2 x1_3 x2_0 x2_1 x2_2 x2_3 x3_0 x3_1 x3_2 x3_3 x3_4 x3_5 x3_6 x3_7 x3_8 x3_9 x3_10 x3_11 x3_12 x3_13 x3_14 x3_15 x4 x5 x6 : Int) (y0 : List (List Int)) : Bool := bif !vAw_0 then false else bif lVmCo_s0 n0 then true else bif lVmCo_s4 n0 x1_0 x1_1 x1_2 x1_3 x2_0 x2_1 x2_2 x2_3 x3_0 x3_1 x3_2 x3_3 x3_4 x3_5 x3_6 x3_7 x3_8 x3_9 x3_10 x3_11 x3_12 x3_13 x3_14 x3_15 x4 x5 x6 y0 || lVmCo_s5 n0 x1_0 x1_1 x1_2 x1_3 x2_0 x2_1 x2_2 x2_3 x3_0 x3_1 x3_2 x3_3 x3_4 x3_5 x3_6 x3_7 x3_8 x3_9 x3_10 x3_11 x3_12 x3_13 x3_14 x3_15 x4 x5 x6 y0 && (lVmCo_s9 n0 x1_0 x1_1 x1_2 x1_3 x2_0 x2_1 x2_2 x2_3 x3_0 x3_1 x3_2 x3_3 x3_4 x3_5 x3_6 x3_7 x3_8 x3_9 x3_10 x3_11 x3_12 x3_13 x3_14 x3_15 x4 x5 x6 y0 || lVmCo_s10 n0 x1_0 x1_1 x1_2 x1_3 x2_0 x2_1 x2_2 x2_3 x3_0 x3_1 x3_2 x3_3 x3_4 x3_5 x3_6 x3_7 x3_8 x3_9 x3_10 x3_11 x3_12 x3_13 x3_14 x3_15 x4 x5 x6 y0 && (lVmCo_s14 n0 x1_0 x1_1 x1_2 x1_3 x2_0 x2_1 x2_2 x2_3 x3_0 x3_1 x3_2 x3_3 x3_4 x3_5 x3_6 x3_7 x3_8 x3_9 x3_10 x3_11 x3_12 x3_13 x3_14 x3_15 x4 x5 x6 y0 || lVmCo_s15 n0 x1_0 x1_1 x1_2 x1_3 x2_0 x2_1 x2_2 x2_3 x3_0 x3_1 x3_2 x3_3 x3_4 x3_5 x3_6 x3_7 x3_8 x3_9 x3_10 x3_11 x3_12 x3_13 x3_14 x3_15 x4 x5 x6 y0 && lVmCo_s19 n0 x1_0 x1_1 x1_2 x1_3 x2_0 x2_1 x2_2 x2_3 x3_0 x3_1 x3_2 x3_3 x3_4 x3_5 x3_6 x3_7 x3_8 x3_9 x3_10 x3_11 x3_12 x3_13 x3_14 x3_15 x4 x5 x6 y0)) then false else bif lVmCo_s22 n0 x2_0 x2_1 x2_2 x2_3 x4 x5 x6 y0 then bif lVmCo_s23 n0 x2_0 x2_1 x2_2 x2_3 x4 x5 x6 y0 then bif lVmCo_s25 n0 x2_0 x2_1 x2_2 x2_3 x4 x5 x6 y0 then decide (lVmCo_s24 n0 x2_0 x2_1 x2_2 x2_3 x4 x5 x6 y0 ≤ pFu_0 (pPr_0 n0 true y0)) else false else false else false
def lVmCo_o (n0 : Nat) (x1_0 x1_1 x1_2 x1_3 x2_0 x2_1 x2_2 x2_3 x3_0 x3_1 x3_2 x3_3 x3_4 x3_5 x3_6 x3_7 x3_8 x3_9 x3_10 x3_11 x3_12 x3_13 x3_14 x3_15 x4 x5 x6 : Int) (y0 : List (List Int)) : List Prop := [decide ((0 : Int) < (0 : Int)) = false, (!pCh_s0 vAw_s0) = true → lok pCh_l29_st (18446744073709551616 : Nat) (pCh_l29_T.mk true (0 : Int) (Int.ofNat (1 : Nat)) (0 : Int) vAw_s0), (!pCh_s0 vAw_s0) = true → isX (X.e (0 : Nat)) (pCh_s1 true vAw_s0) = true → lok pFu_l29_st (18446744073709551616 : Nat) (pFu_l29_T.mk (0 : Int) (Int.ofNat (1 : Nat)) (Int.ofNat (1 : Nat)) (0 : Int) vAw_s0), vRun_s0 vAw_s0 = true → lok vRa5_l13_st (18446744073709551616 : Nat) (vRa5_l13_T.mk (Int.ofNat (1 : Nat)) false (0 : Int) (vRun_s2 (0 : Int) (0 : Int) (0 : Int) (0 : Int) (0 : Int) (0 : Int) (0 : Int) (0 : Int) (0 : Int) (0 : Int) (0 : Int) (0 : Int) (0 : Int) (0 : Int) (0 : Int) (0 : Int) (0 : Int) (0 : Int) (0 : Int) (0 : Int) (0 : Int) (0 : Int) (0 : Int) (0 : Int) (0 : Int) (0 : Int) (0 : Int) (0 : Int) (0 : Int) (0 : Int) (0 : Int) (0 : Int) (0 : Int) (0 : Int) (0 : Int) (0 : Int) (0 : Int) (0 : Int) (0 : Int) (0 : Int) (0 : Int) (0 : Int) (0 : Int) (0 : Int) (0 : Int) (0 : Int) (0 : Int) (0 : Int)) false (0 : Int) vAw_s0), (!!vAw_0) = true → (!lVmCo_s0 n0) = true → lok pPr_l29_st (18446744073709551616 : Nat) (pPr_l29_T.mk true n0 (Int.ofNat n0) (0 : Int) y0 []), (!!vAw_0) = true → (!lVmCo_s0 n0) = true → isX (X.e (0 : Nat)) (pPr_s0 n0 true y0) = true → lok pPr_l61_st (18446744073709551616 : Nat) (pPr_l61_T.mk (pPr_l29_T.a0 (V.valOf (pPr_s0 n0 true y0))) (0 : Int) (pPr_l29_T.a5 (V.valOf (pPr_s0 n0 true y0)))), (!!vAw_0) = true → (!lVmCo_s0 n0) = true → lok pPr_l29_st (18446744073709551616 : Nat) (pPr_l29_T.mk false n0 (Int.ofNat n0) (0 : Int) y0 []), (!!vAw_0) = true → (!lVmCo_s0 n0) = true → isX (X.e (0 : Nat)) (pPr_s0 n0 false y0) = true → lok pPr_l61_st (18446744073709551616 : Nat) (pPr_l61_T.mk (pPr_l29_T.a0 (V.valOf (pPr_s0 n0 false y0))) (0 : Int) (pPr_l29_T.a5 (V.valOf (pPr_s0 n0 false y0)))), (!!vAw_0) = true → (!lVmCo_s0 n0) = true → (!pCh_s0 (pPr_0 n0 true y0)) = true → lok pCh_l29_st (18446744073709551616 : Nat) (pCh_l29_T.mk true (0 : Int) (Int.ofNat (List.length (pPr_0 n0 true y0))) (0 : Int) (pPr_0 n0 true y0)), (!!vAw_0) = true → (!lVmCo_s0 n0) = true → (!pCh_s0 (pPr_0 n0 true y0)) = true → isX (X.e (0 : Nat)) (pCh_s1 true (pPr_0 n0 true y0)) = true → lok pFu_l29_st (18446744073709551616 : Nat) (pFu_l29_T.mk (0 : Int) (Int.ofNat (List.length (pPr_0 n0 true y0))) (Int.ofNat (List.length (pPr_0 n0 true y0))) (0 : Int) (pPr_0 n0 true y0)), (!!vAw_0) = true → (!lVmCo_s0 n0) = true → vRun_s0 (pPr_0 n0 true y0) = true → lok vRa5_l13_st (18446744073709551616 : Nat) (vRa5_l13_T.mk (Int.ofNat (List.length (pPr_0 n0 true y0))) false (0 : Int) (vRun_s2 (vCol_0 x2_0) (vCol_1 x2_1) (vCol_2 x2_2) (vCol_3 x2_3) (fOf_0 x4) (fOf_0 x5) (vSh_s1 x6) (65536 : Int) (0 : Int) (0 : Int) (0 : Int) (0 : Int) (0 : Int) (0 : Int) (0 : Int) (0 : Int) (0 : Int) (0 : Int) (0 : Int) (0 : Int) (0 : Int) (0 : Int) (0 : Int) (0 : Int) (0 : Int) (0 : Int) (0 : Int) (0 : Int) (0 : Int) (0 : Int) (0 : Int) (0 : Int) (0 : Int) (0 : Int) (0 : Int) (0 : Int) (0 : Int) (0 : Int) (0 : Int) (0 : Int) (0 : Int) (0 : Int) (0 : Int) (0 : Int) (0 : Int) (0 : Int) (0 : Int) (0 : Int)) false (0 : Int) (pPr_0 n0 true y0)), (!!vAw_0) = true → (!lVmCo_s0 n0) = true → (!pCh_s0 (pPr_0 n0 true y0)) = true → lok pCh_l29_st (18446744073709551616 : Nat) (pCh_l29_T.mk true (0 : Int) (Int.ofNat (List.length (pPr_0 n0 true y0))) (0 : Int) (pPr_0 n0 true y0)), (!!vAw_0) = true → (!lVmCo_s0 n0) = true → (!pCh_s0 (pPr_0 n0 true y0)) = true → isX (X.e (0 : Nat)) (pCh_s1 true (pPr_0 n0 true y0)) = true → lok pFu_l29_st (18446744073709551616 : Nat) (pFu_l29_T.mk (0 : Int) (Int.ofNat (List.length (pPr_0 n0 true y0))) (Int.ofNat (List.length (pPr_0 n0 true y0))) (0 : Int) (pPr_0 n0 true y0)), (!!vAw_0) = true → (!lVmCo_s0 n0) = true → vRun_s0 (pPr_0 n0 true y0) = true → lok vRa5_l13_st (18446744073709551616 : Nat) (vRa5_l13_T.mk (Int.ofNat (List.length (pPr_0 n0 true y0))) false (0 : Int) (vRun_s2 (vCol_0 (vCol_0 x2_0)) (vCol_1 (vCol_1 x2_1)) (vCol_2 (vCol_2 x2_2)) (vCol_3 (vCol_3 x2_3)) (fOf_0 x4) (fOf_0 x5) (vSh_s1 (lVmCo_s21 x6)) (65536 : Int) (0 : Int) (0 : Int) (0 : Int) (0 : Int) (0 : Int) (0 : Int) (0 : Int) (0 : Int) (0 : Int) (0 : Int) (0 : Int) (0 : Int) (0 : Int) (0 : Int) (0 : Int) (0 : Int) (0 : Int) (0 : Int) (0 : Int) (0 : Int) (0 : Int) (0 : Int) (0 : Int) (0 : Int) (0 : Int) (0 : Int) (0 : Int) (0 : Int) (0 : Int) (0 : Int) (0 : Int) (0 : Int) (0 : Int) (0 : Int) (0 : Int) (0 : Int) (0 : Int) (0 : Int) (0 : Int) (0 : Int)) false (0 : Int) (pPr_0 n0 true y0)), (!!vAw_0) = true → (!lVmCo_s0 n0) = true → (!pCh_s0 (pPr_0 n0 false y0)) = true → lok pCh_l29_st (18446744073709551616 : Nat) (pCh_l29_T.mk true (0 : Int) (Int.ofNat (List.length (pPr_0 n0 false y0))) (0 : Int) (pPr_0 n0 false y0)), (!!vAw_0) = true → (!lVmCo_s0 n0) = true → (!pCh_s0 (pPr_0 n0 false y0)) = true → isX (X.e (0 : Nat)) (pCh_s1 true (pPr_0 n0 false y0)) = true → lok pFu_l29_st (18446744073709551616 : Nat) (pFu_l29_T.mk (0 : Int) (Int.ofNat (List.length (pPr_0 n0 false y0))) (Int.ofNat (List.length (pPr_0 n0 false y0))) (0 : Int) (pPr_0 n0 false y0)), (!!vAw_0) = true → (!lVmCo_s0 n0) = true → vRun_s0 (pPr_0 n0 false y0) = true → lok vRa5_l13_st (18446744073709551616 : Nat) (vRa5_l13_T.mk (Int.ofNat (List.length (pPr_0 n0 false y0))) false (0 : Int) (vRun_s2 x1_0 x1_1 x1_2 x1_3 x2_0 x2_1 x2_2 x2_3 (0 : Int) (0 : Int) (0 : Int) (0 : Int) (0 : Int) (0 : Int) (0 : Int) (0 : Int) x3_0 x3_1 x3_2 x3_3 x3_4 x3_5 x3_6 x3_7 x3_8 x3_9 x3_10 x3_11 x3_12 x3_13 x3_14 x3_15 (0 : Int) (0 : Int) (0 : Int) (0 : Int) (0 : Int) (0 : Int) (0 : Int) (0 : Int) (0 : Int) (0 : Int) (0 : Int) (0 : Int) (0 : Int) (0 : Int) (0 : Int) (0 : Int)) false (0 : Int) (pPr_0 n0 false y0)), (!!vAw_0) = true → (!lVmCo_s0 n0) = true → (lVmCo_s5 n0 x1_0 x1_1 x1_2 x1_3 x2_0 x2_1 x2_2 x2_3 x3_0 x3_1 x3_2 x3_3 x3_4 x3_5 x3_6 x3_7 x3_8 x3_9 x3_10 x3_11 x3_12 x3_13 x3_14 x3_15 x4 x5 x6 y0 && (lVmCo_s10 n0 x1_0 x1_1 x1_2 x1_3 x2_0 x2_1 x2_2 x2_3 x3_0 x3_1 x3_2 x3_3 x3_4 x3_5 x3_6 x3_7 x3_8 x3_9 x3_10 x3_11 x3_12 x3_13 x3_14 x3_15 x4 x5 x6 y0 && (lVmCo_s15 n0 x1_0 x1_1 x1_2 x1_3 x2_0 x2_1 x2_2 x2_3 x3_0 x3_1 x3_2 x3_3 x3_4 x3_5 x3_6 x3_7 x3_8 x3_9 x3_10 x3_11 x3_12 x3_13 x3_14 x3_15 x4 x5 x6 y0 && !lVmCo_s19 n0 x1_0 x1_1 x1_2 x1_3 x2_0 x2_1 x2_2 x2_3 x3_0 x3_1 x3_2 x3_3 x3_4 x3_5 x3_6 x3_7 x3_8 x3_9 x3_10 x3_11 x3_12 x3_13 x3_14 x3_15 x4 x5 x6 y0))) = true → lVmCo_s22 n0 x2_0 x2_1 x2_2 x2_3 x4 x5 x6 y0 = true → lVmCo_s23 n0 x2_0 x2_1 x2_2 x2_3 x4 x5 x6 y0 = true → lVmCo_s25 n0 x2_0 x2_1 x2_2 x2_3 x4 x5 x6 y0 = true → lok pFu_l29_st (18446744073709551616 : Nat) (pFu_l29_T.mk (0 : Int) (Int.ofNat (List.length (pPr_0 n0 true y0))) (Int.ofNat (List.length (pPr_0 n0 true y0))) (0 : Int) (pPr_0 n0 true y0))]
theorem lVmCo_p (n0 : Nat) (x1_0 x1_1 x1_2 x1_3 x2_0 x2_1 x2_2 x2_3 x3_0 x3_1 x3_2 x3_3 x3_4 x3_5 x3_6 x3_7 x3_8 x3_9 x3_10 x3_11 x3_12 x3_13 x3_14 x3_15 x4 x5 x6 : Int) (y0 : List (List Int)) : evG Try.prog tabUe0 2000 25 [0, 1, 2, 3, 4, 5, 6, 8, 9, 10, 14, 15, 16, 17, 18, 19, 20, 21, 22, 23, 24, 25, 27, 30, 66, 67, 102] [] [] [.a (.slc true 0 0 0 6 0 n0), .g [.int true .i64 x1_0, .int true .i64 x1_1, .int true .i64 x1_2, .int true .i64 x1_3], .g [.int true .i64 x2_0, .int true .i64 x2_1, .int true .i64 x2_2, .int true .i64 x2_3], .g [.int true .i64 x3_0, .int true .i64 x3_1, .int true .i64 x3_2, .int true .i64 x3_3, .int true .i64 x3_4, .int true .i64 x3_5, .int true .i64 x3_6, .int true .i64 x3_7, .int true .i64 x3_8, .int true .i64 x3_9, .int true .i64 x3_10, .int true .i64 x3_11, .int true .i64 x3_12, .int true .i64 x3_13, .int true .i64 x3_14, .int true .i64 x3_15], .a (.int true .i64 x4), .a (.int true .i64 x5), .a (.int true .i64 x6)] [⟨⟨0, 0, true, some ⟨0, [.int .u8, .int .u8, .int .u8, .int .u8, .int .i16, .bool], y0, none⟩⟩, []⟩] = some (lVmCo_o n0 x1_0 x1_1 x1_2 x1_3 x2_0 x2_1 x2_2 x2_3 x3_0 x3_1 x3_2 x3_3 x3_4 x3_5 x3_6 x3_7 x3_8 x3_9 x3_10 x3_11 x3_12 x3_13 x3_14 x3_15 x4 x5 x6 y0, LV.a (At.bool true (lVmCo_0 n0 x1_0 x1_1 x1_2 x1_3 x2_0 x2_1 x2_2 x2_3 x3_0 x3_1 x3_2 x3_3 x3_4 x3_5 x3_6 x3_7 x3_8 x3_9 x3_10 x3_11 x3_12 x3_13 x3_14 x3_15 x4 x5 x6 y0)), [none]) := by kernel_rfl
def lVmCo_c : Con
  | [.a (.slc true 0 0 0 6 0 n0), .g [.int true .i64 x1_0, .int true .i64 x1_1, .int true .i64 x1_2, .int true .i64 x1_3], .g [.int true .i64 x2_0, .int true .i64 x2_1, .int true .i64 x2_2, .int true .i64 x2_3], .g [.int true .i64 x3_0, .int true .i64 x3_1, .int true .i64 x3_2, .int true .i64 x3_3, .int true .i64 x3_4, .int true .i64 x3_5, .int true .i64 x3_6, .int true .i64 x3_7, .int true .i64 x3_8, .int true .i64 x3_9, .int true .i64 x3_10, .int true .i64 x3_11, .int true .i64 x3_12, .int true .i64 x3_13, .int true .i64 x3_14, .int true .i64 x3_15], .a (.int true .i64 x4), .a (.int true .i64 x5), .a (.int true .i64 x6)], [⟨⟨0, 0, true, some ⟨0, [.int .u8, .int .u8, .int .u8, .int .u8, .int .i16, .bool], y0, none⟩⟩, []⟩] => some (lVmCo_o n0 x1_0 x1_1 x1_2 x1_3 x2_0 x2_1 x2_2 x2_3 x3_0 x3_1 x3_2 x3_3 x3_4 x3_5 x3_6 x3_7 x3_8 x3_9 x3_10 x3_11 x3_12 x3_13 x3_14 x3_15 x4 x5 x6 y0, LV.a (At.bool true (lVmCo_0 n0 x1_0 x1_1 x1_2 x1_3 x2_0 x2_1 x2_2 x2_3 x3_0 x3_1 x3_2 x3_3 x3_4 x3_5 x3_6 x3_7 x3_8 x3_9 x3_10 x3_11 x3_12 x3_13 x3_14 x3_15 x4 x5 x6 y0)), [none])
  | _, _ => none
theorem lVmCo_ok : ConOK Try.prog 25 (normC lVmCo_c) := normC_ok (by
  intro args bs obs lv out h ho φ vs w may ha hM
  unfold lVmCo_c at h
  split at h
  · simp only [Option.some.injEq, Prod.mk.injEq] at h
    obtain ⟨rfl, rfl, rfl⟩ := h
    rename_i n0 x1_0 x1_1 x1_2 x1_3 x2_0 x2_1 x2_2 x2_3 x3_0 x3_1 x3_2 x3_3 x3_4 x3_5 x3_6 x3_7 x3_8 x3_9 x3_10 x3_11 x3_12 x3_13 x3_14 x3_15 x4 x5 x6 y0
    exact evG_ok tabUe0_ok follows _ _ _ _ _ (lVmCo_p n0 x1_0 x1_1 x1_2 x1_3 x2_0 x2_1 x2_2 x2_3 x3_0 x3_1 x3_2 x3_3 x3_4 x3_5 x3_6 x3_7 x3_8 x3_9 x3_10 x3_11 x3_12 x3_13 x3_14 x3_15 x4 x5 x6 y0) ho φ vs w may ha hM
  · cases h)
theorem lVmCo_en : Enters Try.prog 25 := fun args => by kernel_rfl
-- 2397 1146 96 ms

def tabUe2 : Tab := (25, normC lVmCo_c) :: tabUe0
theorem tabUe2_ok : TOK Try.prog tabUe2 := TOK.cons lVmCo_en lVmCo_ok (tabUe0_ok)

end Go.Proofs.Ytcdejlgophpdjaa
end

