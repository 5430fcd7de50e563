/-
  Contracts of functions of the program, each run on the local memory (printed by a program of this session's own: wip/tools).
-/
import Derived.WalkKit
import Derived.Test.YtcdejlgophpdjaaQFrameTells2
section
namespace Go.Proofs.Ytcdejlgophpdjaa
open Go Go.RowKit Go.Proofs.Ytcdejlgophpdjaa.V
set_option linter.unusedVariables false

/-! (azulejo/azulejolaw20.Small).Sized -/
noncomputable def fSized_l7475_code : Go.Code := loopOf (subs (bodyOf Try.prog 72) 1 7475)
structure fSized_l7475_T where
  a0 : Int
  a1 : Int
  a2 : Int
  a3 : Int
  a4 : Bool
  a5 : Int
  a6 : Int
  a7 : Int
  a8 : Int
  a9 : Nat
  a10 : List (List Int)
  a11 : Int
  a12 : Int
  a13 : Int
  a14 : Int
  a15 : List (List Int)
  deriving Inhabited
def fSized_l7475_hd (v : fSized_l7475_T) : HS := HS.mk [(nat_lit 1, LV.a (At.int true IntKind.i64 (fSized_l7475_T.a0 v))), (nat_lit 3, LV.a (At.ptr (nat_lit 0) (nat_lit 0))), (nat_lit 6, LV.a (At.ptr (nat_lit 2) (nat_lit 0))), (nat_lit 7, LV.a (At.ptr (nat_lit 3) (nat_lit 0))), (nat_lit 8, LV.a (At.int true IntKind.i64 (fSized_l7475_T.a1 v))), (nat_lit 15, LV.a (At.int true IntKind.i64 (fSized_l7475_T.a2 v))), (nat_lit 16, LV.a (At.int true IntKind.i64 (fSized_l7475_T.a3 v))), (nat_lit 17, LV.a (At.bool true (fSized_l7475_T.a4 v))), (nat_lit 19, LV.a (At.int true IntKind.i64 (fSized_l7475_T.a5 v))), (nat_lit 20, LV.a (At.int true IntKind.i64 (fSized_l7475_T.a6 v)))] [BC.mk (Hd.mk (nat_lit 0) (nat_lit 3) true none) [some (At.int true IntKind.u8 (fSized_l7475_T.a7 v)), some (At.int true IntKind.u8 (fSized_l7475_T.a8 v)), some (At.slc true (nat_lit 1) (nat_lit 0) (nat_lit 0) (nat_lit 6) (nat_lit 0) (fSized_l7475_T.a9 v))], BC.mk (Hd.mk (nat_lit 0) (nat_lit 0) true (some (Rw.mk (nat_lit 0) [Kd.int IntKind.u8, Kd.int IntKind.u8, Kd.int IntKind.u8, Kd.int IntKind.u8, Kd.int IntKind.u16, Kd.int IntKind.u8] (fSized_l7475_T.a10 v) none))) [], BC.mk (Hd.mk (nat_lit 0) (nat_lit 3) true none) [some (At.int true IntKind.i64 (fSized_l7475_T.a11 v)), some (At.int true IntKind.i64 (fSized_l7475_T.a12 v)), some At.nils], BC.mk (Hd.mk (nat_lit 0) (nat_lit 3) false none) [some (At.int true IntKind.i64 (fSized_l7475_T.a13 v)), some (At.int true IntKind.i64 (fSized_l7475_T.a14 v)), some (At.vec (nat_lit 4) (nat_lit 0) (nat_lit 6))], BC.mk (Hd.mk (nat_lit 0) (nat_lit 0) false (some (Rw.mk (nat_lit 0) [Kd.int IntKind.u8, Kd.int IntKind.u8, Kd.int IntKind.u8, Kd.int IntKind.u8, Kd.int IntKind.i64, Kd.int IntKind.u8] (fSized_l7475_T.a15 v) none))) []]
def fSized_l7475_s0 (v : fSized_l7475_T) : Bool := decide (fSized_l7475_T.a6 v < fSized_l7475_T.a5 v)
def fSized_l7475_s1 (v : fSized_l7475_T) : Bool := decide ((0 : Int) < Int.ofNat (fSized_l7475_T.a9 v))
def fSized_l7475_s2 (v : fSized_l7475_T) : Int := Int.tmod (IntKind.wrap IntKind.i64 (IntKind.wrap IntKind.i64 (fSized_l7475_T.a1 v * fSized_l7475_T.a0 v) + fSized_l7475_T.a6 v)) (Int.ofNat (fSized_l7475_T.a9 v))
def fSized_l7475_st (v : fSized_l7475_T) : List Prop × List (X × Bool × fSized_l7475_T) := ([fSized_l7475_s0 v = true → fSized_l7475_s1 v = true → Int.ofNat (fSized_l7475_T.a9 v) ≠ (0 : Int), fSized_l7475_s0 v = true → fSized_l7475_s1 v = true → (0 : Int) ≤ fSized_l7475_s2 v ∧ fSized_l7475_s2 v < Int.ofNat (fSized_l7475_T.a9 v), fSized_l7475_s0 v = true → fSized_l7475_s1 v = true → fSet_s1 (fSized_l7475_T.a13 v) (fSized_l7475_T.a14 v) (fSized_l7475_T.a6 v) (fSized_l7475_T.a1 v) (fSized_l7475_T.a15 v) = true → (0 : Int) ≤ fSet_s0 (fSized_l7475_T.a13 v) (fSized_l7475_T.a6 v) (fSized_l7475_T.a1 v) ∧ fSet_s0 (fSized_l7475_T.a13 v) (fSized_l7475_T.a6 v) (fSized_l7475_T.a1 v) < Int.ofNat (List.length (fSized_l7475_T.a15 v))], [(X.e (2 : Nat), !fSized_l7475_s0 v, fSized_l7475_T.mk (fSized_l7475_T.a0 v) (fSized_l7475_T.a1 v) (fSized_l7475_T.a2 v) (fSized_l7475_T.a3 v) (fSized_l7475_T.a4 v) (fSized_l7475_T.a5 v) (fSized_l7475_T.a6 v) (fSized_l7475_T.a7 v) (fSized_l7475_T.a8 v) (fSized_l7475_T.a9 v) (fSized_l7475_T.a10 v) (fSized_l7475_T.a11 v) (fSized_l7475_T.a12 v) (fSized_l7475_T.a13 v) (fSized_l7475_T.a14 v) (fSized_l7475_T.a15 v)), (X.n, fSized_l7475_s0 v, fSized_l7475_T.mk (fSized_l7475_T.a0 v) (fSized_l7475_T.a1 v) (fSized_l7475_T.a2 v) (fSized_l7475_T.a3 v) (fSized_l7475_T.a4 v) (fSized_l7475_T.a5 v) (IntKind.wrap IntKind.i64 (fSized_l7475_T.a6 v + (1 : Int))) (fSized_l7475_T.a7 v) (fSized_l7475_T.a8 v) (fSized_l7475_T.a9 v) (fSized_l7475_T.a10 v) (fSized_l7475_T.a11 v) (fSized_l7475_T.a12 v) (fSized_l7475_T.a13 v) (fSized_l7475_T.a14 v) (bif fSized_l7475_s1 v then fSet_0 (fSized_l7475_T.a13 v) (fSized_l7475_T.a14 v) (fSized_l7475_T.a6 v) (fSized_l7475_T.a1 v) (rget (fSized_l7475_T.a10 v) (nat_lit 0 + Int.toNat (fSized_l7475_s2 v)) (0 : Nat)) (rget (fSized_l7475_T.a10 v) (nat_lit 0 + Int.toNat (fSized_l7475_s2 v)) (1 : Nat)) (rget (fSized_l7475_T.a10 v) (nat_lit 0 + Int.toNat (fSized_l7475_s2 v)) (2 : Nat)) (rget (fSized_l7475_T.a10 v) (nat_lit 0 + Int.toNat (fSized_l7475_s2 v)) (3 : Nat)) (IntKind.wrap IntKind.i64 (rget (fSized_l7475_T.a10 v) (nat_lit 0 + Int.toNat (fSized_l7475_s2 v)) (4 : Nat))) (rget (fSized_l7475_T.a10 v) (nat_lit 0 + Int.toNat (fSized_l7475_s2 v)) (5 : Nat)) (fSized_l7475_T.a15 v) else fSized_l7475_T.a15 v))])
def fSized_l7475_rd : HS → Option fSized_l7475_T
  | HS.mk [(1, LV.a (At.int true IntKind.i64 a0)), (3, LV.a (At.ptr 0 0)), (6, LV.a (At.ptr 2 0)), (7, LV.a (At.ptr 3 0)), (8, LV.a (At.int true IntKind.i64 a1)), (15, LV.a (At.int true IntKind.i64 a2)), (16, LV.a (At.int true IntKind.i64 a3)), (17, LV.a (At.bool true a4)), (19, LV.a (At.int true IntKind.i64 a5)), (20, LV.a (At.int true IntKind.i64 a6))] [BC.mk (Hd.mk 0 3 true none) [some (At.int true IntKind.u8 a7), some (At.int true IntKind.u8 a8), some (At.slc true 1 0 0 6 0 a9)], BC.mk (Hd.mk 0 0 true (some (Rw.mk 0 [Kd.int IntKind.u8, Kd.int IntKind.u8, Kd.int IntKind.u8, Kd.int IntKind.u8, Kd.int IntKind.u16, Kd.int IntKind.u8] a10 none))) [], BC.mk (Hd.mk 0 3 true none) [some (At.int true IntKind.i64 a11), some (At.int true IntKind.i64 a12), some At.nils], BC.mk (Hd.mk 0 3 false none) [some (At.int true IntKind.i64 a13), some (At.int true IntKind.i64 a14), some (At.vec 4 0 6)], BC.mk (Hd.mk 0 0 false (some (Rw.mk 0 [Kd.int IntKind.u8, Kd.int IntKind.u8, Kd.int IntKind.u8, Kd.int IntKind.u8, Kd.int IntKind.i64, Kd.int IntKind.u8] a15 none))) []] => some (fSized_l7475_T.mk a0 a1 a2 a3 a4 a5 a6 a7 a8 a9 a10 a11 a12 a13 a14 a15)
  | _ => none
def fSized_l7475_sum : V.Sum := loopS fSized_l7475_hd fSized_l7475_rd fSized_l7475_st 18446744073709551616 [X.e (2 : Nat)] [0, 1, 2, 3, 6, 7, 8, 9, 10, 15, 16, 17, 19, 20, 21, 27] [1, 3, 6, 7, 8, 15, 16, 17, 19, 20] [3, 4] [4] [] 2
theorem fSized_l7475_E : ∀ v, bodyF Try.prog tabFg1 (ntOf Try.prog 72) [0, 1, 2, 3, 6, 7, 8, 9, 10, 15, 16, 17, 19, 20, 21, 27] [1, 3, 6, 7, 8, 15, 16, 17, 19, 20] [] 2000 [3, 4] [4] fSized_l7475_code 29900 (fSized_l7475_hd v) = some ((fSized_l7475_st v).1, (fSized_l7475_st v).2.map fun q => (q.1, q.2.1, fSized_l7475_hd q.2.2)) := fun v => by kernel_rfl
set_option maxHeartbeats 2000000 in
theorem fSized_l7475_R : ∀ h v, fSized_l7475_rd h = some v → h = fSized_l7475_hd v := by
  intro h v e
  unfold fSized_l7475_rd at e
  split at e
  · simp only [Option.some.injEq] at e; subst e; rfl
  · cases e
set_option maxRecDepth 100000 in
theorem fSized_l7475_sok : SumOK Try.prog (ntOf Try.prog 72) [0, 1, 2, 3, 6, 7, 8, 9, 10, 15, 16, 17, 19, 20, 21, 27] (.block (blockOf (subs (bodyOf Try.prog 72) 1 7475)) (.loop fSized_l7475_code)) fSized_l7475_sum := loopS_ok tabFg1_ok follows fSized_l7475_E fSized_l7475_R (fun v => by kernel_rfl) (LOK_of _ _ (LOK_nil'))
noncomputable def fSized_l29_code : Go.Code := loopOf (subs (bodyOf Try.prog 72) 1 29)
structure fSized_l29_T where
  a0 : Int
  a1 : Int
  a2 : Int
  a3 : Int
  a4 : Int
  a5 : Nat
  a6 : List (List Int)
  a7 : Int
  a8 : Int
  a9 : Int
  a10 : Int
  a11 : List (List Int)
  deriving Inhabited
def fSized_l29_hd (v : fSized_l29_T) : HS := HS.mk [(nat_lit 1, LV.a (At.int true IntKind.i64 (fSized_l29_T.a0 v))), (nat_lit 3, LV.a (At.ptr (nat_lit 0) (nat_lit 0))), (nat_lit 6, LV.a (At.ptr (nat_lit 2) (nat_lit 0))), (nat_lit 7, LV.a (At.ptr (nat_lit 3) (nat_lit 0))), (nat_lit 15, LV.a (At.int true IntKind.i64 (fSized_l29_T.a1 v))), (nat_lit 16, LV.a (At.int true IntKind.i64 (fSized_l29_T.a2 v)))] [BC.mk (Hd.mk (nat_lit 0) (nat_lit 3) true none) [some (At.int true IntKind.u8 (fSized_l29_T.a3 v)), some (At.int true IntKind.u8 (fSized_l29_T.a4 v)), some (At.slc true (nat_lit 1) (nat_lit 0) (nat_lit 0) (nat_lit 6) (nat_lit 0) (fSized_l29_T.a5 v))], BC.mk (Hd.mk (nat_lit 0) (nat_lit 0) true (some (Rw.mk (nat_lit 0) [Kd.int IntKind.u8, Kd.int IntKind.u8, Kd.int IntKind.u8, Kd.int IntKind.u8, Kd.int IntKind.u16, Kd.int IntKind.u8] (fSized_l29_T.a6 v) none))) [], BC.mk (Hd.mk (nat_lit 0) (nat_lit 3) true none) [some (At.int true IntKind.i64 (fSized_l29_T.a7 v)), some (At.int true IntKind.i64 (fSized_l29_T.a8 v)), some At.nils], BC.mk (Hd.mk (nat_lit 0) (nat_lit 3) false none) [some (At.int true IntKind.i64 (fSized_l29_T.a9 v)), some (At.int true IntKind.i64 (fSized_l29_T.a10 v)), some (At.vec (nat_lit 4) (nat_lit 0) (nat_lit 6))], BC.mk (Hd.mk (nat_lit 0) (nat_lit 0) false (some (Rw.mk (nat_lit 0) [Kd.int IntKind.u8, Kd.int IntKind.u8, Kd.int IntKind.u8, Kd.int IntKind.u8, Kd.int IntKind.i64, Kd.int IntKind.u8] (fSized_l29_T.a11 v) none))) []]
def fSized_l29_s0 (v : fSized_l29_T) : Bool := decide (fSized_l29_T.a2 v < fSized_l29_T.a1 v)
def fSized_l29_s1 (v : fSized_l29_T) : Option (X × fSized_l7475_T) := lrun fSized_l7475_st (18446744073709551616 : Nat) (fSized_l7475_T.mk (fSized_l29_T.a0 v) (fSized_l29_T.a2 v) (fSized_l29_T.a1 v) (fSized_l29_T.a2 v) (fSized_l29_s0 v) (fSized_l29_T.a0 v) (0 : Int) (fSized_l29_T.a3 v) (fSized_l29_T.a4 v) (fSized_l29_T.a5 v) (fSized_l29_T.a6 v) (fSized_l29_T.a7 v) (fSized_l29_T.a8 v) (fSized_l29_T.a9 v) (fSized_l29_T.a10 v) (fSized_l29_T.a11 v))
def fSized_l29_st (v : fSized_l29_T) : List Prop × List (X × Bool × fSized_l29_T) := ([fSized_l29_s0 v = true → lok fSized_l7475_st (18446744073709551616 : Nat) (fSized_l7475_T.mk (fSized_l29_T.a0 v) (fSized_l29_T.a2 v) (fSized_l29_T.a1 v) (fSized_l29_T.a2 v) (fSized_l29_s0 v) (fSized_l29_T.a0 v) (0 : Int) (fSized_l29_T.a3 v) (fSized_l29_T.a4 v) (fSized_l29_T.a5 v) (fSized_l29_T.a6 v) (fSized_l29_T.a7 v) (fSized_l29_T.a8 v) (fSized_l29_T.a9 v) (fSized_l29_T.a10 v) (fSized_l29_T.a11 v))], [(X.e (0 : Nat), !fSized_l29_s0 v, fSized_l29_T.mk (fSized_l29_T.a0 v) (fSized_l29_T.a1 v) (fSized_l29_T.a2 v) (fSized_l29_T.a3 v) (fSized_l29_T.a4 v) (fSized_l29_T.a5 v) (fSized_l29_T.a6 v) (fSized_l29_T.a7 v) (fSized_l29_T.a8 v) (fSized_l29_T.a9 v) (fSized_l29_T.a10 v) (fSized_l29_T.a11 v)), (X.n, fSized_l29_s0 v && isX (X.e (2 : Nat)) (fSized_l29_s1 v), fSized_l29_T.mk (fSized_l7475_T.a0 (V.valOf (fSized_l29_s1 v))) (fSized_l7475_T.a2 (V.valOf (fSized_l29_s1 v))) (IntKind.wrap IntKind.i64 (fSized_l7475_T.a3 (V.valOf (fSized_l29_s1 v)) + (1 : Int))) (fSized_l29_T.a3 v) (fSized_l29_T.a4 v) (fSized_l29_T.a5 v) (fSized_l29_T.a6 v) (fSized_l29_T.a7 v) (fSized_l29_T.a8 v) (fSized_l7475_T.a13 (V.valOf (fSized_l29_s1 v))) (fSized_l7475_T.a14 (V.valOf (fSized_l29_s1 v))) (fSized_l7475_T.a15 (V.valOf (fSized_l29_s1 v))))])
def fSized_l29_rd : HS → Option fSized_l29_T
  | HS.mk [(1, LV.a (At.int true IntKind.i64 a0)), (3, LV.a (At.ptr 0 0)), (6, LV.a (At.ptr 2 0)), (7, LV.a (At.ptr 3 0)), (15, LV.a (At.int true IntKind.i64 a1)), (16, LV.a (At.int true IntKind.i64 a2))] [BC.mk (Hd.mk 0 3 true none) [some (At.int true IntKind.u8 a3), some (At.int true IntKind.u8 a4), some (At.slc true 1 0 0 6 0 a5)], BC.mk (Hd.mk 0 0 true (some (Rw.mk 0 [Kd.int IntKind.u8, Kd.int IntKind.u8, Kd.int IntKind.u8, Kd.int IntKind.u8, Kd.int IntKind.u16, Kd.int IntKind.u8] a6 none))) [], BC.mk (Hd.mk 0 3 true none) [some (At.int true IntKind.i64 a7), some (At.int true IntKind.i64 a8), some At.nils], BC.mk (Hd.mk 0 3 false none) [some (At.int true IntKind.i64 a9), some (At.int true IntKind.i64 a10), some (At.vec 4 0 6)], BC.mk (Hd.mk 0 0 false (some (Rw.mk 0 [Kd.int IntKind.u8, Kd.int IntKind.u8, Kd.int IntKind.u8, Kd.int IntKind.u8, Kd.int IntKind.i64, Kd.int IntKind.u8] a11 none))) []] => some (fSized_l29_T.mk a0 a1 a2 a3 a4 a5 a6 a7 a8 a9 a10 a11)
  | _ => none
def fSized_l29_sum : V.Sum := loopS fSized_l29_hd fSized_l29_rd fSized_l29_st 18446744073709551616 [X.e (0 : Nat)] [0, 1, 2, 3, 6, 7, 8, 9, 10, 15, 16, 17, 19, 20, 21, 27] [1, 3, 6, 7, 15, 16] [3, 4] [4] [] 0
theorem fSized_l29_E : ∀ v, bodyF Try.prog tabFg1 (ntOf Try.prog 72) [0, 1, 2, 3, 6, 7, 8, 9, 10, 15, 16, 17, 19, 20, 21, 27] [1, 3, 6, 7, 15, 16] [(7475, fSized_l7475_sum)] 2000 [3, 4] [4] fSized_l29_code 116 (fSized_l29_hd v) = some ((fSized_l29_st v).1, (fSized_l29_st v).2.map fun q => (q.1, q.2.1, fSized_l29_hd q.2.2)) := fun v => by kernel_rfl
set_option maxHeartbeats 2000000 in
theorem fSized_l29_R : ∀ h v, fSized_l29_rd h = some v → h = fSized_l29_hd v := by
  intro h v e
  unfold fSized_l29_rd at e
  split at e
  · simp only [Option.some.injEq] at e; subst e; rfl
  · cases e
set_option maxRecDepth 100000 in
theorem fSized_l29_sok : SumOK Try.prog (ntOf Try.prog 72) [0, 1, 2, 3, 6, 7, 8, 9, 10, 15, 16, 17, 19, 20, 21, 27] (.block (blockOf (subs (bodyOf Try.prog 72) 1 29)) (.loop fSized_l29_code)) fSized_l29_sum := loopS_ok tabFg1_ok follows fSized_l29_E fSized_l29_R (fun v => by kernel_rfl) (LOK_of _ _ (LOK_cons (show subs fSized_l29_code 116 7475 = [.block (blockOf (subs (bodyOf Try.prog 72) 1 7475)) (.loop fSized_l7475_code)] from by kernel_rfl) fSized_l7475_sok (LOK_nil')))
def fSized_0 (sw : Int) (sh : Int) (ns : Nat) (x1 : Int) (x2 : Int) (s : List (List Int)) : Int := fSized_l29_T.a9 (V.valOf (lrun fSized_l29_st (18446744073709551616 : Nat) (fSized_l29_T.mk x1 x2 (0 : Int) sw sh ns s (0 : Int) (0 : Int) (fNew_s2 x1) (fNew_s5 x2) (fNew_0 x1 x2 (0 : Int) (0 : Int) (0 : Int) (0 : Int) (65535 : Int) (0 : Int)))))
def fSized_1 (sw : Int) (sh : Int) (ns : Nat) (x1 : Int) (x2 : Int) (s : List (List Int)) : Int := fSized_l29_T.a10 (V.valOf (lrun fSized_l29_st (18446744073709551616 : Nat) (fSized_l29_T.mk x1 x2 (0 : Int) sw sh ns s (0 : Int) (0 : Int) (fNew_s2 x1) (fNew_s5 x2) (fNew_0 x1 x2 (0 : Int) (0 : Int) (0 : Int) (0 : Int) (65535 : Int) (0 : Int)))))
def fSized_2 (sw : Int) (sh : Int) (ns : Nat) (x1 : Int) (x2 : Int) (s : List (List Int)) : List (List Int) := fSized_l29_T.a11 (V.valOf (lrun fSized_l29_st (18446744073709551616 : Nat) (fSized_l29_T.mk x1 x2 (0 : Int) sw sh ns s (0 : Int) (0 : Int) (fNew_s2 x1) (fNew_s5 x2) (fNew_0 x1 x2 (0 : Int) (0 : Int) (0 : Int) (0 : Int) (65535 : Int) (0 : Int)))))
def fSized_s0 (x1 : Int) (x2 : Int) : Int := bMul64_0 (IntKind.wrap IntKind.u64 (Int.ofNat (1 : Nat))) (IntKind.wrap IntKind.u64 (fNew_s6 x1 x2))
def fSized_s1 (x1 : Int) (x2 : Int) : Nat := sRep_s3 (fNew_s6 x1 x2) (0 : Int) (0 : Int) (0 : Int) (0 : Int) (65535 : Int) (0 : Int)
def fSized_o (sw : Int) (sh : Int) (ns : Nat) (x1 : Int) (x2 : Int) (r0 : Bool) (s : List (List Int)) : List Prop := [decide (fNew_s6 x1 x2 < (0 : Int)) = false, (bif decide ((0 : Int) < fSized_s0 x1 x2) then true else decide ((9223372036854775807 : Int) < sRep_s1 (fNew_s6 x1 x2))) = false, (0 : Int) ≤ IntKind.wrap IntKind.i64 (sRep_s1 (fNew_s6 x1 x2)) ∧ IntKind.wrap IntKind.i64 (sRep_s1 (fNew_s6 x1 x2)) = IntKind.wrap IntKind.i64 (sRep_s1 (fNew_s6 x1 x2)) ∧ IntKind.wrap IntKind.i64 (sRep_s1 (fNew_s6 x1 x2)) * Int.ofNat (24 : Nat) ≤ (70368744177664 : Int), lok sRep_l254_st (18446744073709551616 : Nat) (sRep_l254_T.mk (Int.ofNat (fSized_s1 x1 x2)) (List.take (0 : Nat) (sRep_s2 (fNew_s6 x1 x2)) ++ List.take (List.length (sRep_s2 (fNew_s6 x1 x2))) (sRep_s0 (0 : Int) (0 : Int) (0 : Int) (0 : Int) (65535 : Int) (0 : Int)) ++ List.drop ((0 : Nat) + fSized_s1 x1 x2) (sRep_s2 (fNew_s6 x1 x2)))), lok fSized_l29_st (18446744073709551616 : Nat) (fSized_l29_T.mk x1 x2 (0 : Int) sw sh ns s (0 : Int) (0 : Int) (fNew_s2 x1) (fNew_s5 x2) (fNew_0 x1 x2 (0 : Int) (0 : Int) (0 : Int) (0 : Int) (65535 : Int) (0 : Int)))]
theorem fSized_p (sw : Int) (sh : Int) (ns : Nat) (x1 : Int) (x2 : Int) (r0 : Bool) (s : List (List Int)) : evG Try.prog tabFg1 2000 72 [0, 1, 2, 3, 6, 7, 8, 9, 10, 15, 16, 17, 19, 20, 21, 27] [(29, fSized_l29_sum), (7475, fSized_l7475_sum)] [] [.g [.int true .u8 sw, .int true .u8 sh, .slc true 0 0 0 6 0 ns], .a (.int true .i64 x1), .a (.int true .i64 x2)] [⟨⟨0, 0, r0, some ⟨0, [.int .u8, .int .u8, .int .u8, .int .u8, .int .u16, .int .u8], s, none⟩⟩, []⟩] = some (fSized_o sw sh ns x1 x2 r0 s, LV.g [At.int true IntKind.i64 (fSized_0 sw sh ns x1 x2 s), At.int true IntKind.i64 (fSized_1 sw sh ns x1 x2 s), At.vec (nat_lit 1) (nat_lit 2) (nat_lit 6)], [none, some (BC.mk (Hd.mk (nat_lit 2) (nat_lit 0) false (some (Rw.mk (nat_lit 0) [Kd.int IntKind.u8, Kd.int IntKind.u8, Kd.int IntKind.u8, Kd.int IntKind.u8, Kd.int IntKind.i64, Kd.int IntKind.u8] (fSized_2 sw sh ns x1 x2 s) none))) [])]) := by kernel_rfl
def fSized_c : Con
  | [.g [.int true .u8 sw, .int true .u8 sh, .slc true 0 0 0 6 0 ns], .a (.int true .i64 x1), .a (.int true .i64 x2)], [⟨⟨0, 0, r0, some ⟨0, [.int .u8, .int .u8, .int .u8, .int .u8, .int .u16, .int .u8], s, none⟩⟩, []⟩] => some (fSized_o sw sh ns x1 x2 r0 s, LV.g [At.int true IntKind.i64 (fSized_0 sw sh ns x1 x2 s), At.int true IntKind.i64 (fSized_1 sw sh ns x1 x2 s), At.vec (nat_lit 1) (nat_lit 2) (nat_lit 6)], [none, some (BC.mk (Hd.mk (nat_lit 2) (nat_lit 0) false (some (Rw.mk (nat_lit 0) [Kd.int IntKind.u8, Kd.int IntKind.u8, Kd.int IntKind.u8, Kd.int IntKind.u8, Kd.int IntKind.i64, Kd.int IntKind.u8] (fSized_2 sw sh ns x1 x2 s) none))) [])])
  | _, _ => none
theorem fSized_ok : ConOK Try.prog 72 (normC fSized_c) := normC_ok (by
  intro args bs obs lv out h ho φ vs w may ha hM
  unfold fSized_c at h
  split at h
  · simp only [Option.some.injEq, Prod.mk.injEq] at h
    obtain ⟨rfl, rfl, rfl⟩ := h
    rename_i sw sh ns x1 x2 r0 s
    exact evG_okL' tabFg1_ok follows (LOK_cons (show subs (bodyOf Try.prog 72) 1 29 = [.block (blockOf (subs (bodyOf Try.prog 72) 1 29)) (.loop fSized_l29_code)] from by kernel_rfl) fSized_l29_sok (LOK_cons (show subs (bodyOf Try.prog 72) 1 7475 = [.block (blockOf (subs (bodyOf Try.prog 72) 1 7475)) (.loop fSized_l7475_code)] from by kernel_rfl) fSized_l7475_sok (LOK_nil'))) _ _ _ _ _ (fSized_p sw sh ns x1 x2 r0 s) ho φ vs w may ha hM
  · cases h)
theorem fSized_en : Enters Try.prog 72 := fun args => by kernel_rfl
-- 3979 27 16 ms

def tabFg2 : Tab := (72, normC fSized_c) :: tabFg1
theorem tabFg2_ok : TOK Try.prog tabFg2 := TOK.cons fSized_en fSized_ok (tabFg1_ok)

end Go.Proofs.Ytcdejlgophpdjaa
end

section
namespace Go.Proofs.Ytcdejlgophpdjaa
open Go Go.RowKit Go.Proofs.Ytcdejlgophpdjaa.V
set_option linter.unusedVariables false

/-! (azulejo/azulejolaw20.Small).Frame -/
def fSmF_s0 (sw : Int) : Int := IntKind.wrap IntKind.i64 ((1 : Int) + IntKind.wrap IntKind.i64 (Int.tmod sw (20 : Int)))
def fSmF_s1 (sh : Int) : Int := IntKind.wrap IntKind.i64 ((1 : Int) + IntKind.wrap IntKind.i64 (Int.tmod sh (20 : Int)))
def fSmF_0 (sw : Int) (sh : Int) (ns : Nat) (s : List (List Int)) : Int := fSized_0 sw sh ns (fSmF_s0 sw) (fSmF_s1 sh) s
def fSmF_1 (sw : Int) (sh : Int) (ns : Nat) (s : List (List Int)) : Int := fSized_1 sw sh ns (fSmF_s0 sw) (fSmF_s1 sh) s
def fSmF_2 (sw : Int) (sh : Int) (ns : Nat) (s : List (List Int)) : List (List Int) := fSized_2 sw sh ns (fSmF_s0 sw) (fSmF_s1 sh) s
def fSmF_o (sw : Int) (sh : Int) (ns : Nat) (r0 : Bool) (s : List (List Int)) : List Prop := [decide (fNew_s6 (fSmF_s0 sw) (fSmF_s1 sh) < (0 : Int)) = false, (bif decide ((0 : Int) < fSized_s0 (fSmF_s0 sw) (fSmF_s1 sh)) then true else decide ((9223372036854775807 : Int) < sRep_s1 (fNew_s6 (fSmF_s0 sw) (fSmF_s1 sh)))) = false, (0 : Int) ≤ IntKind.wrap IntKind.i64 (sRep_s1 (fNew_s6 (fSmF_s0 sw) (fSmF_s1 sh))) ∧ IntKind.wrap IntKind.i64 (sRep_s1 (fNew_s6 (fSmF_s0 sw) (fSmF_s1 sh))) = IntKind.wrap IntKind.i64 (sRep_s1 (fNew_s6 (fSmF_s0 sw) (fSmF_s1 sh))) ∧ IntKind.wrap IntKind.i64 (sRep_s1 (fNew_s6 (fSmF_s0 sw) (fSmF_s1 sh))) * Int.ofNat (24 : Nat) ≤ (70368744177664 : Int), lok sRep_l254_st (18446744073709551616 : Nat) (sRep_l254_T.mk (Int.ofNat (fSized_s1 (fSmF_s0 sw) (fSmF_s1 sh))) (List.take (0 : Nat) (sRep_s2 (fNew_s6 (fSmF_s0 sw) (fSmF_s1 sh))) ++ List.take (List.length (sRep_s2 (fNew_s6 (fSmF_s0 sw) (fSmF_s1 sh)))) (sRep_s0 (0 : Int) (0 : Int) (0 : Int) (0 : Int) (65535 : Int) (0 : Int)) ++ List.drop ((0 : Nat) + fSized_s1 (fSmF_s0 sw) (fSmF_s1 sh)) (sRep_s2 (fNew_s6 (fSmF_s0 sw) (fSmF_s1 sh))))), lok fSized_l29_st (18446744073709551616 : Nat) (fSized_l29_T.mk (fSmF_s0 sw) (fSmF_s1 sh) (0 : Int) sw sh ns s (0 : Int) (0 : Int) (fNew_s2 (fSmF_s0 sw)) (fNew_s5 (fSmF_s1 sh)) (fNew_0 (fSmF_s0 sw) (fSmF_s1 sh) (0 : Int) (0 : Int) (0 : Int) (0 : Int) (65535 : Int) (0 : Int)))]
theorem fSmF_p (sw : Int) (sh : Int) (ns : Nat) (r0 : Bool) (s : List (List Int)) : evG Try.prog tabFg2 2000 61 [0, 1, 2] [] [] [.g [.int true .u8 sw, .int true .u8 sh, .slc true 0 0 0 6 0 ns]] [⟨⟨0, 0, r0, some ⟨0, [.int .u8, .int .u8, .int .u8, .int .u8, .int .u16, .int .u8], s, none⟩⟩, []⟩] = some (fSmF_o sw sh ns r0 s, LV.g [At.int true IntKind.i64 (fSmF_0 sw sh ns s), At.int true IntKind.i64 (fSmF_1 sw sh ns s), At.vec (nat_lit 1) (nat_lit 2) (nat_lit 6)], [none, some (BC.mk (Hd.mk (nat_lit 2) (nat_lit 0) false (some (Rw.mk (nat_lit 0) [Kd.int IntKind.u8, Kd.int IntKind.u8, Kd.int IntKind.u8, Kd.int IntKind.u8, Kd.int IntKind.i64, Kd.int IntKind.u8] (fSmF_2 sw sh ns s) none))) [])]) := by kernel_rfl
def fSmF_c : Con
  | [.g [.int true .u8 sw, .int true .u8 sh, .slc true 0 0 0 6 0 ns]], [⟨⟨0, 0, r0, some ⟨0, [.int .u8, .int .u8, .int .u8, .int .u8, .int .u16, .int .u8], s, none⟩⟩, []⟩] => some (fSmF_o sw sh ns r0 s, LV.g [At.int true IntKind.i64 (fSmF_0 sw sh ns s), At.int true IntKind.i64 (fSmF_1 sw sh ns s), At.vec (nat_lit 1) (nat_lit 2) (nat_lit 6)], [none, some (BC.mk (Hd.mk (nat_lit 2) (nat_lit 0) false (some (Rw.mk (nat_lit 0) [Kd.int IntKind.u8, Kd.int IntKind.u8, Kd.int IntKind.u8, Kd.int IntKind.u8, Kd.int IntKind.i64, Kd.int IntKind.u8] (fSmF_2 sw sh ns s) none))) [])])
  | _, _ => none
theorem fSmF_ok : ConOK Try.prog 61 (normC fSmF_c) := normC_ok (by
  intro args bs obs lv out h ho φ vs w may ha hM
  unfold fSmF_c at h
  split at h
  · simp only [Option.some.injEq, Prod.mk.injEq] at h
    obtain ⟨rfl, rfl, rfl⟩ := h
    rename_i sw sh ns r0 s
    exact evG_ok tabFg2_ok follows _ _ _ _ _ (fSmF_p sw sh ns r0 s) ho φ vs w may ha hM
  · cases h)
theorem fSmF_en : Enters Try.prog 61 := fun args => by kernel_rfl
-- 105 9 7 ms

def tabFg3 : Tab := (61, normC fSmF_c) :: tabFg2
theorem tabFg3_ok : TOK Try.prog tabFg3 := TOK.cons fSmF_en fSmF_ok (tabFg2_ok)

end Go.Proofs.Ytcdejlgophpdjaa
end

section
namespace Go.Proofs.Ytcdejlgophpdjaa
open Go Go.RowKit Go.Proofs.Ytcdejlgophpdjaa.V

theorem vecLitC_ok : ConOK Try.prog 2 vecLitC := by
  intro args bs obs lv out h ho
  unfold vecLitC at h
  split at h
  · simp only [Option.some.injEq, Prod.mk.injEq] at h
    obtain ⟨rfl, rfl, rfl⟩ := h
    exact ho.1.elim
  · cases h
theorem vecLitC_en : Enters Try.prog 2 := fun args => by kernel_rfl
def tabFgl : Tab := (2, vecLitC) :: tabFg3
theorem tabFgl_ok : TOK Try.prog tabFgl := TOK.cons vecLitC_en vecLitC_ok tabFg3_ok

end Go.Proofs.Ytcdejlgophpdjaa
end

section
namespace Go.Proofs.Ytcdejlgophpdjaa
open Go Go.RowKit Go.Proofs.Ytcdejlgophpdjaa.V
set_option linter.unusedVariables false

/-! azulejo/crc.Sum -/
noncomputable def cSum_l14951_code : Go.Code := loopOf (subs (bodyOf Try.prog 118) 1 14951)
structure cSum_l14951_T where
  a0 : Int
  a1 : Int
  a2 : Int
  a3 : Int
  a4 : Int
  a5 : Bool
  a6 : Int
  a7 : List (List Int)
  deriving Inhabited
def cSum_l14951_hd (v : cSum_l14951_T) : HS := HS.mk [(nat_lit 2, LV.a (At.int true IntKind.u32 (cSum_l14951_T.a0 v))), (nat_lit 3, LV.a (At.int true IntKind.u32 (cSum_l14951_T.a1 v))), (nat_lit 5, LV.a (At.int true IntKind.u8 (cSum_l14951_T.a2 v))), (nat_lit 6, LV.a (At.vec (nat_lit 0) (nat_lit 0) (nat_lit 1))), (nat_lit 7, LV.a (At.int true IntKind.i64 (cSum_l14951_T.a3 v))), (nat_lit 8, LV.a (At.int true IntKind.i64 (cSum_l14951_T.a4 v))), (nat_lit 9, LV.a (At.bool true (cSum_l14951_T.a5 v))), (nat_lit 17, LV.a (At.int true IntKind.i64 (cSum_l14951_T.a6 v)))] [BC.mk (Hd.mk (nat_lit 0) (nat_lit 0) true (some (Rw.mk (nat_lit 0) [Kd.int IntKind.u8] (cSum_l14951_T.a7 v) none))) []]
def cSum_l14951_s0 (v : cSum_l14951_T) : Bool := decide (cSum_l14951_T.a6 v < (8 : Int))
def cSum_l14951_s1 (v : cSum_l14951_T) : Int := IntKind.wrap IntKind.u32 (cSum_l14951_T.a1 v * (2 : Int) ^ min (Int.toNat (1 : Int)) (IntKind.bits IntKind.u32))
def cSum_l14951_s2 : Int := Int.ofNat ((2 : Nat) ^ IntKind.bits IntKind.u32)
def cSum_l14951_st (v : cSum_l14951_T) : List Prop × List (X × Bool × cSum_l14951_T) := ([], [(X.e (2 : Nat), !cSum_l14951_s0 v, cSum_l14951_T.mk (cSum_l14951_T.a0 v) (cSum_l14951_T.a1 v) (cSum_l14951_T.a2 v) (cSum_l14951_T.a3 v) (cSum_l14951_T.a4 v) (cSum_l14951_T.a5 v) (cSum_l14951_T.a6 v) (cSum_l14951_T.a7 v)), (X.n, cSum_l14951_s0 v, cSum_l14951_T.mk (cSum_l14951_T.a0 v) (bif Int.fdiv (cSum_l14951_T.a1 v) ((2 : Int) ^ min (Int.toNat (31 : Int)) (IntKind.bits IntKind.u32)) == (1 : Int) then IntKind.wrap IntKind.u32 (Int.ofNat (Int.toNat (cSum_l14951_s1 v % cSum_l14951_s2) ^^^ Int.toNat ((79764919 : Int) % cSum_l14951_s2))) else cSum_l14951_s1 v) (cSum_l14951_T.a2 v) (cSum_l14951_T.a3 v) (cSum_l14951_T.a4 v) (cSum_l14951_T.a5 v) (IntKind.wrap IntKind.i64 (cSum_l14951_T.a6 v + (1 : Int))) (cSum_l14951_T.a7 v))])
def cSum_l14951_rd : HS → Option cSum_l14951_T
  | HS.mk [(2, LV.a (At.int true IntKind.u32 a0)), (3, LV.a (At.int true IntKind.u32 a1)), (5, LV.a (At.int true IntKind.u8 a2)), (6, LV.a (At.vec 0 0 1)), (7, LV.a (At.int true IntKind.i64 a3)), (8, LV.a (At.int true IntKind.i64 a4)), (9, LV.a (At.bool true a5)), (17, LV.a (At.int true IntKind.i64 a6))] [BC.mk (Hd.mk 0 0 true (some (Rw.mk 0 [Kd.int IntKind.u8] a7 none))) []] => some (cSum_l14951_T.mk a0 a1 a2 a3 a4 a5 a6 a7)
  | _ => none
def cSum_l14951_sum : V.Sum := loopS cSum_l14951_hd cSum_l14951_rd cSum_l14951_st 18446744073709551616 [X.e (2 : Nat)] [0, 2, 3, 5, 6, 7, 8, 9, 17, 18, 21] [2, 3, 5, 6, 7, 8, 9, 17] [] [] [] 2
theorem cSum_l14951_E : ∀ v, bodyF Try.prog tabFgl (ntOf Try.prog 118) [0, 2, 3, 5, 6, 7, 8, 9, 17, 18, 21] [2, 3, 5, 6, 7, 8, 9, 17] [] 2000 [] [] cSum_l14951_code 59804 (cSum_l14951_hd v) = some ((cSum_l14951_st v).1, (cSum_l14951_st v).2.map fun q => (q.1, q.2.1, cSum_l14951_hd q.2.2)) := fun v => by kernel_rfl
set_option maxHeartbeats 2000000 in
theorem cSum_l14951_R : ∀ h v, cSum_l14951_rd h = some v → h = cSum_l14951_hd v := by
  intro h v e
  unfold cSum_l14951_rd at e
  split at e
  · simp only [Option.some.injEq] at e; subst e; rfl
  · cases e
set_option maxRecDepth 100000 in
theorem cSum_l14951_sok : SumOK Try.prog (ntOf Try.prog 118) [0, 2, 3, 5, 6, 7, 8, 9, 17, 18, 21] (.block (blockOf (subs (bodyOf Try.prog 118) 1 14951)) (.loop cSum_l14951_code)) cSum_l14951_sum := loopS_ok tabFgl_ok follows cSum_l14951_E cSum_l14951_R (fun v => by kernel_rfl) (LOK_of _ _ (LOK_nil'))
noncomputable def cSum_l29_code : Go.Code := loopOf (subs (bodyOf Try.prog 118) 1 29)
structure cSum_l29_T where
  a0 : Int
  a1 : Int
  a2 : Int
  a3 : Int
  a4 : List (List Int)
  deriving Inhabited
def cSum_l29_hd (v : cSum_l29_T) : HS := HS.mk [(nat_lit 2, LV.a (At.int true IntKind.u32 (cSum_l29_T.a0 v))), (nat_lit 3, LV.a (At.int true IntKind.u32 (cSum_l29_T.a1 v))), (nat_lit 6, LV.a (At.vec (nat_lit 0) (nat_lit 0) (nat_lit 1))), (nat_lit 7, LV.a (At.int true IntKind.i64 (cSum_l29_T.a2 v))), (nat_lit 8, LV.a (At.int true IntKind.i64 (cSum_l29_T.a3 v)))] [BC.mk (Hd.mk (nat_lit 0) (nat_lit 0) true (some (Rw.mk (nat_lit 0) [Kd.int IntKind.u8] (cSum_l29_T.a4 v) none))) []]
def cSum_l29_s0 (v : cSum_l29_T) : Bool := decide (cSum_l29_T.a3 v < cSum_l29_T.a2 v)
def cSum_l29_s1 : Int := Int.ofNat ((2 : Nat) ^ IntKind.bits IntKind.u32)
def cSum_l29_s2 (v : cSum_l29_T) : Option (X × cSum_l14951_T) := lrun cSum_l14951_st (18446744073709551616 : Nat) (cSum_l14951_T.mk (cSum_l29_T.a0 v) (IntKind.wrap IntKind.u32 (Int.ofNat (Int.toNat (cSum_l29_T.a1 v % cSum_l29_s1) ^^^ Int.toNat (IntKind.wrap IntKind.u32 (IntKind.wrap IntKind.u32 (rget (cSum_l29_T.a4 v) (Int.toNat (cSum_l29_T.a3 v)) (0 : Nat)) * (2 : Int) ^ min (Int.toNat (24 : Int)) (IntKind.bits IntKind.u32)) % cSum_l29_s1)))) (rget (cSum_l29_T.a4 v) (Int.toNat (cSum_l29_T.a3 v)) (0 : Nat)) (cSum_l29_T.a2 v) (cSum_l29_T.a3 v) (cSum_l29_s0 v) (0 : Int) (cSum_l29_T.a4 v))
def cSum_l29_st (v : cSum_l29_T) : List Prop × List (X × Bool × cSum_l29_T) := ([cSum_l29_s0 v = true → (0 : Int) ≤ cSum_l29_T.a3 v ∧ cSum_l29_T.a3 v < Int.ofNat (List.length (cSum_l29_T.a4 v)), cSum_l29_s0 v = true → lok cSum_l14951_st (18446744073709551616 : Nat) (cSum_l14951_T.mk (cSum_l29_T.a0 v) (IntKind.wrap IntKind.u32 (Int.ofNat (Int.toNat (cSum_l29_T.a1 v % cSum_l29_s1) ^^^ Int.toNat (IntKind.wrap IntKind.u32 (IntKind.wrap IntKind.u32 (rget (cSum_l29_T.a4 v) (Int.toNat (cSum_l29_T.a3 v)) (0 : Nat)) * (2 : Int) ^ min (Int.toNat (24 : Int)) (IntKind.bits IntKind.u32)) % cSum_l29_s1)))) (rget (cSum_l29_T.a4 v) (Int.toNat (cSum_l29_T.a3 v)) (0 : Nat)) (cSum_l29_T.a2 v) (cSum_l29_T.a3 v) (cSum_l29_s0 v) (0 : Int) (cSum_l29_T.a4 v))], [(X.e (0 : Nat), !cSum_l29_s0 v, cSum_l29_T.mk (cSum_l29_T.a0 v) (cSum_l29_T.a1 v) (cSum_l29_T.a2 v) (cSum_l29_T.a3 v) (cSum_l29_T.a4 v)), (X.n, cSum_l29_s0 v && isX (X.e (2 : Nat)) (cSum_l29_s2 v), cSum_l29_T.mk (cSum_l14951_T.a0 (V.valOf (cSum_l29_s2 v))) (cSum_l14951_T.a1 (V.valOf (cSum_l29_s2 v))) (cSum_l14951_T.a3 (V.valOf (cSum_l29_s2 v))) (IntKind.wrap IntKind.i64 (cSum_l14951_T.a4 (V.valOf (cSum_l29_s2 v)) + (1 : Int))) (cSum_l29_T.a4 v))])
def cSum_l29_rd : HS → Option cSum_l29_T
  | HS.mk [(2, LV.a (At.int true IntKind.u32 a0)), (3, LV.a (At.int true IntKind.u32 a1)), (6, LV.a (At.vec 0 0 1)), (7, LV.a (At.int true IntKind.i64 a2)), (8, LV.a (At.int true IntKind.i64 a3))] [BC.mk (Hd.mk 0 0 true (some (Rw.mk 0 [Kd.int IntKind.u8] a4 none))) []] => some (cSum_l29_T.mk a0 a1 a2 a3 a4)
  | _ => none
def cSum_l29_sum : V.Sum := loopS cSum_l29_hd cSum_l29_rd cSum_l29_st 18446744073709551616 [X.e (0 : Nat)] [0, 2, 3, 5, 6, 7, 8, 9, 17, 18, 21] [2, 3, 6, 7, 8] [] [] [] 0
theorem cSum_l29_E : ∀ v, bodyF Try.prog tabFgl (ntOf Try.prog 118) [0, 2, 3, 5, 6, 7, 8, 9, 17, 18, 21] [2, 3, 6, 7, 8] [(14951, cSum_l14951_sum)] 2000 [] [] cSum_l29_code 116 (cSum_l29_hd v) = some ((cSum_l29_st v).1, (cSum_l29_st v).2.map fun q => (q.1, q.2.1, cSum_l29_hd q.2.2)) := fun v => by kernel_rfl
set_option maxHeartbeats 2000000 in
theorem cSum_l29_R : ∀ h v, cSum_l29_rd h = some v → h = cSum_l29_hd v := by
  intro h v e
  unfold cSum_l29_rd at e
  split at e
  · simp only [Option.some.injEq] at e; subst e; rfl
  · cases e
set_option maxRecDepth 100000 in
theorem cSum_l29_sok : SumOK Try.prog (ntOf Try.prog 118) [0, 2, 3, 5, 6, 7, 8, 9, 17, 18, 21] (.block (blockOf (subs (bodyOf Try.prog 118) 1 29)) (.loop cSum_l29_code)) cSum_l29_sum := loopS_ok tabFgl_ok follows cSum_l29_E cSum_l29_R (fun v => by kernel_rfl) (LOK_of _ _ (LOK_cons (show subs cSum_l29_code 116 14951 = [.block (blockOf (subs (bodyOf Try.prog 118) 1 14951)) (.loop cSum_l14951_code)] from by kernel_rfl) cSum_l14951_sok (LOK_nil')))
def cSum_s0 : Int := Int.ofNat ((2 : Nat) ^ IntKind.bits IntKind.u32)
def cSum_0 (l : List (List Int)) : Int := IntKind.wrap IntKind.u32 (Int.ofNat (Int.toNat ((if false = true then (-1 : Int) else if false = true then (2 : Int) ^ (31 : Nat) - (1 : Int) else (2 : Int) ^ IntKind.bits IntKind.u32 - (1 : Int)) % cSum_s0) ^^^ Int.toNat (cSum_l29_T.a1 (V.valOf (lrun cSum_l29_st (18446744073709551616 : Nat) (cSum_l29_T.mk (0 : Int) (4294967295 : Int) (Int.ofNat (List.length l)) (0 : Int) l))) % cSum_s0)))
def cSum_o (r0 : Bool) (l : List (List Int)) : List Prop := [lok cSum_l29_st (18446744073709551616 : Nat) (cSum_l29_T.mk (0 : Int) (4294967295 : Int) (Int.ofNat (List.length l)) (0 : Int) l)]
theorem cSum_p (r0 : Bool) (l : List (List Int)) : evG Try.prog tabFgl 2000 118 [0, 2, 3, 5, 6, 7, 8, 9, 17, 18, 21] [(29, cSum_l29_sum), (14951, cSum_l14951_sum)] [] [.a (.vec 0 0 1)] [⟨⟨0, 0, r0, some ⟨0, [.int .u8], l, none⟩⟩, []⟩] = some (cSum_o r0 l, LV.a (At.int true IntKind.u32 (cSum_0 l)), [none]) := by kernel_rfl
def cSum_c : Con
  | [.a (.vec 0 0 1)], [⟨⟨0, 0, r0, some ⟨0, [.int .u8], l, none⟩⟩, []⟩] => some (cSum_o r0 l, LV.a (At.int true IntKind.u32 (cSum_0 l)), [none])
  | _, _ => none
theorem cSum_ok : ConOK Try.prog 118 (normC cSum_c) := normC_ok (by
  intro args bs obs lv out h ho φ vs w may ha hM
  unfold cSum_c at h
  split at h
  · simp only [Option.some.injEq, Prod.mk.injEq] at h
    obtain ⟨rfl, rfl, rfl⟩ := h
    rename_i r0 l
    exact evG_okL' tabFgl_ok follows (LOK_cons (show subs (bodyOf Try.prog 118) 1 29 = [.block (blockOf (subs (bodyOf Try.prog 118) 1 29)) (.loop cSum_l29_code)] from by kernel_rfl) cSum_l29_sok (LOK_cons (show subs (bodyOf Try.prog 118) 1 14951 = [.block (blockOf (subs (bodyOf Try.prog 118) 1 14951)) (.loop cSum_l14951_code)] from by kernel_rfl) cSum_l14951_sok (LOK_nil'))) _ _ _ _ _ (cSum_p r0 l) ho φ vs w may ha hM
  · cases h)
theorem cSum_en : Enters Try.prog 118 := fun args => by kernel_rfl
-- 2205 2 8 ms

def tabFm1 : Tab := (118, normC cSum_c) :: tabFgl
theorem tabFm1_ok : TOK Try.prog tabFm1 := TOK.cons cSum_en cSum_ok (tabFgl_ok)

end Go.Proofs.Ytcdejlgophpdjaa
end

section
namespace Go.Proofs.Ytcdejlgophpdjaa
open Go Go.RowKit Go.Proofs.Ytcdejlgophpdjaa.V
set_option linter.unusedVariables false

/-! (azulejo/frame.Frame).Sum -/
noncomputable def fSum_l29_code : Go.Code := loopOf (subs (bodyOf Try.prog 63) 1 29)
structure fSum_l29_T where
  a0 : Int
  a1 : Int
  a2 : Int
  a3 : List (List Int)
  a4 : List (List Int)
  deriving Inhabited
def fSum_l29_hd (v : fSum_l29_T) : HS := HS.mk [(nat_lit 2, LV.a (At.int true IntKind.u32 (fSum_l29_T.a0 v))), (nat_lit 3, LV.a (At.vec (nat_lit 1) (nat_lit 0) (nat_lit 1))), (nat_lit 7, LV.a (At.vec (nat_lit 0) (nat_lit 0) (nat_lit 6))), (nat_lit 8, LV.a (At.int true IntKind.i64 (fSum_l29_T.a1 v))), (nat_lit 9, LV.a (At.int true IntKind.i64 (fSum_l29_T.a2 v)))] [BC.mk (Hd.mk (nat_lit 0) (nat_lit 0) true (some (Rw.mk (nat_lit 0) [Kd.int IntKind.u8, Kd.int IntKind.u8, Kd.int IntKind.u8, Kd.int IntKind.u8, Kd.int IntKind.i64, Kd.int IntKind.u8] (fSum_l29_T.a3 v) none))) [], BC.mk (Hd.mk (nat_lit 0) (nat_lit 0) false (some (Rw.mk (nat_lit 0) [Kd.int IntKind.u8] (fSum_l29_T.a4 v) none))) []]
def fSum_l29_s0 (v : fSum_l29_T) : Bool := decide (fSum_l29_T.a2 v < fSum_l29_T.a1 v)
def fSum_l29_s1 (v : fSum_l29_T) : List (List Int) := fSum_l29_T.a4 v ++ [[rget (fSum_l29_T.a3 v) (Int.toNat (fSum_l29_T.a2 v)) (0 : Nat)], [rget (fSum_l29_T.a3 v) (Int.toNat (fSum_l29_T.a2 v)) (1 : Nat)], [rget (fSum_l29_T.a3 v) (Int.toNat (fSum_l29_T.a2 v)) (2 : Nat)], [rget (fSum_l29_T.a3 v) (Int.toNat (fSum_l29_T.a2 v)) (3 : Nat)]]
def fSum_l29_s2 (v : fSum_l29_T) : List (List Int) := fSum_l29_s1 v ++ [[IntKind.wrap IntKind.u8 (Int.fdiv (rget (fSum_l29_T.a3 v) (Int.toNat (fSum_l29_T.a2 v)) (4 : Nat)) ((2 : Int) ^ min (Int.toNat (8 : Int)) (IntKind.bits IntKind.i64)))], [IntKind.wrap IntKind.u8 (rget (fSum_l29_T.a3 v) (Int.toNat (fSum_l29_T.a2 v)) (4 : Nat))], [rget (fSum_l29_T.a3 v) (Int.toNat (fSum_l29_T.a2 v)) (5 : Nat)]]
def fSum_l29_st (v : fSum_l29_T) : List Prop × List (X × Bool × fSum_l29_T) := ([fSum_l29_s0 v = true → (0 : Int) ≤ fSum_l29_T.a2 v ∧ fSum_l29_T.a2 v < Int.ofNat (List.length (fSum_l29_T.a3 v)), fSum_l29_s0 v = true → List.length (fSum_l29_s1 v) * (1 : Nat) ≤ (70368744177664 : Nat), fSum_l29_s0 v = true → List.length (fSum_l29_s2 v) * (1 : Nat) ≤ (70368744177664 : Nat)], [(X.e (0 : Nat), !fSum_l29_s0 v, fSum_l29_T.mk (fSum_l29_T.a0 v) (fSum_l29_T.a1 v) (fSum_l29_T.a2 v) (fSum_l29_T.a3 v) (fSum_l29_T.a4 v)), (X.n, fSum_l29_s0 v, fSum_l29_T.mk (fSum_l29_T.a0 v) (fSum_l29_T.a1 v) (IntKind.wrap IntKind.i64 (fSum_l29_T.a2 v + (1 : Int))) (fSum_l29_T.a3 v) (fSum_l29_s2 v))])
def fSum_l29_rd : HS → Option fSum_l29_T
  | HS.mk [(2, LV.a (At.int true IntKind.u32 a0)), (3, LV.a (At.vec 1 0 1)), (7, LV.a (At.vec 0 0 6)), (8, LV.a (At.int true IntKind.i64 a1)), (9, LV.a (At.int true IntKind.i64 a2))] [BC.mk (Hd.mk 0 0 true (some (Rw.mk 0 [Kd.int IntKind.u8, Kd.int IntKind.u8, Kd.int IntKind.u8, Kd.int IntKind.u8, Kd.int IntKind.i64, Kd.int IntKind.u8] a3 none))) [], BC.mk (Hd.mk 0 0 false (some (Rw.mk 0 [Kd.int IntKind.u8] a4 none))) []] => some (fSum_l29_T.mk a0 a1 a2 a3 a4)
  | _ => none
def fSum_l29_sum : V.Sum := loopS fSum_l29_hd fSum_l29_rd fSum_l29_st 18446744073709551616 [X.e (0 : Nat)] [0, 1, 2, 3, 5, 7, 8, 9, 10] [2, 3, 7, 8, 9] [1] [1] [(3, [.int .u8])] 0
theorem fSum_l29_E : ∀ v, bodyF Try.prog tabFm1 (ntOf Try.prog 63) [0, 1, 2, 3, 5, 7, 8, 9, 10] [2, 3, 7, 8, 9] [] 2000 [1] [1] fSum_l29_code 116 (fSum_l29_hd v) = some ((fSum_l29_st v).1, (fSum_l29_st v).2.map fun q => (q.1, q.2.1, fSum_l29_hd q.2.2)) := fun v => by kernel_rfl
set_option maxHeartbeats 2000000 in
theorem fSum_l29_R : ∀ h v, fSum_l29_rd h = some v → h = fSum_l29_hd v := by
  intro h v e
  unfold fSum_l29_rd at e
  split at e
  · simp only [Option.some.injEq] at e; subst e; rfl
  · cases e
set_option maxRecDepth 100000 in
theorem fSum_l29_sok : SumOK Try.prog (ntOf Try.prog 63) [0, 1, 2, 3, 5, 7, 8, 9, 10] (.block (blockOf (subs (bodyOf Try.prog 63) 1 29)) (.loop fSum_l29_code)) fSum_l29_sum := loopS_ok tabFm1_ok follows fSum_l29_E fSum_l29_R (fun v => by kernel_rfl) (LOK_of _ _ (LOK_nil'))
def fSum_s0 (l : List (List Int)) : Option (X × fSum_l29_T) := lrun fSum_l29_st (18446744073709551616 : Nat) (fSum_l29_T.mk (0 : Int) (Int.ofNat (List.length l)) (0 : Int) l [])
def fSum_0 (l : List (List Int)) : Int := cSum_0 (fSum_l29_T.a4 (V.valOf (fSum_s0 l)))
def fSum_o (w0 : Int) (h0 : Int) (r0 : Bool) (l : List (List Int)) : List Prop := [lok fSum_l29_st (18446744073709551616 : Nat) (fSum_l29_T.mk (0 : Int) (Int.ofNat (List.length l)) (0 : Int) l []), isX (X.e (0 : Nat)) (fSum_s0 l) = true → lok cSum_l29_st (18446744073709551616 : Nat) (cSum_l29_T.mk (0 : Int) (4294967295 : Int) (Int.ofNat (List.length (fSum_l29_T.a4 (V.valOf (fSum_s0 l))))) (0 : Int) (fSum_l29_T.a4 (V.valOf (fSum_s0 l))))]
theorem fSum_p (w0 : Int) (h0 : Int) (r0 : Bool) (l : List (List Int)) : evG Try.prog tabFm1 2000 63 [0, 1, 2, 3, 5, 7, 8, 9, 10] [(29, fSum_l29_sum)] [] [.g [.int true .i64 w0, .int true .i64 h0, .vec 0 0 6]] [⟨⟨0, 0, r0, some ⟨0, [.int .u8, .int .u8, .int .u8, .int .u8, .int .i64, .int .u8], l, none⟩⟩, []⟩] = some (fSum_o w0 h0 r0 l, LV.a (At.int true IntKind.u32 (fSum_0 l)), [none]) := by kernel_rfl
def fSum_c : Con
  | [.g [.int true .i64 w0, .int true .i64 h0, .vec 0 0 6]], [⟨⟨0, 0, r0, some ⟨0, [.int .u8, .int .u8, .int .u8, .int .u8, .int .i64, .int .u8], l, none⟩⟩, []⟩] => some (fSum_o w0 h0 r0 l, LV.a (At.int true IntKind.u32 (fSum_0 l)), [none])
  | _, _ => none
theorem fSum_ok : ConOK Try.prog 63 (normC fSum_c) := normC_ok (by
  intro args bs obs lv out h ho φ vs w may ha hM
  unfold fSum_c at h
  split at h
  · simp only [Option.some.injEq, Prod.mk.injEq] at h
    obtain ⟨rfl, rfl, rfl⟩ := h
    rename_i w0 h0 r0 l
    exact evG_okL' tabFm1_ok follows (LOK_cons (show subs (bodyOf Try.prog 63) 1 29 = [.block (blockOf (subs (bodyOf Try.prog 63) 1 29)) (.loop fSum_l29_code)] from by kernel_rfl) fSum_l29_sok (LOK_nil')) _ _ _ _ _ (fSum_p w0 h0 r0 l) ho φ vs w may ha hM
  · cases h)
theorem fSum_en : Enters Try.prog 63 := fun args => by kernel_rfl
-- 1239 1 6 ms

def tabFm2 : Tab := (63, normC fSum_c) :: tabFm1
theorem tabFm2_ok : TOK Try.prog tabFm2 := TOK.cons fSum_en fSum_ok (tabFm1_ok)

end Go.Proofs.Ytcdejlgophpdjaa
end

section
namespace Go.Proofs.Ytcdejlgophpdjaa
open Go Go.RowKit Go.Proofs.Ytcdejlgophpdjaa.V
set_option linter.unusedVariables false

/-! azulejo/azulejoref01.Sum -/
noncomputable def rSum_l1865_code : Go.Code := loopOf (subs (bodyOf Try.prog 64) 1 1865)
structure rSum_l1865_T where
  a0 : Int
  a1 : Int
  a2 : Int
  a3 : Bool
  a4 : List (List Int)
  a5 : List (List Int)
  deriving Inhabited
def rSum_l1865_hd (v : rSum_l1865_T) : HS := HS.mk [(nat_lit 0, LV.a (At.vec (nat_lit 0) (nat_lit 0) (nat_lit 1))), (nat_lit 2, LV.a (At.int true IntKind.u32 (rSum_l1865_T.a0 v))), (nat_lit 3, LV.a (At.vec (nat_lit 1) (nat_lit 0) (nat_lit 1))), (nat_lit 4, LV.a (At.int true IntKind.i64 (rSum_l1865_T.a1 v))), (nat_lit 5, LV.a (At.int true IntKind.i64 (rSum_l1865_T.a2 v))), (nat_lit 15, LV.a (At.bool true (rSum_l1865_T.a3 v)))] [BC.mk (Hd.mk (nat_lit 0) (nat_lit 0) true (some (Rw.mk (nat_lit 0) [Kd.int IntKind.u8] (rSum_l1865_T.a4 v) none))) [], BC.mk (Hd.mk (nat_lit 0) (nat_lit 0) false (some (Rw.mk (nat_lit 0) [Kd.int IntKind.u8] (rSum_l1865_T.a5 v) none))) []]
def rSum_l1865_s0 (v : rSum_l1865_T) : Bool := decide ((0 : Int) ≤ rSum_l1865_T.a2 v)
def rSum_l1865_s1 (v : rSum_l1865_T) : List (List Int) := rSum_l1865_T.a5 v ++ [[Int.tmod (Int.fdiv (rget (rSum_l1865_T.a4 v) (Int.toNat (rSum_l1865_T.a1 v)) (0 : Nat)) ((2 : Int) ^ min (Int.toNat (rSum_l1865_T.a2 v)) (IntKind.bits IntKind.u8))) (2 : Int)]]
def rSum_l1865_st (v : rSum_l1865_T) : List Prop × List (X × Bool × rSum_l1865_T) := ([rSum_l1865_s0 v = true → (0 : Int) ≤ rSum_l1865_T.a1 v ∧ rSum_l1865_T.a1 v < Int.ofNat (List.length (rSum_l1865_T.a4 v)), rSum_l1865_s0 v = true → (0 : Int) ≤ rSum_l1865_T.a2 v, rSum_l1865_s0 v = true → List.length (rSum_l1865_s1 v) * (1 : Nat) ≤ (70368744177664 : Nat)], [(X.e (2 : Nat), !rSum_l1865_s0 v, rSum_l1865_T.mk (rSum_l1865_T.a0 v) (rSum_l1865_T.a1 v) (rSum_l1865_T.a2 v) (rSum_l1865_T.a3 v) (rSum_l1865_T.a4 v) (rSum_l1865_T.a5 v)), (X.n, rSum_l1865_s0 v, rSum_l1865_T.mk (rSum_l1865_T.a0 v) (rSum_l1865_T.a1 v) (IntKind.wrap IntKind.i64 (rSum_l1865_T.a2 v - (1 : Int))) (rSum_l1865_T.a3 v) (rSum_l1865_T.a4 v) (rSum_l1865_s1 v))])
def rSum_l1865_rd : HS → Option rSum_l1865_T
  | HS.mk [(0, LV.a (At.vec 0 0 1)), (2, LV.a (At.int true IntKind.u32 a0)), (3, LV.a (At.vec 1 0 1)), (4, LV.a (At.int true IntKind.i64 a1)), (5, LV.a (At.int true IntKind.i64 a2)), (15, LV.a (At.bool true a3))] [BC.mk (Hd.mk 0 0 true (some (Rw.mk 0 [Kd.int IntKind.u8] a4 none))) [], BC.mk (Hd.mk 0 0 false (some (Rw.mk 0 [Kd.int IntKind.u8] a5 none))) []] => some (rSum_l1865_T.mk a0 a1 a2 a3 a4 a5)
  | _ => none
def rSum_l1865_sum : V.Sum := loopS rSum_l1865_hd rSum_l1865_rd rSum_l1865_st 18446744073709551616 [X.e (2 : Nat)] [0, 2, 3, 4, 5, 6, 7, 8, 9, 10, 11, 15, 19, 35, 51, 58, 62, 89] [0, 2, 3, 4, 5, 15] [1] [1] [] 2
theorem rSum_l1865_E : ∀ v, bodyF Try.prog tabFm2 (ntOf Try.prog 64) [0, 2, 3, 4, 5, 6, 7, 8, 9, 10, 11, 15, 19, 35, 51, 58, 62, 89] [0, 2, 3, 4, 5, 15] [] 2000 [1] [1] rSum_l1865_code 7460 (rSum_l1865_hd v) = some ((rSum_l1865_st v).1, (rSum_l1865_st v).2.map fun q => (q.1, q.2.1, rSum_l1865_hd q.2.2)) := fun v => by kernel_rfl
set_option maxHeartbeats 2000000 in
theorem rSum_l1865_R : ∀ h v, rSum_l1865_rd h = some v → h = rSum_l1865_hd v := by
  intro h v e
  unfold rSum_l1865_rd at e
  split at e
  · simp only [Option.some.injEq] at e; subst e; rfl
  · cases e
set_option maxRecDepth 100000 in
theorem rSum_l1865_sok : SumOK Try.prog (ntOf Try.prog 64) [0, 2, 3, 4, 5, 6, 7, 8, 9, 10, 11, 15, 19, 35, 51, 58, 62, 89] (.block (blockOf (subs (bodyOf Try.prog 64) 1 1865)) (.loop rSum_l1865_code)) rSum_l1865_sum := loopS_ok tabFm2_ok follows rSum_l1865_E rSum_l1865_R (fun v => by kernel_rfl) (LOK_of _ _ (LOK_nil'))
noncomputable def rSum_l29_code : Go.Code := loopOf (subs (bodyOf Try.prog 64) 1 29)
structure rSum_l29_T where
  a0 : Int
  a1 : Int
  a2 : List (List Int)
  a3 : List (List Int)
  deriving Inhabited
def rSum_l29_hd (v : rSum_l29_T) : HS := HS.mk [(nat_lit 0, LV.a (At.vec (nat_lit 0) (nat_lit 0) (nat_lit 1))), (nat_lit 2, LV.a (At.int true IntKind.u32 (rSum_l29_T.a0 v))), (nat_lit 3, LV.a (At.vec (nat_lit 1) (nat_lit 0) (nat_lit 1))), (nat_lit 4, LV.a (At.int true IntKind.i64 (rSum_l29_T.a1 v)))] [BC.mk (Hd.mk (nat_lit 0) (nat_lit 0) true (some (Rw.mk (nat_lit 0) [Kd.int IntKind.u8] (rSum_l29_T.a2 v) none))) [], BC.mk (Hd.mk (nat_lit 0) (nat_lit 0) false (some (Rw.mk (nat_lit 0) [Kd.int IntKind.u8] (rSum_l29_T.a3 v) none))) []]
def rSum_l29_s0 (v : rSum_l29_T) : Bool := decide (rSum_l29_T.a1 v < Int.ofNat (List.length (rSum_l29_T.a2 v)))
def rSum_l29_s1 (v : rSum_l29_T) : Option (X × rSum_l1865_T) := lrun rSum_l1865_st (18446744073709551616 : Nat) (rSum_l1865_T.mk (rSum_l29_T.a0 v) (rSum_l29_T.a1 v) (7 : Int) (rSum_l29_s0 v) (rSum_l29_T.a2 v) (rSum_l29_T.a3 v))
def rSum_l29_st (v : rSum_l29_T) : List Prop × List (X × Bool × rSum_l29_T) := ([rSum_l29_s0 v = true → lok rSum_l1865_st (18446744073709551616 : Nat) (rSum_l1865_T.mk (rSum_l29_T.a0 v) (rSum_l29_T.a1 v) (7 : Int) (rSum_l29_s0 v) (rSum_l29_T.a2 v) (rSum_l29_T.a3 v))], [(X.e (0 : Nat), !rSum_l29_s0 v, rSum_l29_T.mk (rSum_l29_T.a0 v) (rSum_l29_T.a1 v) (rSum_l29_T.a2 v) (rSum_l29_T.a3 v)), (X.n, rSum_l29_s0 v && isX (X.e (2 : Nat)) (rSum_l29_s1 v), rSum_l29_T.mk (rSum_l1865_T.a0 (V.valOf (rSum_l29_s1 v))) (IntKind.wrap IntKind.i64 (rSum_l1865_T.a1 (V.valOf (rSum_l29_s1 v)) + (1 : Int))) (rSum_l29_T.a2 v) (rSum_l1865_T.a5 (V.valOf (rSum_l29_s1 v))))])
def rSum_l29_rd : HS → Option rSum_l29_T
  | HS.mk [(0, LV.a (At.vec 0 0 1)), (2, LV.a (At.int true IntKind.u32 a0)), (3, LV.a (At.vec 1 0 1)), (4, LV.a (At.int true IntKind.i64 a1))] [BC.mk (Hd.mk 0 0 true (some (Rw.mk 0 [Kd.int IntKind.u8] a2 none))) [], BC.mk (Hd.mk 0 0 false (some (Rw.mk 0 [Kd.int IntKind.u8] a3 none))) []] => some (rSum_l29_T.mk a0 a1 a2 a3)
  | _ => none
def rSum_l29_sum : V.Sum := loopS rSum_l29_hd rSum_l29_rd rSum_l29_st 18446744073709551616 [X.e (0 : Nat)] [0, 2, 3, 4, 5, 6, 7, 8, 9, 10, 11, 15, 19, 35, 51, 58, 62, 89] [0, 2, 3, 4] [1] [1] [(3, [.int .u8])] 0
theorem rSum_l29_E : ∀ v, bodyF Try.prog tabFm2 (ntOf Try.prog 64) [0, 2, 3, 4, 5, 6, 7, 8, 9, 10, 11, 15, 19, 35, 51, 58, 62, 89] [0, 2, 3, 4] [(1865, rSum_l1865_sum)] 2000 [1] [1] rSum_l29_code 116 (rSum_l29_hd v) = some ((rSum_l29_st v).1, (rSum_l29_st v).2.map fun q => (q.1, q.2.1, rSum_l29_hd q.2.2)) := fun v => by kernel_rfl
set_option maxHeartbeats 2000000 in
theorem rSum_l29_R : ∀ h v, rSum_l29_rd h = some v → h = rSum_l29_hd v := by
  intro h v e
  unfold rSum_l29_rd at e
  split at e
  · simp only [Option.some.injEq] at e; subst e; rfl
  · cases e
set_option maxRecDepth 100000 in
theorem rSum_l29_sok : SumOK Try.prog (ntOf Try.prog 64) [0, 2, 3, 4, 5, 6, 7, 8, 9, 10, 11, 15, 19, 35, 51, 58, 62, 89] (.block (blockOf (subs (bodyOf Try.prog 64) 1 29)) (.loop rSum_l29_code)) rSum_l29_sum := loopS_ok tabFm2_ok follows rSum_l29_E rSum_l29_R (fun v => by kernel_rfl) (LOK_of _ _ (LOK_cons (show subs rSum_l29_code 116 1865 = [.block (blockOf (subs (bodyOf Try.prog 64) 1 1865)) (.loop rSum_l1865_code)] from by kernel_rfl) rSum_l1865_sok (LOK_nil')))
noncomputable def rSum_l125_code : Go.Code := loopOf (subs (bodyOf Try.prog 64) 1 125)
structure rSum_l125_T12 where
  a0 : Int
  a1 : Int
  a2 : List (List Int)
  deriving Inhabited
def rSum_l125_hd (v : rSum_l125_T12) : HS := HS.mk [(nat_lit 2, LV.a (At.int true IntKind.u32 (rSum_l125_T12.a0 v))), (nat_lit 3, LV.a (At.vec (nat_lit 0) (nat_lit 0) (nat_lit 1))), (nat_lit 6, LV.a (At.int true IntKind.i64 (rSum_l125_T12.a1 v))), (nat_lit 7, LV.u), (nat_lit 8, LV.u), (nat_lit 9, LV.u), (nat_lit 10, LV.u), (nat_lit 11, LV.u), (nat_lit 51, LV.u), (nat_lit 58, LV.u), (nat_lit 62, LV.u), (nat_lit 89, LV.u)] [BC.mk (Hd.mk (nat_lit 0) (nat_lit 0) false (some (Rw.mk (nat_lit 0) [Kd.int IntKind.u8] (rSum_l125_T12.a2 v) none))) []]
def rSum_l125_s0 (v : rSum_l125_T12) : Bool := decide (rSum_l125_T12.a1 v < (32 : Int))
def rSum_l125_st (v : rSum_l125_T12) : List Prop × List (X × Bool × rSum_l125_T12) := ([rSum_l125_s0 v = true → (0 : Int) ≤ rSum_l125_T12.a1 v ∧ rSum_l125_T12.a1 v < Int.ofNat (List.length (rSum_l125_T12.a2 v)), rSum_l125_s0 v = true → (0 : Int) ≤ rSum_l125_T12.a1 v ∧ rSum_l125_T12.a1 v < Int.ofNat (List.length (rSum_l125_T12.a2 v))], [(X.e (4 : Nat), !rSum_l125_s0 v, rSum_l125_T12.mk (rSum_l125_T12.a0 v) (rSum_l125_T12.a1 v) (rSum_l125_T12.a2 v)), (X.n, rSum_l125_s0 v, rSum_l125_T12.mk (rSum_l125_T12.a0 v) (IntKind.wrap IntKind.i64 (rSum_l125_T12.a1 v + (1 : Int))) (List.set (rSum_l125_T12.a2 v) (Int.toNat (rSum_l125_T12.a1 v)) [IntKind.wrap IntKind.u8 ((1 : Int) - rget (rSum_l125_T12.a2 v) (Int.toNat (rSum_l125_T12.a1 v)) (0 : Nat))]))])
def rSum_l125_rd : HS → Option rSum_l125_T12
  | HS.mk [(2, LV.a (At.int true IntKind.u32 a0)), (3, LV.a (At.vec 0 0 1)), (6, LV.a (At.int true IntKind.i64 a1)), (7, LV.u), (8, LV.u), (9, LV.u), (10, LV.u), (11, LV.u), (51, LV.u), (58, LV.u), (62, LV.u), (89, LV.u)] [BC.mk (Hd.mk 0 0 false (some (Rw.mk 0 [Kd.int IntKind.u8] a2 none))) []] => some (rSum_l125_T12.mk a0 a1 a2)
  | _ => none
def rSum_l125_sum : V.Sum := loopS rSum_l125_hd rSum_l125_rd rSum_l125_st 18446744073709551616 [X.e (4 : Nat)] [0, 2, 3, 4, 5, 6, 7, 8, 9, 10, 11, 15, 19, 35, 51, 58, 62, 89] [2, 3, 6, 7, 8, 9, 10, 11, 51, 58, 62, 89] [0] [0] [] 4
theorem rSum_l125_E : ∀ v, bodyF Try.prog tabFm2 (ntOf Try.prog 64) [0, 2, 3, 4, 5, 6, 7, 8, 9, 10, 11, 15, 19, 35, 51, 58, 62, 89] [2, 3, 6, 7, 8, 9, 10, 11, 51, 58, 62, 89] [] 2000 [0] [0] rSum_l125_code 500 (rSum_l125_hd v) = some ((rSum_l125_st v).1, (rSum_l125_st v).2.map fun q => (q.1, q.2.1, rSum_l125_hd q.2.2)) := fun v => by kernel_rfl
set_option maxHeartbeats 2000000 in
theorem rSum_l125_R : ∀ h v, rSum_l125_rd h = some v → h = rSum_l125_hd v := by
  intro h v e
  unfold rSum_l125_rd at e
  split at e
  · simp only [Option.some.injEq] at e; subst e; rfl
  · cases e
set_option maxRecDepth 100000 in
theorem rSum_l125_sok : SumOK Try.prog (ntOf Try.prog 64) [0, 2, 3, 4, 5, 6, 7, 8, 9, 10, 11, 15, 19, 35, 51, 58, 62, 89] (.block (blockOf (subs (bodyOf Try.prog 64) 1 125)) (.loop rSum_l125_code)) rSum_l125_sum := loopS_ok tabFm2_ok follows rSum_l125_E rSum_l125_R (fun v => by kernel_rfl) (LOK_of _ _ (LOK_nil'))
noncomputable def rSum_l130341_code : Go.Code := loopOf (subs (bodyOf Try.prog 64) 1 130341)
structure rSum_l130341_T10 where
  a0 : Int
  a1 : Int
  a2 : Int
  a3 : Bool
  a4 : Bool
  a5 : List (List Int)
  a6 : List (List Int)
  deriving Inhabited
def rSum_l130341_hd (v : rSum_l130341_T10) : HS := HS.mk [(nat_lit 2, LV.a (At.int true IntKind.u32 (rSum_l130341_T10.a0 v))), (nat_lit 3, LV.a (At.vec (nat_lit 0) (nat_lit 0) (nat_lit 1))), (nat_lit 7, LV.a (At.vec (nat_lit 1) (nat_lit 0) (nat_lit 1))), (nat_lit 8, LV.a (At.int true IntKind.i64 (rSum_l130341_T10.a1 v))), (nat_lit 9, LV.a (At.int true IntKind.i64 (rSum_l130341_T10.a2 v))), (nat_lit 10, LV.u), (nat_lit 11, LV.u), (nat_lit 51, LV.a (At.bool true (rSum_l130341_T10.a3 v))), (nat_lit 58, LV.a (At.bool true (rSum_l130341_T10.a4 v))), (nat_lit 89, LV.u)] [BC.mk (Hd.mk (nat_lit 0) (nat_lit 0) false (some (Rw.mk (nat_lit 0) [Kd.int IntKind.u8] (rSum_l130341_T10.a5 v) none))) [], BC.mk (Hd.mk (nat_lit 0) (nat_lit 0) true (some (Rw.mk (nat_lit 0) [Kd.int IntKind.i64] (rSum_l130341_T10.a6 v) none))) []]
def rSum_l130341_s0 (v : rSum_l130341_T10) : Bool := decide (rSum_l130341_T10.a2 v < Int.ofNat (List.length (rSum_l130341_T10.a6 v)))
def rSum_l130341_s1 (v : rSum_l130341_T10) : Int := IntKind.wrap IntKind.i64 (rSum_l130341_T10.a1 v + rget (rSum_l130341_T10.a6 v) (Int.toNat (rSum_l130341_T10.a2 v)) (0 : Nat))
def rSum_l130341_st (v : rSum_l130341_T10) : List Prop × List (X × Bool × rSum_l130341_T10) := ([rSum_l130341_s0 v = true → (0 : Int) ≤ rSum_l130341_T10.a2 v ∧ rSum_l130341_T10.a2 v < Int.ofNat (List.length (rSum_l130341_T10.a6 v)), rSum_l130341_s0 v = true → (0 : Int) ≤ rSum_l130341_T10.a2 v ∧ rSum_l130341_T10.a2 v < Int.ofNat (List.length (rSum_l130341_T10.a6 v)), rSum_l130341_s0 v = true → (0 : Int) ≤ rSum_l130341_s1 v ∧ rSum_l130341_s1 v < Int.ofNat (List.length (rSum_l130341_T10.a5 v)), rSum_l130341_s0 v = true → (0 : Int) ≤ rSum_l130341_s1 v ∧ rSum_l130341_s1 v < Int.ofNat (List.length (rSum_l130341_T10.a5 v))], [(X.e (8 : Nat), !rSum_l130341_s0 v, rSum_l130341_T10.mk (rSum_l130341_T10.a0 v) (rSum_l130341_T10.a1 v) (rSum_l130341_T10.a2 v) (rSum_l130341_T10.a3 v) (rSum_l130341_T10.a4 v) (rSum_l130341_T10.a5 v) (rSum_l130341_T10.a6 v)), (X.n, rSum_l130341_s0 v, rSum_l130341_T10.mk (rSum_l130341_T10.a0 v) (rSum_l130341_T10.a1 v) (IntKind.wrap IntKind.i64 (rSum_l130341_T10.a2 v + (1 : Int))) (rSum_l130341_T10.a3 v) (rSum_l130341_T10.a4 v) (List.set (rSum_l130341_T10.a5 v) (Int.toNat (rSum_l130341_s1 v)) [IntKind.wrap IntKind.u8 ((1 : Int) - rget (rSum_l130341_T10.a5 v) (Int.toNat (rSum_l130341_s1 v)) (0 : Nat))]) (rSum_l130341_T10.a6 v))])
def rSum_l130341_rd : HS → Option rSum_l130341_T10
  | HS.mk [(2, LV.a (At.int true IntKind.u32 a0)), (3, LV.a (At.vec 0 0 1)), (7, LV.a (At.vec 1 0 1)), (8, LV.a (At.int true IntKind.i64 a1)), (9, LV.a (At.int true IntKind.i64 a2)), (10, LV.u), (11, LV.u), (51, LV.a (At.bool true a3)), (58, LV.a (At.bool true a4)), (89, LV.u)] [BC.mk (Hd.mk 0 0 false (some (Rw.mk 0 [Kd.int IntKind.u8] a5 none))) [], BC.mk (Hd.mk 0 0 true (some (Rw.mk 0 [Kd.int IntKind.i64] a6 none))) []] => some (rSum_l130341_T10.mk a0 a1 a2 a3 a4 a5 a6)
  | _ => none
def rSum_l130341_sum : V.Sum := loopS rSum_l130341_hd rSum_l130341_rd rSum_l130341_st 18446744073709551616 [X.e (8 : Nat)] [0, 2, 3, 4, 5, 6, 7, 8, 9, 10, 11, 15, 19, 35, 51, 58, 62, 89] [2, 3, 7, 8, 9, 10, 11, 51, 58, 89] [0] [0] [] 8
theorem rSum_l130341_E : ∀ v, bodyF Try.prog tabFm2 (ntOf Try.prog 64) [0, 2, 3, 4, 5, 6, 7, 8, 9, 10, 11, 15, 19, 35, 51, 58, 62, 89] [2, 3, 7, 8, 9, 10, 11, 51, 58, 89] [] 2000 [0] [0] rSum_l130341_code 521364 (rSum_l130341_hd v) = some ((rSum_l130341_st v).1, (rSum_l130341_st v).2.map fun q => (q.1, q.2.1, rSum_l130341_hd q.2.2)) := fun v => by kernel_rfl
set_option maxHeartbeats 2000000 in
theorem rSum_l130341_R : ∀ h v, rSum_l130341_rd h = some v → h = rSum_l130341_hd v := by
  intro h v e
  unfold rSum_l130341_rd at e
  split at e
  · simp only [Option.some.injEq] at e; subst e; rfl
  · cases e
set_option maxRecDepth 100000 in
theorem rSum_l130341_sok : SumOK Try.prog (ntOf Try.prog 64) [0, 2, 3, 4, 5, 6, 7, 8, 9, 10, 11, 15, 19, 35, 51, 58, 62, 89] (.block (blockOf (subs (bodyOf Try.prog 64) 1 130341)) (.loop rSum_l130341_code)) rSum_l130341_sum := loopS_ok tabFm2_ok follows rSum_l130341_E rSum_l130341_R (fun v => by kernel_rfl) (LOK_of _ _ (LOK_nil'))
noncomputable def rSum_l509_code : Go.Code := loopOf (subs (bodyOf Try.prog 64) 1 509)
structure rSum_l509_T9 where
  a0 : Int
  a1 : Int
  a2 : List (List Int)
  a3 : List (List Int)
  deriving Inhabited
def rSum_l509_hd (v : rSum_l509_T9) : HS := HS.mk [(nat_lit 2, LV.a (At.int true IntKind.u32 (rSum_l509_T9.a0 v))), (nat_lit 3, LV.a (At.vec (nat_lit 0) (nat_lit 0) (nat_lit 1))), (nat_lit 7, LV.a (At.vec (nat_lit 1) (nat_lit 0) (nat_lit 1))), (nat_lit 8, LV.a (At.int true IntKind.i64 (rSum_l509_T9.a1 v))), (nat_lit 9, LV.u), (nat_lit 10, LV.u), (nat_lit 11, LV.u), (nat_lit 62, LV.u), (nat_lit 89, LV.u)] [BC.mk (Hd.mk (nat_lit 0) (nat_lit 0) false (some (Rw.mk (nat_lit 0) [Kd.int IntKind.u8] (rSum_l509_T9.a2 v) none))) [], BC.mk (Hd.mk (nat_lit 0) (nat_lit 0) true (some (Rw.mk (nat_lit 0) [Kd.int IntKind.i64] (rSum_l509_T9.a3 v) none))) []]
def rSum_l509_s0 (v : rSum_l509_T9) : Int := IntKind.wrap IntKind.i64 (rSum_l509_T9.a1 v + (32 : Int))
def rSum_l509_s1 (v : rSum_l509_T9) : Bool := decide (rSum_l509_s0 v < Int.ofNat (List.length (rSum_l509_T9.a2 v)))
def rSum_l509_s2 (v : rSum_l509_T9) : Bool := rget (rSum_l509_T9.a2 v) (Int.toNat (rSum_l509_T9.a1 v)) (0 : Nat) == (1 : Int)
def rSum_l509_s3 (v : rSum_l509_T9) : Option (X × rSum_l130341_T10) := lrun rSum_l130341_st (18446744073709551616 : Nat) (rSum_l130341_T10.mk (rSum_l509_T9.a0 v) (rSum_l509_T9.a1 v) (0 : Int) (rSum_l509_s1 v) (rSum_l509_s2 v) (rSum_l509_T9.a2 v) (rSum_l509_T9.a3 v))
def rSum_l509_st (v : rSum_l509_T9) : List Prop × List (X × Bool × rSum_l509_T9) := ([rSum_l509_s1 v = true → (0 : Int) ≤ rSum_l509_T9.a1 v ∧ rSum_l509_T9.a1 v < Int.ofNat (List.length (rSum_l509_T9.a2 v)), rSum_l509_s1 v = true → rSum_l509_s2 v = true → lok rSum_l130341_st (18446744073709551616 : Nat) (rSum_l130341_T10.mk (rSum_l509_T9.a0 v) (rSum_l509_T9.a1 v) (0 : Int) (rSum_l509_s1 v) (rSum_l509_s2 v) (rSum_l509_T9.a2 v) (rSum_l509_T9.a3 v))], [(X.e (6 : Nat), !rSum_l509_s1 v, rSum_l509_T9.mk (rSum_l509_T9.a0 v) (rSum_l509_T9.a1 v) (rSum_l509_T9.a2 v) (rSum_l509_T9.a3 v)), (X.n, rSum_l509_s1 v && bif rSum_l509_s2 v then isX (X.e (8 : Nat)) (rSum_l509_s3 v) else true, rSum_l509_T9.mk (bif rSum_l509_s2 v then rSum_l130341_T10.a0 (V.valOf (rSum_l509_s3 v)) else rSum_l509_T9.a0 v) (IntKind.wrap IntKind.i64 ((bif rSum_l509_s2 v then rSum_l130341_T10.a1 (V.valOf (rSum_l509_s3 v)) else rSum_l509_T9.a1 v) + (1 : Int))) (bif rSum_l509_s2 v then rSum_l130341_T10.a5 (V.valOf (rSum_l509_s3 v)) else rSum_l509_T9.a2 v) (rSum_l509_T9.a3 v))])
def rSum_l509_rd : HS → Option rSum_l509_T9
  | HS.mk [(2, LV.a (At.int true IntKind.u32 a0)), (3, LV.a (At.vec 0 0 1)), (7, LV.a (At.vec 1 0 1)), (8, LV.a (At.int true IntKind.i64 a1)), (9, LV.u), (10, LV.u), (11, LV.u), (62, LV.u), (89, LV.u)] [BC.mk (Hd.mk 0 0 false (some (Rw.mk 0 [Kd.int IntKind.u8] a2 none))) [], BC.mk (Hd.mk 0 0 true (some (Rw.mk 0 [Kd.int IntKind.i64] a3 none))) []] => some (rSum_l509_T9.mk a0 a1 a2 a3)
  | _ => none
def rSum_l509_sum : V.Sum := loopS rSum_l509_hd rSum_l509_rd rSum_l509_st 18446744073709551616 [X.e (6 : Nat)] [0, 2, 3, 4, 5, 6, 7, 8, 9, 10, 11, 15, 19, 35, 51, 58, 62, 89] [2, 3, 7, 8, 9, 10, 11, 62, 89] [0] [0] [] 6
theorem rSum_l509_E : ∀ v, bodyF Try.prog tabFm2 (ntOf Try.prog 64) [0, 2, 3, 4, 5, 6, 7, 8, 9, 10, 11, 15, 19, 35, 51, 58, 62, 89] [2, 3, 7, 8, 9, 10, 11, 62, 89] [(130341, rSum_l130341_sum)] 2000 [0] [0] rSum_l509_code 2036 (rSum_l509_hd v) = some ((rSum_l509_st v).1, (rSum_l509_st v).2.map fun q => (q.1, q.2.1, rSum_l509_hd q.2.2)) := fun v => by kernel_rfl
set_option maxHeartbeats 2000000 in
theorem rSum_l509_R : ∀ h v, rSum_l509_rd h = some v → h = rSum_l509_hd v := by
  intro h v e
  unfold rSum_l509_rd at e
  split at e
  · simp only [Option.some.injEq] at e; subst e; rfl
  · cases e
set_option maxRecDepth 100000 in
theorem rSum_l509_sok : SumOK Try.prog (ntOf Try.prog 64) [0, 2, 3, 4, 5, 6, 7, 8, 9, 10, 11, 15, 19, 35, 51, 58, 62, 89] (.block (blockOf (subs (bodyOf Try.prog 64) 1 509)) (.loop rSum_l509_code)) rSum_l509_sum := loopS_ok tabFm2_ok follows rSum_l509_E rSum_l509_R (fun v => by kernel_rfl) (LOK_of _ _ (LOK_cons (show subs rSum_l509_code 2036 130341 = [.block (blockOf (subs (bodyOf Try.prog 64) 1 130341)) (.loop rSum_l130341_code)] from by kernel_rfl) rSum_l130341_sok (LOK_nil')))
noncomputable def rSum_l2045_code : Go.Code := loopOf (subs (bodyOf Try.prog 64) 1 2045)
structure rSum_l2045_T4 where
  a0 : Int
  a1 : Int
  a2 : Int
  a3 : List (List Int)
  deriving Inhabited
def rSum_l2045_hd (v : rSum_l2045_T4) : HS := HS.mk [(nat_lit 2, LV.a (At.int true IntKind.u32 (rSum_l2045_T4.a0 v))), (nat_lit 3, LV.a (At.vec (nat_lit 0) (nat_lit 0) (nat_lit 1))), (nat_lit 10, LV.a (At.int true IntKind.u32 (rSum_l2045_T4.a1 v))), (nat_lit 11, LV.a (At.int true IntKind.i64 (rSum_l2045_T4.a2 v)))] [BC.mk (Hd.mk (nat_lit 0) (nat_lit 0) true (some (Rw.mk (nat_lit 0) [Kd.int IntKind.u8] (rSum_l2045_T4.a3 v) none))) []]
def rSum_l2045_s0 (v : rSum_l2045_T4) : Bool := decide (rSum_l2045_T4.a2 v < Int.ofNat (List.length (rSum_l2045_T4.a3 v)))
def rSum_l2045_st (v : rSum_l2045_T4) : List Prop × List (X × Bool × rSum_l2045_T4) := ([rSum_l2045_s0 v = true → (0 : Int) ≤ rSum_l2045_T4.a2 v ∧ rSum_l2045_T4.a2 v < Int.ofNat (List.length (rSum_l2045_T4.a3 v))], [(X.e (10 : Nat), !rSum_l2045_s0 v, rSum_l2045_T4.mk (rSum_l2045_T4.a0 v) (rSum_l2045_T4.a1 v) (rSum_l2045_T4.a2 v) (rSum_l2045_T4.a3 v)), (X.n, rSum_l2045_s0 v, rSum_l2045_T4.mk (rSum_l2045_T4.a0 v) (IntKind.wrap IntKind.u32 (IntKind.wrap IntKind.u32 (rSum_l2045_T4.a1 v * (2 : Int)) + IntKind.wrap IntKind.u32 (IntKind.wrap IntKind.u8 ((1 : Int) - rget (rSum_l2045_T4.a3 v) (Int.toNat (rSum_l2045_T4.a2 v)) (0 : Nat))))) (IntKind.wrap IntKind.i64 (rSum_l2045_T4.a2 v + (1 : Int))) (rSum_l2045_T4.a3 v))])
def rSum_l2045_rd : HS → Option rSum_l2045_T4
  | HS.mk [(2, LV.a (At.int true IntKind.u32 a0)), (3, LV.a (At.vec 0 0 1)), (10, LV.a (At.int true IntKind.u32 a1)), (11, LV.a (At.int true IntKind.i64 a2))] [BC.mk (Hd.mk 0 0 true (some (Rw.mk 0 [Kd.int IntKind.u8] a3 none))) []] => some (rSum_l2045_T4.mk a0 a1 a2 a3)
  | _ => none
def rSum_l2045_sum : V.Sum := loopS rSum_l2045_hd rSum_l2045_rd rSum_l2045_st 18446744073709551616 [X.e (10 : Nat)] [0, 2, 3, 4, 5, 6, 7, 8, 9, 10, 11, 15, 19, 35, 51, 58, 62, 89] [2, 3, 10, 11] [] [] [] 10
theorem rSum_l2045_E : ∀ v, bodyF Try.prog tabFm2 (ntOf Try.prog 64) [0, 2, 3, 4, 5, 6, 7, 8, 9, 10, 11, 15, 19, 35, 51, 58, 62, 89] [2, 3, 10, 11] [] 2000 [] [] rSum_l2045_code 8180 (rSum_l2045_hd v) = some ((rSum_l2045_st v).1, (rSum_l2045_st v).2.map fun q => (q.1, q.2.1, rSum_l2045_hd q.2.2)) := fun v => by kernel_rfl
set_option maxHeartbeats 2000000 in
theorem rSum_l2045_R : ∀ h v, rSum_l2045_rd h = some v → h = rSum_l2045_hd v := by
  intro h v e
  unfold rSum_l2045_rd at e
  split at e
  · simp only [Option.some.injEq] at e; subst e; rfl
  · cases e
set_option maxRecDepth 100000 in
theorem rSum_l2045_sok : SumOK Try.prog (ntOf Try.prog 64) [0, 2, 3, 4, 5, 6, 7, 8, 9, 10, 11, 15, 19, 35, 51, 58, 62, 89] (.block (blockOf (subs (bodyOf Try.prog 64) 1 2045)) (.loop rSum_l2045_code)) rSum_l2045_sum := loopS_ok tabFm2_ok follows rSum_l2045_E rSum_l2045_R (fun v => by kernel_rfl) (LOK_of _ _ (LOK_nil'))
def rSum_s0 (l : List (List Int)) : Option (X × rSum_l29_T) := lrun rSum_l29_st (18446744073709551616 : Nat) (rSum_l29_T.mk (0 : Int) (0 : Int) l [])
def rSum_s1 (l : List (List Int)) : List (List Int) := rSum_l29_T.a3 (V.valOf (rSum_s0 l)) ++ List.replicate (Int.toNat (32 : Int)) [(0 : Int)]
def rSum_s2 (l : List (List Int)) : Option (X × rSum_l125_T12) := lrun rSum_l125_st (18446744073709551616 : Nat) (rSum_l125_T12.mk (rSum_l29_T.a0 (V.valOf (rSum_s0 l))) (0 : Int) (rSum_s1 l))
def rSum_s3 (l : List (List Int)) : Option (X × rSum_l509_T9) := lrun rSum_l509_st (18446744073709551616 : Nat) (rSum_l509_T9.mk (rSum_l125_T12.a0 (V.valOf (rSum_s2 l))) (0 : Int) (rSum_l125_T12.a2 (V.valOf (rSum_s2 l))) [[(0 : Int)], [(6 : Int)], [(9 : Int)], [(10 : Int)], [(16 : Int)], [(20 : Int)], [(21 : Int)], [(22 : Int)], [(24 : Int)], [(25 : Int)], [(27 : Int)], [(28 : Int)], [(30 : Int)], [(31 : Int)], [(32 : Int)]])
def rSum_0 (l : List (List Int)) : Int := rSum_l2045_T4.a1 (V.valOf (lrun rSum_l2045_st (18446744073709551616 : Nat) (rSum_l2045_T4.mk (rSum_l509_T9.a0 (V.valOf (rSum_s3 l))) (0 : Int) (IntKind.wrap IntKind.i64 (Int.ofNat (List.length (rSum_l509_T9.a2 (V.valOf (rSum_s3 l)))) - (32 : Int))) (rSum_l509_T9.a2 (V.valOf (rSum_s3 l))))))
def rSum_o (r0 : Bool) (l : List (List Int)) : List Prop := [lok rSum_l29_st (18446744073709551616 : Nat) (rSum_l29_T.mk (0 : Int) (0 : Int) l []), isX (X.e (0 : Nat)) (rSum_s0 l) = true → (0 : Int) ≤ (32 : Int), isX (X.e (0 : Nat)) (rSum_s0 l) = true → List.length (rSum_s1 l) * (1 : Nat) ≤ (70368744177664 : Nat), isX (X.e (0 : Nat)) (rSum_s0 l) = true → lok rSum_l125_st (18446744073709551616 : Nat) (rSum_l125_T12.mk (rSum_l29_T.a0 (V.valOf (rSum_s0 l))) (0 : Int) (rSum_s1 l)), isX (X.e (0 : Nat)) (rSum_s0 l) = true → isX (X.e (4 : Nat)) (rSum_s2 l) = true → lok rSum_l509_st (18446744073709551616 : Nat) (rSum_l509_T9.mk (rSum_l125_T12.a0 (V.valOf (rSum_s2 l))) (0 : Int) (rSum_l125_T12.a2 (V.valOf (rSum_s2 l))) [[(0 : Int)], [(6 : Int)], [(9 : Int)], [(10 : Int)], [(16 : Int)], [(20 : Int)], [(21 : Int)], [(22 : Int)], [(24 : Int)], [(25 : Int)], [(27 : Int)], [(28 : Int)], [(30 : Int)], [(31 : Int)], [(32 : Int)]]), isX (X.e (0 : Nat)) (rSum_s0 l) = true → isX (X.e (4 : Nat)) (rSum_s2 l) = true → isX (X.e (6 : Nat)) (rSum_s3 l) = true → lok rSum_l2045_st (18446744073709551616 : Nat) (rSum_l2045_T4.mk (rSum_l509_T9.a0 (V.valOf (rSum_s3 l))) (0 : Int) (IntKind.wrap IntKind.i64 (Int.ofNat (List.length (rSum_l509_T9.a2 (V.valOf (rSum_s3 l)))) - (32 : Int))) (rSum_l509_T9.a2 (V.valOf (rSum_s3 l))))]
theorem rSum_p (r0 : Bool) (l : List (List Int)) : evG Try.prog tabFm2 2000 64 [0, 2, 3, 4, 5, 6, 7, 8, 9, 10, 11, 15, 19, 35, 51, 58, 62, 89] [(2045, rSum_l2045_sum), (509, rSum_l509_sum), (130341, rSum_l130341_sum), (125, rSum_l125_sum), (29, rSum_l29_sum), (1865, rSum_l1865_sum)] [] [.a (.vec 0 0 1)] [⟨⟨0, 0, r0, some ⟨0, [.int .u8], l, none⟩⟩, []⟩] = some (rSum_o r0 l, LV.a (At.int true IntKind.u32 (rSum_0 l)), [none]) := by kernel_rfl
def rSum_c : Con
  | [.a (.vec 0 0 1)], [⟨⟨0, 0, r0, some ⟨0, [.int .u8], l, none⟩⟩, []⟩] => some (rSum_o r0 l, LV.a (At.int true IntKind.u32 (rSum_0 l)), [none])
  | _, _ => none
theorem rSum_ok : ConOK Try.prog 64 (normC rSum_c) := normC_ok (by
  intro args bs obs lv out h ho φ vs w may ha hM
  unfold rSum_c at h
  split at h
  · simp only [Option.some.injEq, Prod.mk.injEq] at h
    obtain ⟨rfl, rfl, rfl⟩ := h
    rename_i r0 l
    exact evG_okL' tabFm2_ok follows (LOK_cons (show subs (bodyOf Try.prog 64) 1 2045 = [.block (blockOf (subs (bodyOf Try.prog 64) 1 2045)) (.loop rSum_l2045_code)] from by kernel_rfl) rSum_l2045_sok (LOK_cons (show subs (bodyOf Try.prog 64) 1 509 = [.block (blockOf (subs (bodyOf Try.prog 64) 1 509)) (.loop rSum_l509_code)] from by kernel_rfl) rSum_l509_sok (LOK_cons (show subs (bodyOf Try.prog 64) 1 130341 = [.block (blockOf (subs (bodyOf Try.prog 64) 1 130341)) (.loop rSum_l130341_code)] from by kernel_rfl) rSum_l130341_sok (LOK_cons (show subs (bodyOf Try.prog 64) 1 125 = [.block (blockOf (subs (bodyOf Try.prog 64) 1 125)) (.loop rSum_l125_code)] from by kernel_rfl) rSum_l125_sok (LOK_cons (show subs (bodyOf Try.prog 64) 1 29 = [.block (blockOf (subs (bodyOf Try.prog 64) 1 29)) (.loop rSum_l29_code)] from by kernel_rfl) rSum_l29_sok (LOK_cons (show subs (bodyOf Try.prog 64) 1 1865 = [.block (blockOf (subs (bodyOf Try.prog 64) 1 1865)) (.loop rSum_l1865_code)] from by kernel_rfl) rSum_l1865_sok (LOK_nil'))))))) _ _ _ _ _ (rSum_p r0 l) ho φ vs w may ha hM
  · cases h)
theorem rSum_en : Enters Try.prog 64 := fun args => by kernel_rfl
-- 16260 3 18 ms

def tabFt1 : Tab := (64, normC rSum_c) :: tabFm2
theorem tabFt1_ok : TOK Try.prog tabFt1 := TOK.cons rSum_en rSum_ok (tabFm2_ok)

end Go.Proofs.Ytcdejlgophpdjaa
end

section
namespace Go.Proofs.Ytcdejlgophpdjaa
open Go Go.RowKit Go.Proofs.Ytcdejlgophpdjaa.V
set_option linter.unusedVariables false

/-! azulejo/azulejolaw20.FrameTells -/
noncomputable def lFrTel_l260709_code : Go.Code := loopOf (subs (bodyOf Try.prog 11) 1 260709)
structure lFrTel_l260709_T where
  a0 : Bool
  a1 : ByteArray
  a2 : Int
  a3 : Int
  a4 : Int
  a5 : Bool
  a6 : Int
  a7 : Int
  a8 : Int
  a9 : Int
  a10 : List (List Int)
  a11 : List (List Int)
  deriving Inhabited
def lFrTel_l260709_hd (v : lFrTel_l260709_T) : HS := HS.mk [(nat_lit 2, LV.a (At.bool true (lFrTel_l260709_T.a0 v))), (nat_lit 3, LV.a (At.ptr (nat_lit 0) (nat_lit 0))), (nat_lit 4, LV.a (At.vec (nat_lit 2) (nat_lit 0) (nat_lit 1))), (nat_lit 5, LV.a (At.str true (lFrTel_l260709_T.a1 v))), (nat_lit 6, LV.a (At.int true IntKind.i64 (lFrTel_l260709_T.a2 v))), (nat_lit 20, LV.a (At.int true IntKind.i64 (lFrTel_l260709_T.a3 v))), (nat_lit 21, LV.a (At.int true IntKind.i64 (lFrTel_l260709_T.a4 v))), (nat_lit 22, LV.a (At.bool true (lFrTel_l260709_T.a5 v))), (nat_lit 26, LV.a (At.int true IntKind.i64 (lFrTel_l260709_T.a6 v))), (nat_lit 27, LV.a (At.int true IntKind.i64 (lFrTel_l260709_T.a7 v)))] [BC.mk (Hd.mk (nat_lit 0) (nat_lit 3) true none) [some (At.int true IntKind.i64 (lFrTel_l260709_T.a8 v)), some (At.int true IntKind.i64 (lFrTel_l260709_T.a9 v)), some (At.vec (nat_lit 1) (nat_lit 0) (nat_lit 6))], BC.mk (Hd.mk (nat_lit 0) (nat_lit 0) true (some (Rw.mk (nat_lit 0) [Kd.int IntKind.u8, Kd.int IntKind.u8, Kd.int IntKind.u8, Kd.int IntKind.u8, Kd.int IntKind.i64, Kd.int IntKind.u8] (lFrTel_l260709_T.a10 v) none))) [], BC.mk (Hd.mk (nat_lit 0) (nat_lit 0) false (some (Rw.mk (nat_lit 0) [Kd.int IntKind.u8] (lFrTel_l260709_T.a11 v) none))) []]
def lFrTel_l260709_s0 (v : lFrTel_l260709_T) : Bool := decide (lFrTel_l260709_T.a7 v < lFrTel_l260709_T.a6 v)
def lFrTel_l260709_s1 (v : lFrTel_l260709_T) : List (List Int) := lFrTel_l260709_T.a11 v ++ [[fAt_0 (lFrTel_l260709_T.a8 v) (lFrTel_l260709_T.a9 v) (lFrTel_l260709_T.a7 v) (lFrTel_l260709_T.a2 v) (lFrTel_l260709_T.a10 v)], [fAt_1 (lFrTel_l260709_T.a8 v) (lFrTel_l260709_T.a9 v) (lFrTel_l260709_T.a7 v) (lFrTel_l260709_T.a2 v) (lFrTel_l260709_T.a10 v)], [fAt_2 (lFrTel_l260709_T.a8 v) (lFrTel_l260709_T.a9 v) (lFrTel_l260709_T.a7 v) (lFrTel_l260709_T.a2 v) (lFrTel_l260709_T.a10 v)], [fAt_3 (lFrTel_l260709_T.a8 v) (lFrTel_l260709_T.a9 v) (lFrTel_l260709_T.a7 v) (lFrTel_l260709_T.a2 v) (lFrTel_l260709_T.a10 v)]]
def lFrTel_l260709_s2 (v : lFrTel_l260709_T) : List (List Int) := lFrTel_l260709_s1 v ++ [[IntKind.wrap IntKind.u8 (IntKind.wrap IntKind.i64 (Int.tdiv (fAt_4 (lFrTel_l260709_T.a8 v) (lFrTel_l260709_T.a9 v) (lFrTel_l260709_T.a7 v) (lFrTel_l260709_T.a2 v) (lFrTel_l260709_T.a10 v)) (256 : Int)))], [IntKind.wrap IntKind.u8 (Int.tmod (fAt_4 (lFrTel_l260709_T.a8 v) (lFrTel_l260709_T.a9 v) (lFrTel_l260709_T.a7 v) (lFrTel_l260709_T.a2 v) (lFrTel_l260709_T.a10 v)) (256 : Int))], [fAt_5 (lFrTel_l260709_T.a8 v) (lFrTel_l260709_T.a9 v) (lFrTel_l260709_T.a7 v) (lFrTel_l260709_T.a2 v) (lFrTel_l260709_T.a10 v)]]
def lFrTel_l260709_s3 (v : lFrTel_l260709_T) : Int := IntKind.wrap IntKind.i64 (Int.tdiv (IntKind.wrap IntKind.i64 (IntKind.wrap IntKind.i64 (IntKind.wrap IntKind.i64 (IntKind.wrap IntKind.i64 (fAt_0 (lFrTel_l260709_T.a8 v) (lFrTel_l260709_T.a9 v) (lFrTel_l260709_T.a7 v) (lFrTel_l260709_T.a2 v) (lFrTel_l260709_T.a10 v)) + IntKind.wrap IntKind.i64 (fAt_1 (lFrTel_l260709_T.a8 v) (lFrTel_l260709_T.a9 v) (lFrTel_l260709_T.a7 v) (lFrTel_l260709_T.a2 v) (lFrTel_l260709_T.a10 v))) + IntKind.wrap IntKind.i64 (fAt_2 (lFrTel_l260709_T.a8 v) (lFrTel_l260709_T.a9 v) (lFrTel_l260709_T.a7 v) (lFrTel_l260709_T.a2 v) (lFrTel_l260709_T.a10 v))) * (10 : Int))) (766 : Int))
def lFrTel_l260709_s4 (v : lFrTel_l260709_T) : Int := IntKind.wrap IntKind.i64 (lFrTel_l260709_s3 v + (1 : Int))
def lFrTel_l260709_s5 : ByteArray := ByteArray.mk (Array.mk [(32 : UInt8), (46 : UInt8), (58 : UInt8), (45 : UInt8), (61 : UInt8), (43 : UInt8), (42 : UInt8), (35 : UInt8), (37 : UInt8), (64 : UInt8)])
def lFrTel_l260709_st (v : lFrTel_l260709_T) : List Prop × List (X × Bool × lFrTel_l260709_T) := ([lFrTel_l260709_s0 v = true → (!fAt_s1 (lFrTel_l260709_T.a8 v) (lFrTel_l260709_T.a9 v) (lFrTel_l260709_T.a7 v) (lFrTel_l260709_T.a2 v) (lFrTel_l260709_T.a10 v)) = true → (0 : Int) ≤ fAt_s0 (lFrTel_l260709_T.a8 v) (lFrTel_l260709_T.a7 v) (lFrTel_l260709_T.a2 v) ∧ fAt_s0 (lFrTel_l260709_T.a8 v) (lFrTel_l260709_T.a7 v) (lFrTel_l260709_T.a2 v) < Int.ofNat (List.length (lFrTel_l260709_T.a10 v)), lFrTel_l260709_s0 v = true → List.length (lFrTel_l260709_s1 v) * (1 : Nat) ≤ (70368744177664 : Nat), lFrTel_l260709_s0 v = true → List.length (lFrTel_l260709_s2 v) * (1 : Nat) ≤ (70368744177664 : Nat), lFrTel_l260709_s0 v = true → (0 : Int) ≤ lFrTel_l260709_s3 v ∧ lFrTel_l260709_s3 v ≤ lFrTel_l260709_s4 v ∧ lFrTel_l260709_s4 v ≤ Int.ofNat (ByteArray.size lFrTel_l260709_s5), lFrTel_l260709_s0 v = true → Int.ofNat (ByteArray.size (lFrTel_l260709_T.a1 v) + ByteArray.size (ByteArray.extract lFrTel_l260709_s5 (Int.toNat (lFrTel_l260709_s3 v)) (Int.toNat (lFrTel_l260709_s4 v)))) ≤ (9223372036854775807 : Int)], [(X.e (2 : Nat), !lFrTel_l260709_s0 v, lFrTel_l260709_T.mk (lFrTel_l260709_T.a0 v) (lFrTel_l260709_T.a1 v) (lFrTel_l260709_T.a2 v) (lFrTel_l260709_T.a3 v) (lFrTel_l260709_T.a4 v) (lFrTel_l260709_T.a5 v) (lFrTel_l260709_T.a6 v) (lFrTel_l260709_T.a7 v) (lFrTel_l260709_T.a8 v) (lFrTel_l260709_T.a9 v) (lFrTel_l260709_T.a10 v) (lFrTel_l260709_T.a11 v)), (X.n, lFrTel_l260709_s0 v, lFrTel_l260709_T.mk (lFrTel_l260709_T.a0 v) (lFrTel_l260709_T.a1 v ++ ByteArray.extract lFrTel_l260709_s5 (Int.toNat (lFrTel_l260709_s3 v)) (Int.toNat (lFrTel_l260709_s4 v))) (lFrTel_l260709_T.a2 v) (lFrTel_l260709_T.a3 v) (lFrTel_l260709_T.a4 v) (lFrTel_l260709_T.a5 v) (lFrTel_l260709_T.a6 v) (IntKind.wrap IntKind.i64 (lFrTel_l260709_T.a7 v + (1 : Int))) (lFrTel_l260709_T.a8 v) (lFrTel_l260709_T.a9 v) (lFrTel_l260709_T.a10 v) (lFrTel_l260709_s2 v))])
def lFrTel_l260709_rd : HS → Option lFrTel_l260709_T
  | HS.mk [(2, LV.a (At.bool true a0)), (3, LV.a (At.ptr 0 0)), (4, LV.a (At.vec 2 0 1)), (5, LV.a (At.str true a1)), (6, LV.a (At.int true IntKind.i64 a2)), (20, LV.a (At.int true IntKind.i64 a3)), (21, LV.a (At.int true IntKind.i64 a4)), (22, LV.a (At.bool true a5)), (26, LV.a (At.int true IntKind.i64 a6)), (27, LV.a (At.int true IntKind.i64 a7))] [BC.mk (Hd.mk 0 3 true none) [some (At.int true IntKind.i64 a8), some (At.int true IntKind.i64 a9), some (At.vec 1 0 6)], BC.mk (Hd.mk 0 0 true (some (Rw.mk 0 [Kd.int IntKind.u8, Kd.int IntKind.u8, Kd.int IntKind.u8, Kd.int IntKind.u8, Kd.int IntKind.i64, Kd.int IntKind.u8] a10 none))) [], BC.mk (Hd.mk 0 0 false (some (Rw.mk 0 [Kd.int IntKind.u8] a11 none))) []] => some (lFrTel_l260709_T.mk a0 a1 a2 a3 a4 a5 a6 a7 a8 a9 a10 a11)
  | _ => none
def lFrTel_l260709_sum : V.Sum := loopS lFrTel_l260709_hd lFrTel_l260709_rd lFrTel_l260709_st 18446744073709551616 [X.e (2 : Nat)] [0, 1, 2, 3, 4, 5, 6, 7, 8, 9, 11, 15, 20, 21, 22, 26, 27, 28] [2, 3, 4, 5, 6, 20, 21, 22, 26, 27] [2] [2] [] 2
theorem lFrTel_l260709_E : ∀ v, bodyF Try.prog tabFt1 (ntOf Try.prog 11) [0, 1, 2, 3, 4, 5, 6, 7, 8, 9, 11, 15, 20, 21, 22, 26, 27, 28] [2, 3, 4, 5, 6, 20, 21, 22, 26, 27] [] 2000 [2] [2] lFrTel_l260709_code 1042836 (lFrTel_l260709_hd v) = some ((lFrTel_l260709_st v).1, (lFrTel_l260709_st v).2.map fun q => (q.1, q.2.1, lFrTel_l260709_hd q.2.2)) := fun v => by kernel_rfl
set_option maxHeartbeats 2000000 in
theorem lFrTel_l260709_R : ∀ h v, lFrTel_l260709_rd h = some v → h = lFrTel_l260709_hd v := by
  intro h v e
  unfold lFrTel_l260709_rd at e
  split at e
  · simp only [Option.some.injEq] at e; subst e; rfl
  · cases e
set_option maxRecDepth 100000 in
theorem lFrTel_l260709_sok : SumOK Try.prog (ntOf Try.prog 11) [0, 1, 2, 3, 4, 5, 6, 7, 8, 9, 11, 15, 20, 21, 22, 26, 27, 28] (.block (blockOf (subs (bodyOf Try.prog 11) 1 260709)) (.loop lFrTel_l260709_code)) lFrTel_l260709_sum := loopS_ok tabFt1_ok follows lFrTel_l260709_E lFrTel_l260709_R (fun v => by kernel_rfl) (LOK_of _ _ (LOK_nil'))
noncomputable def lFrTel_l509_code : Go.Code := loopOf (subs (bodyOf Try.prog 11) 1 509)
structure lFrTel_l509_T where
  a0 : Bool
  a1 : ByteArray
  a2 : Int
  a3 : Int
  a4 : Int
  a5 : Int
  a6 : List (List Int)
  a7 : List (List Int)
  deriving Inhabited
def lFrTel_l509_hd (v : lFrTel_l509_T) : HS := HS.mk [(nat_lit 2, LV.a (At.bool true (lFrTel_l509_T.a0 v))), (nat_lit 3, LV.a (At.ptr (nat_lit 0) (nat_lit 0))), (nat_lit 4, LV.a (At.vec (nat_lit 2) (nat_lit 0) (nat_lit 1))), (nat_lit 5, LV.a (At.str true (lFrTel_l509_T.a1 v))), (nat_lit 20, LV.a (At.int true IntKind.i64 (lFrTel_l509_T.a2 v))), (nat_lit 21, LV.a (At.int true IntKind.i64 (lFrTel_l509_T.a3 v)))] [BC.mk (Hd.mk (nat_lit 0) (nat_lit 3) true none) [some (At.int true IntKind.i64 (lFrTel_l509_T.a4 v)), some (At.int true IntKind.i64 (lFrTel_l509_T.a5 v)), some (At.vec (nat_lit 1) (nat_lit 0) (nat_lit 6))], BC.mk (Hd.mk (nat_lit 0) (nat_lit 0) true (some (Rw.mk (nat_lit 0) [Kd.int IntKind.u8, Kd.int IntKind.u8, Kd.int IntKind.u8, Kd.int IntKind.u8, Kd.int IntKind.i64, Kd.int IntKind.u8] (lFrTel_l509_T.a6 v) none))) [], BC.mk (Hd.mk (nat_lit 0) (nat_lit 0) false (some (Rw.mk (nat_lit 0) [Kd.int IntKind.u8] (lFrTel_l509_T.a7 v) none))) []]
def lFrTel_l509_s0 (v : lFrTel_l509_T) : Bool := decide (lFrTel_l509_T.a3 v < lFrTel_l509_T.a2 v)
def lFrTel_l509_s1 (v : lFrTel_l509_T) : Option (X × lFrTel_l260709_T) := lrun lFrTel_l260709_st (18446744073709551616 : Nat) (lFrTel_l260709_T.mk (lFrTel_l509_T.a0 v) (lFrTel_l509_T.a1 v) (lFrTel_l509_T.a3 v) (lFrTel_l509_T.a2 v) (lFrTel_l509_T.a3 v) (lFrTel_l509_s0 v) (lFrTel_l509_T.a4 v) (0 : Int) (lFrTel_l509_T.a4 v) (lFrTel_l509_T.a5 v) (lFrTel_l509_T.a6 v) (lFrTel_l509_T.a7 v))
def lFrTel_l509_s2 : ByteArray := ByteArray.mk (Array.mk [(10 : UInt8)])
def lFrTel_l509_st (v : lFrTel_l509_T) : List Prop × List (X × Bool × lFrTel_l509_T) := ([lFrTel_l509_s0 v = true → lok lFrTel_l260709_st (18446744073709551616 : Nat) (lFrTel_l260709_T.mk (lFrTel_l509_T.a0 v) (lFrTel_l509_T.a1 v) (lFrTel_l509_T.a3 v) (lFrTel_l509_T.a2 v) (lFrTel_l509_T.a3 v) (lFrTel_l509_s0 v) (lFrTel_l509_T.a4 v) (0 : Int) (lFrTel_l509_T.a4 v) (lFrTel_l509_T.a5 v) (lFrTel_l509_T.a6 v) (lFrTel_l509_T.a7 v)), lFrTel_l509_s0 v = true → isX (X.e (2 : Nat)) (lFrTel_l509_s1 v) = true → Int.ofNat (ByteArray.size (lFrTel_l260709_T.a1 (V.valOf (lFrTel_l509_s1 v))) + ByteArray.size lFrTel_l509_s2) ≤ (9223372036854775807 : Int)], [(X.e (0 : Nat), !lFrTel_l509_s0 v, lFrTel_l509_T.mk (lFrTel_l509_T.a0 v) (lFrTel_l509_T.a1 v) (lFrTel_l509_T.a2 v) (lFrTel_l509_T.a3 v) (lFrTel_l509_T.a4 v) (lFrTel_l509_T.a5 v) (lFrTel_l509_T.a6 v) (lFrTel_l509_T.a7 v)), (X.n, lFrTel_l509_s0 v && isX (X.e (2 : Nat)) (lFrTel_l509_s1 v), lFrTel_l509_T.mk (lFrTel_l260709_T.a0 (V.valOf (lFrTel_l509_s1 v))) (lFrTel_l260709_T.a1 (V.valOf (lFrTel_l509_s1 v)) ++ lFrTel_l509_s2) (lFrTel_l260709_T.a3 (V.valOf (lFrTel_l509_s1 v))) (IntKind.wrap IntKind.i64 (lFrTel_l260709_T.a4 (V.valOf (lFrTel_l509_s1 v)) + (1 : Int))) (lFrTel_l509_T.a4 v) (lFrTel_l509_T.a5 v) (lFrTel_l509_T.a6 v) (lFrTel_l260709_T.a11 (V.valOf (lFrTel_l509_s1 v))))])
def lFrTel_l509_rd : HS → Option lFrTel_l509_T
  | HS.mk [(2, LV.a (At.bool true a0)), (3, LV.a (At.ptr 0 0)), (4, LV.a (At.vec 2 0 1)), (5, LV.a (At.str true a1)), (20, LV.a (At.int true IntKind.i64 a2)), (21, LV.a (At.int true IntKind.i64 a3))] [BC.mk (Hd.mk 0 3 true none) [some (At.int true IntKind.i64 a4), some (At.int true IntKind.i64 a5), some (At.vec 1 0 6)], BC.mk (Hd.mk 0 0 true (some (Rw.mk 0 [Kd.int IntKind.u8, Kd.int IntKind.u8, Kd.int IntKind.u8, Kd.int IntKind.u8, Kd.int IntKind.i64, Kd.int IntKind.u8] a6 none))) [], BC.mk (Hd.mk 0 0 false (some (Rw.mk 0 [Kd.int IntKind.u8] a7 none))) []] => some (lFrTel_l509_T.mk a0 a1 a2 a3 a4 a5 a6 a7)
  | _ => none
def lFrTel_l509_sum : V.Sum := loopS lFrTel_l509_hd lFrTel_l509_rd lFrTel_l509_st 18446744073709551616 [X.e (0 : Nat)] [0, 1, 2, 3, 4, 5, 6, 7, 8, 9, 11, 15, 20, 21, 22, 26, 27, 28] [2, 3, 4, 5, 20, 21] [2] [2] [(4, [.int .u8])] 0
theorem lFrTel_l509_E : ∀ v, bodyF Try.prog tabFt1 (ntOf Try.prog 11) [0, 1, 2, 3, 4, 5, 6, 7, 8, 9, 11, 15, 20, 21, 22, 26, 27, 28] [2, 3, 4, 5, 20, 21] [(260709, lFrTel_l260709_sum)] 2000 [2] [2] lFrTel_l509_code 2036 (lFrTel_l509_hd v) = some ((lFrTel_l509_st v).1, (lFrTel_l509_st v).2.map fun q => (q.1, q.2.1, lFrTel_l509_hd q.2.2)) := fun v => by kernel_rfl
set_option maxHeartbeats 2000000 in
theorem lFrTel_l509_R : ∀ h v, lFrTel_l509_rd h = some v → h = lFrTel_l509_hd v := by
  intro h v e
  unfold lFrTel_l509_rd at e
  split at e
  · simp only [Option.some.injEq] at e; subst e; rfl
  · cases e
set_option maxRecDepth 100000 in
theorem lFrTel_l509_sok : SumOK Try.prog (ntOf Try.prog 11) [0, 1, 2, 3, 4, 5, 6, 7, 8, 9, 11, 15, 20, 21, 22, 26, 27, 28] (.block (blockOf (subs (bodyOf Try.prog 11) 1 509)) (.loop lFrTel_l509_code)) lFrTel_l509_sum := loopS_ok tabFt1_ok follows lFrTel_l509_E lFrTel_l509_R (fun v => by kernel_rfl) (LOK_of _ _ (LOK_cons (show subs lFrTel_l509_code 2036 260709 = [.block (blockOf (subs (bodyOf Try.prog 11) 1 260709)) (.loop lFrTel_l260709_code)] from by kernel_rfl) lFrTel_l260709_sok (LOK_nil')))
def lFrTel_s0 (n0_2 : Nat) : Bool := decide ((100 : Int) < Int.ofNat n0_2)
def lFrTel_s1 (x0_0 : Int) (x0_1 : Int) (n0_2 : Nat) (y0_2 : List (List Int)) : Option (X × lFrTel_l509_T) := lrun lFrTel_l509_st (18446744073709551616 : Nat) (lFrTel_l509_T.mk false (ByteArray.mk (Array.mk [])) (fSmF_1 x0_0 x0_1 n0_2 y0_2) (0 : Int) (fSmF_0 x0_0 x0_1 n0_2 y0_2) (fSmF_1 x0_0 x0_1 n0_2 y0_2) (fSmF_2 x0_0 x0_1 n0_2 y0_2) [])
def lFrTel_s2 (x0_0 : Int) (x0_1 : Int) (n0_2 : Nat) (y0_2 : List (List Int)) : Bool := fSum_0 (fSmF_2 x0_0 x0_1 n0_2 y0_2) == rSum_0 (lFrTel_l509_T.a7 (V.valOf (lFrTel_s1 x0_0 x0_1 n0_2 y0_2)))
def lFrTel_0 (x0_0 : Int) (x0_1 : Int) (n0_2 : Nat) (y0_2 : List (List Int)) : Bool := bif !fAwake_0 then false else bif lFrTel_s0 n0_2 then true else bif lFrTel_s2 x0_0 x0_1 n0_2 y0_2 then ByteArray.toList (fText_0 (fSmF_0 x0_0 x0_1 n0_2 y0_2) (fSmF_1 x0_0 x0_1 n0_2 y0_2) (fSmF_2 x0_0 x0_1 n0_2 y0_2)) == ByteArray.toList (lFrTel_l509_T.a1 (V.valOf (lFrTel_s1 x0_0 x0_1 n0_2 y0_2))) else false
def lFrTel_s3 (x0_0 : Int) (x0_1 : Int) (n0_2 : Nat) (y0_2 : List (List Int)) : List (List Int) := rSum_l509_T9.a2 (V.valOf (rSum_s3 (lFrTel_l509_T.a7 (V.valOf (lFrTel_s1 x0_0 x0_1 n0_2 y0_2)))))
def lFrTel_o (x0_0 : Int) (x0_1 : Int) (n0_2 : Nat) (y0_2 : List (List Int)) : List Prop := [decide (fNew_s6 (2 : Int) (1 : Int) < (0 : Int)) = false, (bif decide ((0 : Int) < fAwake_s2) then true else decide ((9223372036854775807 : Int) < fAwake_s3)) = false, (0 : Int) ≤ IntKind.wrap IntKind.i64 fAwake_s3 ∧ IntKind.wrap IntKind.i64 fAwake_s3 = IntKind.wrap IntKind.i64 fAwake_s3 ∧ IntKind.wrap IntKind.i64 fAwake_s3 * Int.ofNat (24 : Nat) ≤ (70368744177664 : Int), lok sRep_l254_st (18446744073709551616 : Nat) (sRep_l254_T.mk (Int.ofNat (sRep_s3 (fNew_s6 (2 : Int) (1 : Int)) (0 : Int) (0 : Int) (0 : Int) (0 : Int) (0 : Int) (0 : Int))) (List.take (0 : Nat) fAwake_s4 ++ List.take (2 : Nat) (sRep_s0 (0 : Int) (0 : Int) (0 : Int) (0 : Int) (0 : Int) (0 : Int)) ++ List.drop (1 : Nat) fAwake_s4)), (!fChk_s0 (fNew_s2 (2 : Int)) (fNew_s5 (1 : Int)) fAwake_s0) = true → lok fChk_l29_st (18446744073709551616 : Nat) (fChk_l29_T.mk (0 : Int) (Int.ofNat (2 : Nat)) (0 : Int) fAwake_s0), (!fText_s0 (fNew_s2 (2 : Int)) (fNew_s5 (1 : Int)) fAwake_s0) = true → lok fText_l61_st (18446744073709551616 : Nat) (fText_l61_T.mk (ByteArray.mk (Array.mk [])) (fNew_s5 (1 : Int)) (0 : Int) (fNew_s2 (2 : Int)) (fNew_s5 (1 : Int)) fAwake_s0 []), fAwake_s1 = true → (!fChk_s0 (fNew_s2 (2 : Int)) (fNew_s5 (1 : Int)) fAwake_s0) = true → lok fChk_l29_st (18446744073709551616 : Nat) (fChk_l29_T.mk (0 : Int) (Int.ofNat (2 : Nat)) (0 : Int) fAwake_s0), (!!fAwake_0) = true → (!lFrTel_s0 n0_2) = true → decide (fNew_s6 (fSmF_s0 x0_0) (fSmF_s1 x0_1) < (0 : Int)) = false, (!!fAwake_0) = true → (!lFrTel_s0 n0_2) = true → (bif decide ((0 : Int) < fSized_s0 (fSmF_s0 x0_0) (fSmF_s1 x0_1)) then true else decide ((9223372036854775807 : Int) < sRep_s1 (fNew_s6 (fSmF_s0 x0_0) (fSmF_s1 x0_1)))) = false, (!!fAwake_0) = true → (!lFrTel_s0 n0_2) = true → (0 : Int) ≤ IntKind.wrap IntKind.i64 (sRep_s1 (fNew_s6 (fSmF_s0 x0_0) (fSmF_s1 x0_1))) ∧ IntKind.wrap IntKind.i64 (sRep_s1 (fNew_s6 (fSmF_s0 x0_0) (fSmF_s1 x0_1))) = IntKind.wrap IntKind.i64 (sRep_s1 (fNew_s6 (fSmF_s0 x0_0) (fSmF_s1 x0_1))) ∧ IntKind.wrap IntKind.i64 (sRep_s1 (fNew_s6 (fSmF_s0 x0_0) (fSmF_s1 x0_1))) * Int.ofNat (24 : Nat) ≤ (70368744177664 : Int), (!!fAwake_0) = true → (!lFrTel_s0 n0_2) = true → lok sRep_l254_st (18446744073709551616 : Nat) (sRep_l254_T.mk (Int.ofNat (fSized_s1 (fSmF_s0 x0_0) (fSmF_s1 x0_1))) (List.take (0 : Nat) (sRep_s2 (fNew_s6 (fSmF_s0 x0_0) (fSmF_s1 x0_1))) ++ List.take (List.length (sRep_s2 (fNew_s6 (fSmF_s0 x0_0) (fSmF_s1 x0_1)))) (sRep_s0 (0 : Int) (0 : Int) (0 : Int) (0 : Int) (65535 : Int) (0 : Int)) ++ List.drop ((0 : Nat) + fSized_s1 (fSmF_s0 x0_0) (fSmF_s1 x0_1)) (sRep_s2 (fNew_s6 (fSmF_s0 x0_0) (fSmF_s1 x0_1))))), (!!fAwake_0) = true → (!lFrTel_s0 n0_2) = true → lok fSized_l29_st (18446744073709551616 : Nat) (fSized_l29_T.mk (fSmF_s0 x0_0) (fSmF_s1 x0_1) (0 : Int) x0_0 x0_1 n0_2 y0_2 (0 : Int) (0 : Int) (fNew_s2 (fSmF_s0 x0_0)) (fNew_s5 (fSmF_s1 x0_1)) (fNew_0 (fSmF_s0 x0_0) (fSmF_s1 x0_1) (0 : Int) (0 : Int) (0 : Int) (0 : Int) (65535 : Int) (0 : Int))), (!!fAwake_0) = true → (!lFrTel_s0 n0_2) = true → lok lFrTel_l509_st (18446744073709551616 : Nat) (lFrTel_l509_T.mk false (ByteArray.mk (Array.mk [])) (fSmF_1 x0_0 x0_1 n0_2 y0_2) (0 : Int) (fSmF_0 x0_0 x0_1 n0_2 y0_2) (fSmF_1 x0_0 x0_1 n0_2 y0_2) (fSmF_2 x0_0 x0_1 n0_2 y0_2) []), (!!fAwake_0) = true → (!lFrTel_s0 n0_2) = true → isX (X.e (0 : Nat)) (lFrTel_s1 x0_0 x0_1 n0_2 y0_2) = true → lok fSum_l29_st (18446744073709551616 : Nat) (fSum_l29_T.mk (0 : Int) (Int.ofNat (List.length (fSmF_2 x0_0 x0_1 n0_2 y0_2))) (0 : Int) (fSmF_2 x0_0 x0_1 n0_2 y0_2) []), (!!fAwake_0) = true → (!lFrTel_s0 n0_2) = true → isX (X.e (0 : Nat)) (lFrTel_s1 x0_0 x0_1 n0_2 y0_2) = true → isX (X.e (0 : Nat)) (fSum_s0 (fSmF_2 x0_0 x0_1 n0_2 y0_2)) = true → lok cSum_l29_st (18446744073709551616 : Nat) (cSum_l29_T.mk (0 : Int) (4294967295 : Int) (Int.ofNat (List.length (fSum_l29_T.a4 (V.valOf (fSum_s0 (fSmF_2 x0_0 x0_1 n0_2 y0_2)))))) (0 : Int) (fSum_l29_T.a4 (V.valOf (fSum_s0 (fSmF_2 x0_0 x0_1 n0_2 y0_2))))), (!!fAwake_0) = true → (!lFrTel_s0 n0_2) = true → isX (X.e (0 : Nat)) (lFrTel_s1 x0_0 x0_1 n0_2 y0_2) = true → lok rSum_l29_st (18446744073709551616 : Nat) (rSum_l29_T.mk (0 : Int) (0 : Int) (lFrTel_l509_T.a7 (V.valOf (lFrTel_s1 x0_0 x0_1 n0_2 y0_2))) []), (!!fAwake_0) = true → (!lFrTel_s0 n0_2) = true → isX (X.e (0 : Nat)) (lFrTel_s1 x0_0 x0_1 n0_2 y0_2) = true → isX (X.e (0 : Nat)) (rSum_s0 (lFrTel_l509_T.a7 (V.valOf (lFrTel_s1 x0_0 x0_1 n0_2 y0_2)))) = true → (0 : Int) ≤ (32 : Int), (!!fAwake_0) = true → (!lFrTel_s0 n0_2) = true → isX (X.e (0 : Nat)) (lFrTel_s1 x0_0 x0_1 n0_2 y0_2) = true → isX (X.e (0 : Nat)) (rSum_s0 (lFrTel_l509_T.a7 (V.valOf (lFrTel_s1 x0_0 x0_1 n0_2 y0_2)))) = true → List.length (rSum_s1 (lFrTel_l509_T.a7 (V.valOf (lFrTel_s1 x0_0 x0_1 n0_2 y0_2)))) * (1 : Nat) ≤ (70368744177664 : Nat), (!!fAwake_0) = true → (!lFrTel_s0 n0_2) = true → isX (X.e (0 : Nat)) (lFrTel_s1 x0_0 x0_1 n0_2 y0_2) = true → isX (X.e (0 : Nat)) (rSum_s0 (lFrTel_l509_T.a7 (V.valOf (lFrTel_s1 x0_0 x0_1 n0_2 y0_2)))) = true → lok rSum_l125_st (18446744073709551616 : Nat) (rSum_l125_T12.mk (rSum_l29_T.a0 (V.valOf (rSum_s0 (lFrTel_l509_T.a7 (V.valOf (lFrTel_s1 x0_0 x0_1 n0_2 y0_2)))))) (0 : Int) (rSum_s1 (lFrTel_l509_T.a7 (V.valOf (lFrTel_s1 x0_0 x0_1 n0_2 y0_2))))), (!!fAwake_0) = true → (!lFrTel_s0 n0_2) = true → isX (X.e (0 : Nat)) (lFrTel_s1 x0_0 x0_1 n0_2 y0_2) = true → isX (X.e (0 : Nat)) (rSum_s0 (lFrTel_l509_T.a7 (V.valOf (lFrTel_s1 x0_0 x0_1 n0_2 y0_2)))) = true → isX (X.e (4 : Nat)) (rSum_s2 (lFrTel_l509_T.a7 (V.valOf (lFrTel_s1 x0_0 x0_1 n0_2 y0_2)))) = true → lok rSum_l509_st (18446744073709551616 : Nat) (rSum_l509_T9.mk (rSum_l125_T12.a0 (V.valOf (rSum_s2 (lFrTel_l509_T.a7 (V.valOf (lFrTel_s1 x0_0 x0_1 n0_2 y0_2)))))) (0 : Int) (rSum_l125_T12.a2 (V.valOf (rSum_s2 (lFrTel_l509_T.a7 (V.valOf (lFrTel_s1 x0_0 x0_1 n0_2 y0_2)))))) [[(0 : Int)], [(6 : Int)], [(9 : Int)], [(10 : Int)], [(16 : Int)], [(20 : Int)], [(21 : Int)], [(22 : Int)], [(24 : Int)], [(25 : Int)], [(27 : Int)], [(28 : Int)], [(30 : Int)], [(31 : Int)], [(32 : Int)]]), (!!fAwake_0) = true → (!lFrTel_s0 n0_2) = true → isX (X.e (0 : Nat)) (lFrTel_s1 x0_0 x0_1 n0_2 y0_2) = true → isX (X.e (0 : Nat)) (rSum_s0 (lFrTel_l509_T.a7 (V.valOf (lFrTel_s1 x0_0 x0_1 n0_2 y0_2)))) = true → isX (X.e (4 : Nat)) (rSum_s2 (lFrTel_l509_T.a7 (V.valOf (lFrTel_s1 x0_0 x0_1 n0_2 y0_2)))) = true → isX (X.e (6 : Nat)) (rSum_s3 (lFrTel_l509_T.a7 (V.valOf (lFrTel_s1 x0_0 x0_1 n0_2 y0_2)))) = true → lok rSum_l2045_st (18446744073709551616 : Nat) (rSum_l2045_T4.mk (rSum_l509_T9.a0 (V.valOf (rSum_s3 (lFrTel_l509_T.a7 (V.valOf (lFrTel_s1 x0_0 x0_1 n0_2 y0_2)))))) (0 : Int) (IntKind.wrap IntKind.i64 (Int.ofNat (List.length (lFrTel_s3 x0_0 x0_1 n0_2 y0_2)) - (32 : Int))) (lFrTel_s3 x0_0 x0_1 n0_2 y0_2)), (!!fAwake_0) = true → (!lFrTel_s0 n0_2) = true → isX (X.e (0 : Nat)) (lFrTel_s1 x0_0 x0_1 n0_2 y0_2) = true → lFrTel_s2 x0_0 x0_1 n0_2 y0_2 = true → (!fChk_s0 (fSmF_0 x0_0 x0_1 n0_2 y0_2) (fSmF_1 x0_0 x0_1 n0_2 y0_2) (fSmF_2 x0_0 x0_1 n0_2 y0_2)) = true → lok fChk_l29_st (18446744073709551616 : Nat) (fChk_l29_T.mk (0 : Int) (Int.ofNat (List.length (fSmF_2 x0_0 x0_1 n0_2 y0_2))) (0 : Int) (fSmF_2 x0_0 x0_1 n0_2 y0_2)), (!!fAwake_0) = true → (!lFrTel_s0 n0_2) = true → isX (X.e (0 : Nat)) (lFrTel_s1 x0_0 x0_1 n0_2 y0_2) = true → lFrTel_s2 x0_0 x0_1 n0_2 y0_2 = true → (!fText_s0 (fSmF_0 x0_0 x0_1 n0_2 y0_2) (fSmF_1 x0_0 x0_1 n0_2 y0_2) (fSmF_2 x0_0 x0_1 n0_2 y0_2)) = true → lok fText_l61_st (18446744073709551616 : Nat) (fText_l61_T.mk (ByteArray.mk (Array.mk [])) (fSmF_1 x0_0 x0_1 n0_2 y0_2) (0 : Int) (fSmF_0 x0_0 x0_1 n0_2 y0_2) (fSmF_1 x0_0 x0_1 n0_2 y0_2) (fSmF_2 x0_0 x0_1 n0_2 y0_2) [])]
theorem lFrTel_p (x0_0 : Int) (x0_1 : Int) (n0_2 : Nat) (y0_2 : List (List Int)) : evG Try.prog tabFt1 2000 11 [0, 1, 2, 3, 4, 5, 6, 7, 8, 9, 11, 15, 20, 21, 22, 26, 27, 28] [(509, lFrTel_l509_sum), (260709, lFrTel_l260709_sum)] [] [.g [.int true .u8 x0_0, .int true .u8 x0_1, .slc true 0 0 0 6 0 n0_2]] [⟨⟨0, 0, true, some ⟨0, [.int .u8, .int .u8, .int .u8, .int .u8, .int .u16, .int .u8], y0_2, none⟩⟩, []⟩] = some (lFrTel_o x0_0 x0_1 n0_2 y0_2, LV.a (At.bool true (lFrTel_0 x0_0 x0_1 n0_2 y0_2)), [none]) := by kernel_rfl
def lFrTel_c : Con
  | [.g [.int true .u8 x0_0, .int true .u8 x0_1, .slc true 0 0 0 6 0 n0_2]], [⟨⟨0, 0, true, some ⟨0, [.int .u8, .int .u8, .int .u8, .int .u8, .int .u16, .int .u8], y0_2, none⟩⟩, []⟩] => some (lFrTel_o x0_0 x0_1 n0_2 y0_2, LV.a (At.bool true (lFrTel_0 x0_0 x0_1 n0_2 y0_2)), [none])
  | _, _ => none
theorem lFrTel_ok : ConOK Try.prog 11 (normC lFrTel_c) := normC_ok (by
  intro args bs obs lv out h ho φ vs w may ha hM
  unfold lFrTel_c at h
  split at h
  · simp only [Option.some.injEq, Prod.mk.injEq] at h
    obtain ⟨rfl, rfl, rfl⟩ := h
    rename_i x0_0 x0_1 n0_2 y0_2
    exact evG_okL' tabFt1_ok follows (LOK_cons (show subs (bodyOf Try.prog 11) 1 509 = [.block (blockOf (subs (bodyOf Try.prog 11) 1 509)) (.loop lFrTel_l509_code)] from by kernel_rfl) lFrTel_l509_sok (LOK_cons (show subs (bodyOf Try.prog 11) 1 260709 = [.block (blockOf (subs (bodyOf Try.prog 11) 1 260709)) (.loop lFrTel_l260709_code)] from by kernel_rfl) lFrTel_l260709_sok (LOK_nil'))) _ _ _ _ _ (lFrTel_p x0_0 x0_1 n0_2 y0_2) ho φ vs w may ha hM
  · cases h)
theorem lFrTel_en : Enters Try.prog 11 := fun args => by kernel_rfl
-- 4270 153 15 ms

def tabFt2 : Tab := (11, normC lFrTel_c) :: tabFt1
theorem tabFt2_ok : TOK Try.prog tabFt2 := TOK.cons lFrTel_en lFrTel_ok (tabFt1_ok)

end Go.Proofs.Ytcdejlgophpdjaa
end

section
namespace Go.Proofs.Ytcdejlgophpdjaa
open Go

theorem p64 : (2 : Int) ^ 64 = 18446744073709551616 := by decide
theorem p63 : (2 : Int) ^ (64 - 1) = 9223372036854775808 := by decide

theorem w64 (n : Int) : IntKind.wrap .i64 n = if n % 18446744073709551616 ≥ 9223372036854775808 then n % 18446744073709551616 - 18446744073709551616 else n % 18446744073709551616 := by
  unfold IntKind.wrap
  simp only [IntKind.bits, IntKind.signed, Bool.true_and, decide_eq_true_eq, p64, p63]

theorem w64_in {n : Int} (h1 : -9223372036854775808 ≤ n) (h2 : n ≤ 9223372036854775807) : IntKind.wrap .i64 n = n := by
  rw [w64]; split <;> omega

theorem wu8 (n : Int) : IntKind.wrap .u8 n = n % 256 := by
  unfold IntKind.wrap
  simp only [IntKind.bits, IntKind.signed, Bool.false_and, Bool.false_eq_true, if_false]
  rfl

theorem wi8 (n : Int) : IntKind.wrap .i8 n = if n % 256 ≥ 128 then n % 256 - 256 else n % 256 := by
  unfold IntKind.wrap
  have h8 : (2 : Int) ^ 8 = 256 := by decide
  have h7 : (2 : Int) ^ (8 - 1) = 128 := by decide
  simp only [IntKind.bits, IntKind.signed, Bool.true_and, decide_eq_true_eq, h8, h7]

theorem sh16 (n : Int) : Int.fdiv n (2 ^ min (Int.toNat 16) (IntKind.bits .i64)) = n / 65536 := by
  have : (2 : Int) ^ min (Int.toNat 16) (IntKind.bits .i64) = 65536 := by decide
  rw [this, Int.fdiv_eq_ediv_of_nonneg _ (by omega)]

end Go.Proofs.Ytcdejlgophpdjaa
end

section
namespace Go.Proofs.Ytcdejlgophpdjaa
open Go Go.RowKit

theorem bd_u8 {x : Int} (a : IntKind.min .u8 ≤ x) (b : x ≤ IntKind.max .u8) : 0 ≤ x ∧ x ≤ 255 := ⟨a, b⟩
theorem bd_u16 {x : Int} (a : IntKind.min .u16 ≤ x) (b : x ≤ IntKind.max .u16) : 0 ≤ x ∧ x ≤ 65535 := ⟨a, b⟩
theorem bd_u32 {x : Int} (a : IntKind.min .u32 ≤ x) (b : x ≤ IntKind.max .u32) : 0 ≤ x ∧ x ≤ 4294967295 := ⟨a, b⟩
theorem bd_i8 {x : Int} (a : IntKind.min .i8 ≤ x) (b : x ≤ IntKind.max .i8) : -128 ≤ x ∧ x ≤ 127 := ⟨a, b⟩
theorem bd_i16 {x : Int} (a : IntKind.min .i16 ≤ x) (b : x ≤ IntKind.max .i16) : -32768 ≤ x ∧ x ≤ 32767 := ⟨a, b⟩
theorem bd_i32 {x : Int} (a : IntKind.min .i32 ≤ x) (b : x ≤ IntKind.max .i32) : -2147483648 ≤ x ∧ x ≤ 2147483647 := ⟨a, b⟩
theorem bd_i64 {x : Int} (a : IntKind.min .i64 ≤ x) (b : x ≤ IntKind.max .i64) : -9223372036854775808 ≤ x ∧ x ≤ 9223372036854775807 := ⟨a, b⟩

end Go.Proofs.Ytcdejlgophpdjaa
end

section
namespace Go.Proofs.Ytcdejlgophpdjaa
open Go Go.RowKit Go.Proofs.Ytcdejlgophpdjaa.V

/-- A loop whose state hangs on a number that rises, by whatever steps, up to n. -/
theorem lm_run {α : Type} {st : α → List Prop × List (X × Bool × α)} {s : Nat → α} {n : Nat} {x : X} {v : α} (hs : ∀ i, i < n → ∃ j, i < j ∧ j ≤ n ∧ pick1 (st (s i)).2 = some (.n, s j)) (he : pick1 (st (s n)).2 = some (x, v)) (hx : x ≠ .n) :
    ∀ (d i : Nat), i ≤ n → n ≤ i + d → ∀ (f : Nat), d < f → lrun st f (s i) = some (x, v)
  | d, i, hi, h, 0, hf => by omega
  | 0, i, hi, h, f + 1, _ => by
    have : i = n := by omega
    subst this
    unfold lrun
    rw [he]
    cases x <;> first | rfl | exact absurd rfl hx
  | d + 1, i, hi, h, f + 1, hf => by
    by_cases hin : i = n
    · subst hin
      unfold lrun
      rw [he]
      cases x <;> first | rfl | exact absurd rfl hx
    · obtain ⟨j, h1, h2, h3⟩ := hs i (by omega)
      unfold lrun
      rw [h3]
      exact lm_run hs he hx d j h2 (by omega) f (by omega)

theorem lm_lok {α : Type} {st : α → List Prop × List (X × Bool × α)} {s : Nat → α} {n : Nat} {x : X} {v : α} (hs : ∀ i, i < n → ∃ j, i < j ∧ j ≤ n ∧ pick1 (st (s i)).2 = some (.n, s j)) (he : pick1 (st (s n)).2 = some (x, v)) (hx : x ≠ .n) (ho : ∀ i, i ≤ n → Alls (st (s i)).1) :
    ∀ (d i : Nat), i ≤ n → n ≤ i + d → ∀ (f : Nat), d < f → lok st f (s i)
  | d, i, hi, h, 0, hf => by omega
  | 0, i, hi, h, f + 1, _ => by
    have : i = n := by omega
    subst this
    unfold lok
    rw [he]
    exact ⟨ho i (by omega), by cases x <;> first | trivial | exact absurd rfl hx⟩
  | d + 1, i, hi, h, f + 1, hf => by
    by_cases hin : i = n
    · subst hin
      unfold lok
      rw [he]
      exact ⟨ho i (by omega), by cases x <;> first | trivial | exact absurd rfl hx⟩
    · obtain ⟨j, h1, h2, h3⟩ := hs i (by omega)
      unfold lok
      rw [h3]
      exact ⟨ho i (by omega), lm_lok hs he hx ho d j h2 (by omega) f (by omega)⟩

theorem lc_run {α : Type} {st : α → List Prop × List (X × Bool × α)} {s : Nat → α} {n : Nat} {x : X} {v : α} (hs : ∀ i, i < n → pick1 (st (s i)).2 = some (.n, s (i + 1))) (he : pick1 (st (s n)).2 = some (x, v)) (hx : x ≠ .n) {i f : Nat} (hi : i ≤ n) (hf : n < f) : lrun st f (s i) = some (x, v) :=
  lm_run (fun i h => ⟨i + 1, by omega, by omega, hs i h⟩) he hx (n - i) i hi (by omega) f (by omega)
theorem lc_lok {α : Type} {st : α → List Prop × List (X × Bool × α)} {s : Nat → α} {n : Nat} {x : X} {v : α} (hs : ∀ i, i < n → pick1 (st (s i)).2 = some (.n, s (i + 1))) (he : pick1 (st (s n)).2 = some (x, v)) (hx : x ≠ .n) (ho : ∀ i, i ≤ n → Alls (st (s i)).1) {i f : Nat} (hi : i ≤ n) (hf : n < f) : lok st f (s i) :=
  lm_lok (fun i h => ⟨i + 1, by omega, by omega, hs i h⟩) he hx ho (n - i) i hi (by omega) f (by omega)

/-- .. that ends before, at m, by another way. -/
theorem lx_run {α : Type} {st : α → List Prop × List (X × Bool × α)} {s : Nat → α} {m : Nat} {x : X} {v : α} (hs : ∀ i, i < m → pick1 (st (s i)).2 = some (.n, s (i + 1))) (he : pick1 (st (s m)).2 = some (x, v)) (hx : x ≠ .n) {f : Nat} (hf : m < f) : lrun st f (s 0) = some (x, v) := lc_run hs he hx (Nat.zero_le _) hf
theorem lx_lok {α : Type} {st : α → List Prop × List (X × Bool × α)} {s : Nat → α} {m : Nat} {x : X} {v : α} (hs : ∀ i, i < m → pick1 (st (s i)).2 = some (.n, s (i + 1))) (he : pick1 (st (s m)).2 = some (x, v)) (hx : x ≠ .n) (ho : ∀ i, i ≤ m → Alls (st (s i)).1) {f : Nat} (hf : m < f) : lok st f (s 0) := lc_lok hs he hx ho (Nat.zero_le _) hf

end Go.Proofs.Ytcdejlgophpdjaa
end

section
namespace Go.Proofs.Ytcdejlgophpdjaa
open Go Go.RowKit Go.Proofs.Ytcdejlgophpdjaa.V
set_option linter.unusedVariables false
set_option linter.unusedSectionVars false

theorem wu_in {x : Int} (h0 : 0 ≤ x) (h1 : x ≤ 18446744073709551615) : IntKind.wrap .u64 x = x := by
  have e := IntKind.wrap_u64 x
  omega

theorem mul_1 {x : Int} (h0 : 0 ≤ x) (h1 : x ≤ 4096) : bMul64_1 (IntKind.wrap .u64 (Int.ofNat 1)) (IntKind.wrap .u64 x) = x := by
  unfold bMul64_1
  have e1 : IntKind.wrap .u64 (Int.ofNat 1) = 1 := by decide
  rw [e1, wu_in h0 (by omega), Int.one_mul, wu_in h0 (by omega)]

theorem mul_0 {x : Int} (h0 : 0 ≤ x) (h1 : x ≤ 4096) : bMul64_0 (IntKind.wrap .u64 (Int.ofNat 1)) (IntKind.wrap .u64 x) = 0 := by
  have e1 : IntKind.wrap .u64 (Int.ofNat 1) = 1 := by decide
  have es0 : bMul64_s0 = 4294967296 := by decide +kernel
  have es1 : bMul64_s1 = 18446744073709551616 := by decide +kernel
  have es2 : bMul64_s2 = 2 ^ 32 - 1 := by decide +kernel
  have es4 : bMul64_s4 1 = 1 := by decide +kernel
  have hf : Int.fdiv x 4294967296 = 0 := by rw [Int.fdiv_eq_ediv_of_nonneg _ (by omega)]; omega
  have hf1 : Int.fdiv 1 4294967296 = 0 := by decide
  have es3 : bMul64_s3 x = x := by
    unfold bMul64_s3
    rw [es1, es2, Nat.and_two_pow_sub_one_eq_mod]
    have e2 : x % 18446744073709551616 = x := Int.emod_eq_of_lt h0 (by omega)
    rw [e2]
    have e3 : Int.ofNat (x.toNat % 2 ^ 32) = x := by
      show ((x.toNat % 2 ^ 32 : Nat) : Int) = x
      omega
    rw [e3, wu_in h0 (by omega)]
  have es5 : bMul64_s5 1 x = 0 := by
    unfold bMul64_s5
    rw [es0, es3, es4, hf1, Int.zero_mul, Int.one_mul, wu_in h0 (by omega), hf]
    decide
  unfold bMul64_0
  rw [e1, wu_in h0 (by omega), es0, es5, es4, hf, hf1]
  decide +kernel

section
variable {p0 p1 p2 p3 p4 p5 : Int} {N : Nat} (h1 : 1 ≤ N) (h2 : N ≤ 4096)

def rpS (p : List Int) (N k : Nat) : sRep_l254_T := .mk (Int.ofNat k) (List.replicate k p ++ List.replicate (N - k) [0, 0, 0, 0, 0, 0])

theorem rp_len (p : List Int) {N k : Nat} (h : k ≤ N) : (rpS p N k).a1.length = N := by
  show (_ ++ _ : List (List Int)).length = N
  rw [List.length_append, List.length_replicate, List.length_replicate]; omega

theorem rp_s0 (p : List Int) {N k : Nat} (h : k ≤ N) : sRep_l254_s0 (rpS p N k) = decide (k < N) := by
  unfold sRep_l254_s0
  rw [rp_len p h]
  exact decide_eq_decide.2 Int.ofNat_lt

theorem rp_step (p : List Int) {N k : Nat} (hk : 1 ≤ k) (h : k < N) (hN : N ≤ 4096) : ∃ j, k < j ∧ j ≤ N ∧ pick1 (sRep_l254_st (rpS p N k)).2 = some (.n, rpS p N j) := by
  refine ⟨k + min k (N - k), by omega, by omega, ?_⟩
  unfold sRep_l254_st
  rw [rp_s0 p (by omega), decide_eq_true h]
  have e1 : sRep_l254_s1 (rpS p N k) = List.replicate k p := by
    unfold sRep_l254_s1
    show List.take (k - 0) (List.drop 0 (List.replicate k p ++ List.replicate (N - k) [0, 0, 0, 0, 0, 0])) = _
    rw [Nat.sub_zero, List.drop_zero, List.take_append_of_le_length (by simp), List.take_of_length_le (by simp)]
  have e2 : sRep_l254_s2 (rpS p N k) = N - k := by
    unfold sRep_l254_s2
    rw [rp_len p (by omega)]; rfl
  have e3 : Nat.min k (N - k) = min k (N - k) := rfl
  simp only [pick1, Bool.not_true, e1, e2, List.length_replicate, e3]
  have e4 : IntKind.wrap .i64 ((rpS p N k).a0 + Int.ofNat (min k (N - k))) = Int.ofNat (k + min k (N - k)) := by
    show IntKind.wrap .i64 (Int.ofNat k + Int.ofNat (min k (N - k))) = _
    have f1 : Int.ofNat k = (k : Int) := rfl
    have f2 : Int.ofNat (min k (N - k)) = ((min k (N - k) : Nat) : Int) := rfl
    have f3 : Int.ofNat (k + min k (N - k)) = ((k + min k (N - k) : Nat) : Int) := rfl
    rw [f1, f2, f3, w64_in (by omega) (by omega)]; omega
  rw [e4]
  unfold rpS
  congr 3
  show List.take k (List.replicate k p ++ List.replicate (N - k) [0, 0, 0, 0, 0, 0]) ++ List.take (N - k) (List.replicate k p) ++ List.drop (k + min k (N - k)) (List.replicate k p ++ List.replicate (N - k) [0, 0, 0, 0, 0, 0]) = _
  rw [List.take_append_of_le_length (by simp), List.take_of_length_le (by simp), List.take_replicate, List.drop_append, List.drop_of_length_le (by simp), List.nil_append, List.length_replicate, List.drop_replicate, List.replicate_append_replicate]
  congr 2
  · rw [Nat.min_comm]
  · omega

theorem rp_end (p : List Int) (N : Nat) : pick1 (sRep_l254_st (rpS p N N)).2 = some (.e 0, rpS p N N) := by
  unfold sRep_l254_st
  rw [rp_s0 p (Nat.le_refl _), decide_eq_false (Nat.lt_irrefl _)]
  rfl

theorem rp_obs (p : List Int) {N k : Nat} (h : k ≤ N) : Alls (sRep_l254_st (rpS p N k)).1 := by
  unfold sRep_l254_st
  rw [rp_len p h]
  have f1 : (rpS p N k).a0 = (k : Int) := rfl
  have f2 : Int.ofNat N = (N : Int) := rfl
  have f3 : Int.ofNat 0 = 0 := rfl
  rw [f1, f2, f3]
  exact ⟨fun _ => ⟨by omega, by omega, by omega⟩, fun _ => ⟨by omega, by omega, by omega⟩, trivial⟩

include h1 h2
theorem rep_start (p : List Int) (hp : sRep_s0 p0 p1 p2 p3 p4 p5 = [p]) : sRep_l254_T.mk (Int.ofNat (sRep_s3 (N : Int) p0 p1 p2 p3 p4 p5)) (List.take 0 (sRep_s2 (N : Int)) ++ List.take (List.length (sRep_s2 (N : Int))) (sRep_s0 p0 p1 p2 p3 p4 p5) ++ List.drop (0 + sRep_s3 (N : Int) p0 p1 p2 p3 p4 p5) (sRep_s2 (N : Int))) = rpS p N 1 := by
  have e2 : sRep_s2 (N : Int) = List.replicate N [0, 0, 0, 0, 0, 0] := by
    unfold sRep_s2 sRep_s1
    rw [mul_1 (by omega) (by omega), w64_in (by omega) (by omega), Int.toNat_natCast]
  have e3 : sRep_s3 (N : Int) p0 p1 p2 p3 p4 p5 = 1 := by
    unfold sRep_s3
    rw [e2, List.length_replicate]
    show min 1 N = 1
    omega
  rw [e2, e3, hp]
  unfold rpS
  congr 1
  rw [List.take_zero, List.nil_append, List.length_replicate, List.drop_replicate, List.take_of_length_le (by simp; omega)]
  rfl

omit h1 h2 in
theorem rp_go (p : List Int) {N : Nat} (hN : N ≤ 4096) (i : Nat) (h : i < N - 1) : ∃ j, i < j ∧ j ≤ N - 1 ∧ pick1 (sRep_l254_st (rpS p N (i + 1))).2 = some (.n, rpS p N (j + 1)) := by
  obtain ⟨j, g1, g2, g3⟩ := rp_step p (k := i + 1) (by omega) (by omega) hN
  exact ⟨j - 1, by omega, by omega, by rw [show j - 1 + 1 = j by omega]; exact g3⟩
omit h2 in
theorem rp_end' (p : List Int) : pick1 (sRep_l254_st (rpS p N (N - 1 + 1))).2 = some (.e 0, rpS p N N) := by
  rw [show N - 1 + 1 = N by omega]; exact rp_end p N

theorem rep_eq : sRep_0 (N : Int) p0 p1 p2 p3 p4 p5 = List.replicate N [p0, p1, p2, p3, p4, p5] := by
  unfold sRep_0
  rw [rep_start h1 h2 [p0, p1, p2, p3, p4, p5] rfl, lm_run (st := sRep_l254_st) (s := fun i => rpS [p0, p1, p2, p3, p4, p5] N (i + 1)) (n := N - 1) (rp_go _ h2) (rp_end' h1 _) nofun (N - 1) 0 (by omega) (by omega) 18446744073709551616 (by omega)]
  show List.replicate N _ ++ List.replicate (N - N) _ = _
  rw [Nat.sub_self]; simp

theorem rep_obs (r0 : Bool) : Alls (sRep_o (N : Int) r0 p0 p1 p2 p3 p4 p5) := by
  unfold sRep_o sRep_s1
  rw [mul_1 (by omega) (by omega), mul_0 (by omega) (by omega), w64_in (by omega) (by omega), rep_start h1 h2 [p0, p1, p2, p3, p4, p5] rfl]
  have f : Int.ofNat 24 = 24 := rfl
  refine ⟨decide_eq_false (by omega), ?_, ⟨by omega, rfl, by rw [f]; omega⟩, ?_, trivial⟩
  · rw [decide_eq_false (show ¬ (9223372036854775807 : Int) < N by omega)]; rfl
  · exact lm_lok (st := sRep_l254_st) (s := fun i => rpS [p0, p1, p2, p3, p4, p5] N (i + 1)) (n := N - 1) (rp_go _ h2) (rp_end' h1 _) nofun (fun i h => rp_obs _ (by omega)) (N - 1) 0 (by omega) (by omega) 18446744073709551616 (by omega)

end
end Go.Proofs.Ytcdejlgophpdjaa
end

section
namespace Go.Proofs.Ytcdejlgophpdjaa
open Go Go.RowKit Go.Proofs.Ytcdejlgophpdjaa.V
set_option linter.unusedVariables false
set_option linter.unusedSectionVars false

theorem isX_rf {k : Nat} {α : Type} {v : α} : isX (.e k) (some (.e k, v)) = true := by simp [isX, xeq]

/-- Is a pixel's depth one? -/
def dOK (l : List (List Int)) (i : Nat) : Prop := 0 ≤ rget l i 4 ∧ rget l i 4 ≤ 65535
def cS (l : List (List Int)) (i : Nat) : fChk_l29_T := .mk 0 (Int.ofNat l.length) (i : Int) l

theorem c_s0 (l : List (List Int)) (i : Nat) : fChk_l29_s0 (cS l i) = decide (i < l.length) := by
  unfold fChk_l29_s0
  exact decide_eq_decide.2 Int.ofNat_lt
theorem c_s2 {l : List (List Int)} {i : Nat} (h : dOK l i) : fChk_l29_s2 (cS l i) = false := by
  unfold fChk_l29_s2
  show (bif decide (rget l i 4 < 0) then true else decide (65535 < rget l i 4)) = false
  rw [decide_eq_false (by have := h.1; omega), decide_eq_false (by have := h.2; omega)]; rfl
theorem c_s2n {l : List (List Int)} {i : Nat} (h : ¬ dOK l i) : fChk_l29_s2 (cS l i) = true := by
  unfold fChk_l29_s2
  show (bif decide (rget l i 4 < 0) then true else decide (65535 < rget l i 4)) = true
  by_cases h0 : rget l i 4 < 0
  · rw [decide_eq_true h0]; rfl
  · rw [decide_eq_false h0, decide_eq_true (by unfold dOK at h; omega)]; rfl
theorem c_step {l : List (List Int)} (hL : l.length ≤ 4096) {i : Nat} (hi : i < l.length) (h : dOK l i) : pick1 (fChk_l29_st (cS l i)).2 = some (.n, cS l (i + 1)) := by
  unfold fChk_l29_st
  rw [c_s0, decide_eq_true hi, c_s2 h]
  have e : IntKind.wrap .i64 ((cS l i).a2 + 1) = ((i + 1 : Nat) : Int) := by
    show IntKind.wrap .i64 ((i : Int) + 1) = _
    rw [w64_in (by omega) (by omega)]; omega
  rw [e]; rfl
theorem c_bad {l : List (List Int)} {i : Nat} (hi : i < l.length) (h : ¬ dOK l i) : pick1 (fChk_l29_st (cS l i)).2 = some (.r, .mk 2 (Int.ofNat l.length) (i : Int) l) := by
  unfold fChk_l29_st
  rw [c_s0, decide_eq_true hi, c_s2n h]; rfl
theorem c_end (l : List (List Int)) : pick1 (fChk_l29_st (cS l l.length)).2 = some (.e 0, cS l l.length) := by
  unfold fChk_l29_st
  rw [c_s0, decide_eq_false (Nat.lt_irrefl _)]; rfl
theorem c_obs (l : List (List Int)) (i : Nat) : Alls (fChk_l29_st (cS l i)).1 := by
  unfold fChk_l29_st
  rw [c_s0]
  exact ⟨fun h => ⟨Int.natCast_nonneg i, Int.ofNat_lt.2 (of_decide_eq_true h)⟩, trivial⟩

theorem first (p : Nat → Prop) : ∀ n : Nat, ∃ m, m ≤ n ∧ (∀ i, i < m → p i) ∧ (m = n ∨ ¬ p m)
  | 0 => ⟨0, by omega, fun i h => absurd h (by omega), .inl rfl⟩
  | n + 1 => by
    obtain ⟨m, a, b, c⟩ := first p n
    rcases c with c | c
    · subst c
      by_cases h : p m
      · exact ⟨m + 1, by omega, fun i hi => by by_cases e : i = m; exact e ▸ h; exact b i (by omega), .inl rfl⟩
      · exact ⟨m, by omega, b, .inr h⟩
    · exact ⟨m, by omega, b, .inr c⟩

theorem c_lok {l : List (List Int)} (hL : l.length ≤ 4096) : lok fChk_l29_st 18446744073709551616 (.mk 0 (Int.ofNat l.length) 0 l) := by
  obtain ⟨m, a, b, c⟩ := first (dOK l) l.length
  show lok fChk_l29_st 18446744073709551616 (cS l 0)
  by_cases h : m = l.length
  · subst h
    exact lx_lok (s := cS l) (fun i hi => c_step hL hi (b i hi)) (c_end l) nofun (fun i _ => c_obs l i) (by omega)
  · exact lx_lok (s := cS l) (fun i hi => c_step hL (by omega) (b i hi)) (c_bad (by omega) (c.resolve_left h)) nofun (fun i _ => c_obs l i) (by omega)

theorem c_good {w h : Int} {l : List (List Int)} (hL : l.length ≤ 4096) (hs : fChk_s0 w h l = false) (b : ∀ i, i < l.length → dOK l i) : fChk_0 w h l = 0 := by
  have e : fChk_s1 l = some (.e 0, cS l l.length) := by
    unfold fChk_s1
    show lrun _ _ (cS l 0) = _
    exact lx_run (s := cS l) (fun i hi => c_step hL hi (b i hi)) (c_end l) nofun (by omega)
  unfold fChk_0
  rw [hs, e]; rfl
theorem c_two {w h : Int} {l : List (List Int)} (hL : l.length ≤ 4096) (hs : fChk_s0 w h l = false) {m : Nat} (hm : m < l.length) (b : ∀ i, i < m → dOK l i) (c : ¬ dOK l m) : fChk_0 w h l = 2 := by
  have e : fChk_s1 l = some (.r, .mk 2 (Int.ofNat l.length) (m : Int) l) := by
    unfold fChk_s1
    show lrun _ _ (cS l 0) = _
    exact lx_run (s := cS l) (fun i hi => c_step hL (by omega) (b i hi)) (c_bad hm c) nofun (by omega)
  unfold fChk_0
  rw [hs, e]; rfl
theorem c_six {w h : Int} {l : List (List Int)} (hs : fChk_s0 w h l = true) : fChk_0 w h l = 6 := by
  unfold fChk_0
  rw [hs]; rfl

section
variable {w h : Nat} {l : List (List Int)} (w1 : w ≤ 64) (h1 : h ≤ 64) (hl : l.length = w * h) (hb : ∀ k j, j < 3 → 0 ≤ rget l k j ∧ rget l k j ≤ 255)

def tI (w h y : Nat) (l : List (List Int)) (x : Nat) (out : List (List Int)) : fText_l31333_T := .mk ⟨⟨[]⟩⟩ (y : Int) (h : Int) (y : Int) true (w : Int) (x : Int) (w : Int) (h : Int) l out
def tC (w h y : Nat) (l : List (List Int)) (x : Nat) : Int := byteAt fText_l31333_s2 (fText_l31333_s1 (tI w h y l x [])).toNat
def tO (w h y : Nat) (l out : List (List Int)) (x : Nat) : List (List Int) := out ++ (List.range x).map fun k => [tC w h y l k]

theorem tO_len (w h y : Nat) (l out : List (List Int)) (x : Nat) : (tO w h y l out x).length = out.length + x := by
  unfold tO; simp
theorem tO_succ (w h y : Nat) (l out : List (List Int)) (x : Nat) : tO w h y l out (x + 1) = tO w h y l out x ++ [[tC w h y l x]] := by
  unfold tO; simp [List.range_succ]

include hl w1 h1 in
theorem at_in {x y : Nat} (hx : x < w) (hy : y < h) : fAt_s0 w x y = ((y * w + x : Nat) : Int) ∧ y * w + x < l.length := by
  have e1 : y * w ≤ 63 * w := Nat.mul_le_mul_right _ (by omega)
  have e2 : y * w + w ≤ h * w := by
    have := Nat.mul_le_mul_right w (show y + 1 ≤ h by omega)
    rw [Nat.succ_mul] at this; exact this
  unfold fAt_s0
  have c1 : (y : Int) * (w : Int) = ((y * w : Nat) : Int) := by simp
  rw [c1, w64_in (n := ((y * w : Nat) : Int)) (by omega) (by omega), w64_in (n := ((y * w : Nat) : Int) + (x : Int)) (by omega) (by omega), hl, Nat.mul_comm w h]
  exact ⟨by omega, by omega⟩

include hb in
theorem at_bd (a b c d : Int) : (0 ≤ fAt_0 a b c d l ∧ fAt_0 a b c d l ≤ 255) ∧ (0 ≤ fAt_1 a b c d l ∧ fAt_1 a b c d l ≤ 255) ∧ (0 ≤ fAt_2 a b c d l ∧ fAt_2 a b c d l ≤ 255) := by
  refine ⟨?_, ?_, ?_⟩ <;> simp only [fAt_0, fAt_1, fAt_2] <;> cases fAt_s1 a b c d l <;> first | exact hb _ _ (by decide) | exact (show (0 : Int) ≤ 0 ∧ (0 : Int) ≤ 255 by decide)

include hb in
theorem t_s1 (y x : Nat) (out : List (List Int)) : 0 ≤ fText_l31333_s1 (tI w h y l x out) ∧ fText_l31333_s1 (tI w h y l x out) < 10 := by
  unfold fText_l31333_s1
  obtain ⟨⟨a0, a1⟩, ⟨b0, b1⟩, ⟨c0, c1⟩⟩ := at_bd hb (w : Int) (h : Int) (x : Int) (y : Int)
  show 0 ≤ IntKind.wrap .i64 (Int.tdiv (IntKind.wrap .i64 (IntKind.wrap .i64 (IntKind.wrap .i64 (IntKind.wrap .i64 (fAt_0 w h x y l) + IntKind.wrap .i64 (fAt_1 w h x y l)) + IntKind.wrap .i64 (fAt_2 w h x y l)) * 10)) 766) ∧ IntKind.wrap .i64 (Int.tdiv (IntKind.wrap .i64 (IntKind.wrap .i64 (IntKind.wrap .i64 (IntKind.wrap .i64 (fAt_0 w h x y l) + IntKind.wrap .i64 (fAt_1 w h x y l)) + IntKind.wrap .i64 (fAt_2 w h x y l)) * 10)) 766) < 10
  generalize fAt_0 (w : Int) h x y l = A at *
  generalize fAt_1 (w : Int) h x y l = B at *
  generalize fAt_2 (w : Int) h x y l = C at *
  rw [w64_in (n := A) (by omega) (by omega), w64_in (n := B) (by omega) (by omega), w64_in (n := C) (by omega) (by omega), w64_in (n := A + B) (by omega) (by omega), w64_in (n := A + B + C) (by omega) (by omega), w64_in (n := (A + B + C) * 10) (by omega) (by omega), Int.tdiv_eq_ediv_of_nonneg (by omega), w64_in (by omega) (by omega)]
  omega

theorem t_s0 (y x : Nat) (out : List (List Int)) : fText_l31333_s0 (tI w h y l x out) = decide (x < w) := by
  unfold fText_l31333_s0
  exact decide_eq_decide.2 Int.ofNat_lt

include w1 in
theorem t_step (y : Nat) (out : List (List Int)) (x : Nat) (hx : x < w) : pick1 (fText_l31333_st (tI w h y l x (tO w h y l out x))).2 = some (.n, tI w h y l (x + 1) (tO w h y l out (x + 1))) := by
  unfold fText_l31333_st
  rw [t_s0, decide_eq_true hx]
  have e : IntKind.wrap .i64 ((tI w h y l x (tO w h y l out x)).a6 + 1) = ((x + 1 : Nat) : Int) := by
    show IntKind.wrap .i64 ((x : Int) + 1) = _
    rw [w64_in (by omega) (by omega)]; omega
  have e3 : fText_l31333_s3 (tI w h y l x (tO w h y l out x)) = tO w h y l out (x + 1) := by
    rw [tO_succ]; rfl
  rw [e, e3]; rfl
theorem t_end (y : Nat) (out : List (List Int)) : pick1 (fText_l31333_st (tI w h y l w (tO w h y l out w))).2 = some (.e 2, tI w h y l w (tO w h y l out w)) := by
  unfold fText_l31333_st
  rw [t_s0, decide_eq_false (Nat.lt_irrefl _)]; rfl
include w1 h1 hl hb in
theorem t_obs {y : Nat} (hy : y < h) {out : List (List Int)} (ho : out.length ≤ 10000) (x : Nat) (hx : x ≤ w) : Alls (fText_l31333_st (tI w h y l x (tO w h y l out x))).1 := by
  unfold fText_l31333_st
  rw [t_s0]
  refine ⟨fun g _ => ?_, fun g => ?_, fun g => ?_, trivial⟩
  · obtain ⟨e, f⟩ := at_in w1 h1 hl (of_decide_eq_true g) hy
    show 0 ≤ fAt_s0 w x y ∧ fAt_s0 w x y < Int.ofNat l.length
    rw [e]
    exact ⟨by omega, Int.ofNat_lt.2 f⟩
  · have := t_s1 hb y x (tO w h y l out x) (w := w) (h := h)
    exact ⟨this.1, this.2⟩
  · have e3 : fText_l31333_s3 (tI w h y l x (tO w h y l out x)) = tO w h y l out (x + 1) := by
      rw [tO_succ]; rfl
    rw [e3, tO_len]; omega

def uS (w h : Nat) (l : List (List Int)) (out : Nat → List (List Int)) (y : Nat) : fText_l61_T := .mk ⟨⟨[]⟩⟩ (h : Int) (y : Int) (w : Int) (h : Int) l (out y)
/-- What is written before row y. -/
def uO (w h : Nat) (l : List (List Int)) : Nat → List (List Int)
  | 0 => []
  | y + 1 => tO w h y l (uO w h l y) w ++ [[10]]
theorem uO_len (w h : Nat) (l : List (List Int)) : ∀ y, (uO w h l y).length = y * (w + 1)
  | 0 => by simp [uO]
  | y + 1 => by
    rw [uO, List.length_append, tO_len, uO_len w h l y, Nat.succ_mul]; simp; omega

theorem u_s0 (y : Nat) : fText_l61_s0 (uS w h l (uO w h l) y) = decide (y < h) := by
  unfold fText_l61_s0
  exact decide_eq_decide.2 Int.ofNat_lt
include w1 in
theorem u_s1 (y : Nat) (hy : y < h) : fText_l61_s1 (uS w h l (uO w h l) y) = some (.e 2, tI w h y l w (tO w h y l (uO w h l y) w)) := by
  unfold fText_l61_s1
  rw [u_s0, decide_eq_true hy]
  have e : uO w h l y = tO w h y l (uO w h l y) 0 := by simp [tO]
  show lrun _ _ (tI w h y l 0 (uO w h l y)) = _
  rw [show tI w h y l 0 (uO w h l y) = tI w h y l 0 (tO w h y l (uO w h l y) 0) from congrArg _ e]
  exact lx_run (s := fun x => tI w h y l x (tO w h y l (uO w h l y) x)) (fun x hx => t_step w1 y _ x hx) (t_end y _) nofun (by omega)
include w1 h1 in
theorem u_step (y : Nat) (hy : y < h) : pick1 (fText_l61_st (uS w h l (uO w h l) y)).2 = some (.n, uS w h l (uO w h l) (y + 1)) := by
  unfold fText_l61_st
  rw [u_s0, decide_eq_true hy, u_s1 w1 y hy, isX_rf]
  have e2 : fText_l61_s2 (uS w h l (uO w h l) y) = uO w h l (y + 1) := by
    unfold fText_l61_s2
    rw [u_s1 w1 y hy]; rfl
  rw [e2]
  have e : IntKind.wrap .i64 ((V.valOf (some (X.e 2, tI w h y l w (tO w h y l (uO w h l y) w)))).a3 + 1) = ((y + 1 : Nat) : Int) := by
    show IntKind.wrap .i64 ((y : Int) + 1) = _
    rw [w64_in (by omega) (by omega)]; omega
  rw [e]; rfl
theorem u_end : pick1 (fText_l61_st (uS w h l (uO w h l) h)).2 = some (.e 0, uS w h l (uO w h l) h) := by
  unfold fText_l61_st
  rw [u_s0, decide_eq_false (Nat.lt_irrefl _)]; rfl
include w1 h1 hl hb in
theorem u_obs (y : Nat) (hy : y ≤ h) : Alls (fText_l61_st (uS w h l (uO w h l) y)).1 := by
  have hlen : y * (w + 1) ≤ 64 * 65 := Nat.mul_le_mul (by omega) (by omega)
  unfold fText_l61_st
  refine ⟨fun g => ?_, fun g _ => ?_, trivial⟩
  · rw [u_s0] at g
    have hy' := of_decide_eq_true g
    rw [u_s0, g]
    have e : uO w h l y = tO w h y l (uO w h l y) 0 := by simp [tO]
    show lok _ _ (tI w h y l 0 (uO w h l y))
    rw [show tI w h y l 0 (uO w h l y) = tI w h y l 0 (tO w h y l (uO w h l y) 0) from congrArg _ e]
    exact lx_lok (s := fun x => tI w h y l x (tO w h y l (uO w h l y) x)) (fun x hx => t_step w1 y _ x hx) (t_end y _) nofun (fun x hx => t_obs w1 h1 hl hb hy' (by rw [uO_len]; omega) x hx) (by omega)
  · rw [u_s0] at g
    have hy' := of_decide_eq_true g
    have e2 : fText_l61_s2 (uS w h l (uO w h l) y) = uO w h l (y + 1) := by
      unfold fText_l61_s2
      rw [u_s1 w1 y hy']; rfl
    rw [e2, uO_len, Nat.succ_mul]; omega

include w1 h1 hl hb in
theorem text_lok : lok fText_l61_st 18446744073709551616 (.mk ⟨⟨[]⟩⟩ (h : Int) 0 (w : Int) (h : Int) l []) := by
  show lok _ _ (uS w h l (uO w h l) 0)
  exact lx_lok (s := uS w h l (uO w h l)) (fun y hy => u_step w1 h1 y hy) u_end nofun (fun y hy => u_obs w1 h1 hl hb y hy) (by omega)
include w1 h1 in
theorem text_eq (hc : fChk_0 w h l = 0) : fText_0 w h l = bytesOf (uO w h l h) := by
  unfold fText_0 fText_s0
  rw [hc]
  have e : lrun fText_l61_st 18446744073709551616 (.mk ⟨⟨[]⟩⟩ (h : Int) 0 (w : Int) (h : Int) l []) = some (.e 0, uS w h l (uO w h l) h) := by
    show lrun _ _ (uS w h l (uO w h l) 0) = _
    exact lx_run (s := uS w h l (uO w h l)) (fun y hy => u_step w1 h1 y hy) u_end nofun (by omega)
  rw [e]; rfl
end
theorem text_no {w h : Int} {l : List (List Int)} (hc : fChk_0 w h l ≠ 0) : fText_0 w h l = ⟨⟨[]⟩⟩ := by
  unfold fText_0 fText_s0
  rw [show (fChk_0 w h l != 0) = true from by simp [hc]]; rfl
end Go.Proofs.Ytcdejlgophpdjaa
end

section
namespace Go.Proofs.Ytcdejlgophpdjaa
open Go Go.RowKit Go.Proofs.Ytcdejlgophpdjaa.V
set_option linter.unusedVariables false
set_option linter.unusedSectionVars false

/-- Between 1 and 64. -/
def cl (x : Int) : Nat := (if 64 < (if x < 1 then 1 else x) then 64 else (if x < 1 then 1 else x)).toNat
theorem cl_1 (x : Int) : 1 ≤ cl x := by
  unfold cl; split <;> split at * <;> omega
theorem cl_64 (x : Int) : cl x ≤ 64 := by
  unfold cl; split <;> split at * <;> omega
theorem n_s2 (x : Int) : fNew_s2 x = (cl x : Int) := by
  unfold fNew_s2 fNew_s0 cl; split <;> split at * <;> omega
theorem n_s5 (x : Int) : fNew_s5 x = (cl x : Int) := by
  unfold fNew_s5 fNew_s3 cl; split <;> split at * <;> omega
theorem cl_N (x y : Int) : 1 ≤ cl x * cl y ∧ cl x * cl y ≤ 4096 :=
  ⟨Nat.mul_pos (cl_1 x) (cl_1 y), Nat.mul_le_mul (cl_64 x) (cl_64 y)⟩
theorem n_s6 (x y : Int) : fNew_s6 x y = ((cl x * cl y : Nat) : Int) := by
  have := cl_N x y
  unfold fNew_s6
  rw [n_s2, n_s5, ← Int.natCast_mul, w64_in (by omega) (by omega)]
theorem new_eq (x y p0 p1 p2 p3 p4 p5 : Int) : fNew_0 x y p0 p1 p2 p3 p4 p5 = List.replicate (cl x * cl y) [p0, p1, p2, p3, p4, p5] := by
  unfold fNew_0
  rw [n_s6]
  exact rep_eq (cl_N x y).1 (cl_N x y).2

theorem chk_sz {w h : Nat} (w1 : 1 ≤ w) (w2 : w ≤ 64) (h1 : 1 ≤ h) (h2 : h ≤ 64) {l : List (List Int)} (hl : l.length = w * h) : fChk_s0 (w : Int) (h : Int) l = false := by
  have h3 : w * h ≤ 64 * 64 := Nat.mul_le_mul w2 h2
  unfold fChk_s0
  rw [decide_eq_false (show ¬ (w : Int) < 1 by omega), decide_eq_false (show ¬ 64 < (w : Int) by omega), decide_eq_false (show ¬ (h : Int) < 1 by omega), decide_eq_false (show ¬ 64 < (h : Int) by omega), ← Int.natCast_mul, w64_in (by omega) (by omega), hl]
  simp

theorem rget_rep {N i : Nat} (h : i < N) (p : List Int) (j : Nat) : rget (List.replicate N p) i j = p.getD j 0 := by
  unfold rget
  rw [List.getD_eq_getElem?_getD (l := List.replicate N p), List.getElem?_replicate, if_pos h]; rfl
theorem rset_len (l : List (List Int)) (i j : Nat) (v : List Int) : (rset l i j v).length = l.length := by
  unfold rset; simp
theorem rget_set_ne {l : List (List Int)} {i k j : Nat} (v : List Int) (j' : Nat) (h : i ≠ k) : rget (rset l k j' v) i j = rget l i j := by
  unfold rget rset
  have e : (l.set k (wr (l.getD k []) j' v)).getD i [] = l.getD i [] := by
    simp only [List.getD_eq_getElem?_getD, List.getElem?_set_ne (Ne.symm h)]
  rw [e]
theorem rget_set_eq {l : List (List Int)} {k : Nat} (v : List Int) (j j' : Nat) (h : k < l.length) : rget (rset l k j' v) k j = (wr (l.getD k []) j' v).getD j 0 := by
  unfold rget rset
  rw [List.getD_eq_getElem?_getD (l := List.set _ _ _), List.getElem?_set_self h]; rfl

/-- The chapter's example. -/
theorem aw_l : fAwake_s0 = [[0, 0, 0, 0, 0, 0], [0, 0, 0, 0, 0, 0]] := by
  unfold fAwake_s0
  rw [new_eq, show cl 2 * cl 1 = 2 by decide]; rfl
theorem aw_w : fNew_s2 2 = ((2 : Nat) : Int) := by decide
theorem aw_h : fNew_s5 1 = ((1 : Nat) : Int) := by decide
theorem aw_c : fChk_0 (fNew_s2 2) (fNew_s5 1) fAwake_s0 = 0 := by
  rw [aw_w, aw_h]
  refine c_good (by rw [aw_l]; decide) (chk_sz (by omega) (by omega) (by omega) (by omega) (by rw [aw_l]; rfl)) fun i hi => ?_
  rw [aw_l] at hi ⊢
  have hi' : i < 2 := hi
  match i, hi' with
  | 0, _ => exact ⟨by decide, by decide⟩
  | 1, _ => exact ⟨by decide, by decide⟩
theorem aw_text : fText_0 (fNew_s2 2) (fNew_s5 1) fAwake_s0 = ⟨⟨[32, 32, 10]⟩⟩ := by
  have hc := aw_c
  rw [aw_w, aw_h] at hc ⊢
  rw [text_eq (by omega) (by omega) hc, aw_l]
  decide +kernel
theorem awake : fAwake_0 = true := by
  unfold fAwake_0 fAwake_s1
  rw [aw_text, aw_c]
  simp
theorem aw_obs : Alls fAwake_o := by
  have h := rep_obs (p0 := 0) (p1 := 0) (p2 := 0) (p3 := 0) (p4 := 0) (p5 := 0) (N := 2) (by omega) (by omega) false
  have e6 : fNew_s6 2 1 = ((2 : Nat) : Int) := by decide +kernel
  have e2 : List.length (sRep_s2 ((2 : Nat) : Int)) = 2 := by decide +kernel
  have e3 : sRep_s3 ((2 : Nat) : Int) 0 0 0 0 0 0 = 1 := by decide +kernel
  unfold sRep_o at h
  rw [e2, e3] at h
  obtain ⟨o1, o2, o3, o4, _⟩ := h
  have hL : fAwake_s0.length = 2 := by rw [aw_l]; rfl
  have k := c_lok (l := fAwake_s0) (by omega)
  rw [hL] at k
  unfold fAwake_o fAwake_s2 fAwake_s3 fAwake_s4
  rw [e6, e3]
  refine ⟨o1, o2, o3, o4, fun _ => k, fun _ => ?_, fun _ _ => k, trivial⟩
  rw [aw_w, aw_h]
  refine text_lok (by omega) (by omega) (by rw [hL]) fun a j hj => ?_
  rw [aw_l]
  match a with
  | 0 => match j, hj with
    | 0, _ => decide
    | 1, _ => decide
    | 2, _ => decide
  | 1 => match j, hj with
    | 0, _ => decide
    | 1, _ => decide
    | 2, _ => decide
  | a + 2 => exact (show (0 : Int) ≤ 0 ∧ (0 : Int) ≤ 255 by decide)

section
variable {x0 x1 x2_0 x2_1 x2_2 x2_3 x2_4 x2_5 x3 x4 : Int}

local notation "Pxl" => [x2_0, x2_1, x2_2, x2_3, IntKind.wrap IntKind.i64 x2_4, x2_5]
local notation "LL" => List.replicate (cl x0 * cl x1) [x2_0, x2_1, x2_2, x2_3, IntKind.wrap IntKind.i64 x2_4, x2_5]

theorem f_s1 : lFrNew_s1 x0 = (cl x0 : Int) := n_s2 x0
theorem f_s3 : lFrNew_s3 x1 = (cl x1 : Int) := n_s5 x1
theorem f_s4 : lFrNew_s4 x0 x1 x2_0 x2_1 x2_2 x2_3 x2_4 x2_5 = cl x0 * cl x1 := by
  unfold lFrNew_s4
  rw [new_eq, List.length_replicate]
theorem f_s8 : lFrNew_s8 x0 x1 x2_0 x2_1 x2_2 x2_3 x2_4 x2_5 = LL := by
  unfold lFrNew_s8 sClone_s0
  rw [new_eq, List.nil_append]
theorem f_s9 : lFrNew_s9 x0 x1 x2_0 x2_1 x2_2 x2_3 x2_4 x2_5 = cl x0 * cl x1 := by
  unfold lFrNew_s9
  rw [f_s8, List.length_replicate]
theorem f_s5 : lFrNew_s5 x0 x1 x2_0 x2_1 x2_2 x2_3 x2_4 x2_5 = false := by
  have := cl_N x0 x1
  unfold lFrNew_s5
  rw [f_s4, f_s1, f_s3, ← Int.natCast_mul, w64_in (by omega) (by omega)]
  simp
theorem f_sz : fChk_s0 (cl x0 : Int) (cl x1 : Int) LL = false := chk_sz (cl_1 _) (cl_64 _) (cl_1 _) (cl_64 _) (by rw [List.length_replicate])

def nS (x0 x1 x2_0 x2_1 x2_2 x2_3 x2_4 x2_5 x3 x4 : Int) (i : Nat) : lFrNew_l253_T := .mk x3 x4 false ((cl x0 * cl x1 : Nat) : Int) (i : Int) x2_0 x2_1 x2_2 x2_3 x2_4 x2_5 (cl x0) (cl x1) (List.replicate (cl x0 * cl x1) [x2_0, x2_1, x2_2, x2_3, IntKind.wrap IntKind.i64 x2_4, x2_5])
theorem nS_0 (i : Nat) : lFrNew_l253_s0 (nS x0 x1 x2_0 x2_1 x2_2 x2_3 x2_4 x2_5 x3 x4 i) = decide (i < cl x0 * cl x1) := by
  unfold lFrNew_l253_s0
  exact decide_eq_decide.2 Int.ofNat_lt
theorem nS_step (i : Nat) (hi : i < cl x0 * cl x1) : pick1 (lFrNew_l253_st (nS x0 x1 x2_0 x2_1 x2_2 x2_3 x2_4 x2_5 x3 x4 i)).2 = some (.n, nS x0 x1 x2_0 x2_1 x2_2 x2_3 x2_4 x2_5 x3 x4 (i + 1)) := by
  have := cl_N x0 x1
  have e : IntKind.wrap .i64 ((nS x0 x1 x2_0 x2_1 x2_2 x2_3 x2_4 x2_5 x3 x4 i).a4 + 1) = ((i + 1 : Nat) : Int) := by
    show IntKind.wrap .i64 ((i : Int) + 1) = _
    rw [w64_in (by omega) (by omega)]; omega
  have g : ∀ j, rget (nS x0 x1 x2_0 x2_1 x2_2 x2_3 x2_4 x2_5 x3 x4 i).a13 (nS x0 x1 x2_0 x2_1 x2_2 x2_3 x2_4 x2_5 x3 x4 i).a4.toNat j = (Pxl).getD j 0 := fun j => rget_rep hi _ j
  have e1 : lFrNew_l253_s1 (nS x0 x1 x2_0 x2_1 x2_2 x2_3 x2_4 x2_5 x3 x4 i) = false := by
    unfold lFrNew_l253_s1
    rw [g, g, g, g, g, g]
    simp [nS]
  unfold lFrNew_l253_st
  rw [nS_0, decide_eq_true hi, e1, e]; rfl
theorem nS_end : pick1 (lFrNew_l253_st (nS x0 x1 x2_0 x2_1 x2_2 x2_3 x2_4 x2_5 x3 x4 (cl x0 * cl x1))).2 = some (.e 0, nS x0 x1 x2_0 x2_1 x2_2 x2_3 x2_4 x2_5 x3 x4 (cl x0 * cl x1)) := by
  unfold lFrNew_l253_st
  rw [nS_0, decide_eq_false (Nat.lt_irrefl _)]; rfl
theorem nS_obs (i : Nat) : Alls (lFrNew_l253_st (nS x0 x1 x2_0 x2_1 x2_2 x2_3 x2_4 x2_5 x3 x4 i)).1 := by
  unfold lFrNew_l253_st
  rw [nS_0]
  refine ⟨fun h => ⟨Int.natCast_nonneg i, ?_⟩, trivial⟩
  show (i : Int) < Int.ofNat (List.length LL)
  rw [List.length_replicate]
  exact Int.ofNat_lt.2 (of_decide_eq_true h)
theorem f_start : lFrNew_l253_T.mk x3 x4 false (Int.ofNat (lFrNew_s4 x0 x1 x2_0 x2_1 x2_2 x2_3 x2_4 x2_5)) 0 x2_0 x2_1 x2_2 x2_3 x2_4 x2_5 (fNew_s2 x0) (fNew_s5 x1) (fNew_0 x0 x1 x2_0 x2_1 x2_2 x2_3 (IntKind.wrap IntKind.i64 x2_4) x2_5) = nS x0 x1 x2_0 x2_1 x2_2 x2_3 x2_4 x2_5 x3 x4 0 := by
  rw [f_s4, new_eq, n_s2, n_s5]; rfl
theorem f_s7 : lFrNew_s7 x0 x1 x2_0 x2_1 x2_2 x2_3 x2_4 x2_5 x3 x4 = some (.e 0, nS x0 x1 x2_0 x2_1 x2_2 x2_3 x2_4 x2_5 x3 x4 (cl x0 * cl x1)) := by
  have := cl_N x0 x1
  unfold lFrNew_s7
  rw [f_start]
  exact lx_run (s := nS x0 x1 x2_0 x2_1 x2_2 x2_3 x2_4 x2_5 x3 x4) nS_step nS_end nofun (by omega)
theorem f_lok : lok lFrNew_l253_st 18446744073709551616 (nS x0 x1 x2_0 x2_1 x2_2 x2_3 x2_4 x2_5 x3 x4 0) := by
  have := cl_N x0 x1
  exact lx_lok (s := nS x0 x1 x2_0 x2_1 x2_2 x2_3 x2_4 x2_5 x3 x4) nS_step nS_end nofun (fun i _ => nS_obs i) (by omega)
theorem f_s11 : lFrNew_s11 x0 x1 x2_0 x2_1 x2_2 x2_3 x2_4 x2_5 x3 x4 = x3 := by
  unfold lFrNew_s11
  rw [f_s7]; rfl

variable (d0 : 0 ≤ x2_4) (d1 : x2_4 ≤ 65535) (e0 : 0 ≤ x4) (e1 : x4 ≤ 255)
include e0 e1 in
theorem f_s10 : ∃ k : Nat, k < cl x0 * cl x1 ∧ lFrNew_s10 x0 x1 x2_0 x2_1 x2_2 x2_3 x2_4 x2_5 x3 x4 = (k : Int) := by
  have h := cl_N x0 x1
  have a1 : (V.valOf (lFrNew_s7 x0 x1 x2_0 x2_1 x2_2 x2_3 x2_4 x2_5 x3 x4)).a1 = x4 := by rw [f_s7]; rfl
  unfold lFrNew_s10
  rw [a1, f_s9, w64_in (by omega) (by omega), Int.tmod_eq_emod_of_nonneg e0]
  refine ⟨(x4 % ((cl x0 * cl x1 : Nat) : Int)).toNat, ?_, ?_⟩
  · have := Int.emod_lt_of_pos x4 (b := ((cl x0 * cl x1 : Nat) : Int)) (by omega)
    have := Int.emod_nonneg x4 (b := ((cl x0 * cl x1 : Nat) : Int)) (by omega)
    omega
  · have := Int.emod_nonneg x4 (b := ((cl x0 * cl x1 : Nat) : Int)) (by omega)
    exact (Int.toNat_of_nonneg this).symm
include d0 d1 in
theorem f_dep (i : Nat) (hi : i < cl x0 * cl x1) : dOK LL i := by
  unfold dOK
  rw [rget_rep hi]
  show 0 ≤ IntKind.wrap IntKind.i64 x2_4 ∧ IntKind.wrap IntKind.i64 x2_4 ≤ 65535
  rw [w64_in (by omega) (by omega)]
  exact ⟨d0, d1⟩
include d0 d1 in
theorem f_good : fChk_0 (cl x0 : Int) (cl x1 : Int) LL = 0 :=
  c_good (by rw [List.length_replicate]; exact (cl_N x0 x1).2) f_sz fun i hi => f_dep d0 d1 i (by rw [List.length_replicate] at hi; exact hi)
include d0 d1 in
theorem f_s6 : lFrNew_s6 x0 x1 x2_0 x2_1 x2_2 x2_3 x2_4 x2_5 = false := by
  unfold lFrNew_s6
  rw [n_s2, n_s5, f_s1, f_s3, f_s5, new_eq, f_good d0 d1]
  simp
theorem f_len12 : (lFrNew_s12 x0 x1 x2_0 x2_1 x2_2 x2_3 x2_4 x2_5 x3 x4).length = cl x0 * cl x1 := by
  unfold lFrNew_s12
  rw [rset_len, f_s8, List.length_replicate]
include d0 d1 e0 e1 in
theorem f_chk : fChk_0 (cl x0 : Int) (cl x1 : Int) (lFrNew_s12 x0 x1 x2_0 x2_1 x2_2 x2_3 x2_4 x2_5 x3 x4) = if 0 ≤ x3 ∧ x3 ≤ 65535 then 0 else 2 := by
  have h := cl_N x0 x1
  have hz : fChk_s0 (cl x0 : Int) (cl x1 : Int) (lFrNew_s12 x0 x1 x2_0 x2_1 x2_2 x2_3 x2_4 x2_5 x3 x4) = false := chk_sz (cl_1 _) (cl_64 _) (cl_1 _) (cl_64 _) f_len12
  obtain ⟨k, hk, e⟩ := f_s10 (x0 := x0) (x1 := x1) (x2_0 := x2_0) (x2_1 := x2_1) (x2_2 := x2_2) (x2_3 := x2_3) (x2_4 := x2_4) (x2_5 := x2_5) (x3 := x3) e0 e1
  have e12 : lFrNew_s12 x0 x1 x2_0 x2_1 x2_2 x2_3 x2_4 x2_5 x3 x4 = rset LL k 4 [x3] := by
    unfold lFrNew_s12
    rw [e, f_s8, f_s11]; rfl
  have hL : (rset LL k 4 [x3]).length = cl x0 * cl x1 := by rw [rset_len, List.length_replicate]
  rw [e12] at hz ⊢
  have hne : ∀ i, i < cl x0 * cl x1 → i ≠ k → dOK (rset LL k 4 [x3]) i := fun i hi hik => by
    unfold dOK
    rw [rget_set_ne _ _ hik]
    exact f_dep d0 d1 i hi
  have hke : rget (rset LL k 4 [x3]) k 4 = x3 := by
    rw [rget_set_eq _ _ _ (by rw [List.length_replicate]; exact hk), List.getD_eq_getElem?_getD (l := LL), List.getElem?_replicate, if_pos hk]
    rfl
  by_cases hx : 0 ≤ x3 ∧ x3 ≤ 65535
  · rw [if_pos hx]
    refine c_good (by omega) hz fun i hi => ?_
    by_cases hik : i = k
    · subst hik; unfold dOK; rw [hke]; exact hx
    · exact hne i (by omega) hik
  · rw [if_neg hx]
    refine c_two (by omega) hz (m := k) (by omega) (fun i hi => hne i (by omega) (by omega)) ?_
    unfold dOK; rw [hke]; exact hx
theorem f_s14 : lFrNew_s14 x0 x1 x2_0 x2_1 x2_2 x2_3 x2_4 x2_5 x3 x4 = if 0 ≤ x3 ∧ x3 ≤ 65535 then 0 else 2 := by
  unfold lFrNew_s14
  rw [f_s11]
  by_cases h0 : x3 < 0
  · rw [decide_eq_true h0, if_neg (by omega)]; rfl
  · by_cases h1 : 65535 < x3
    · rw [decide_eq_false h0, decide_eq_true h1, if_neg (by omega)]; rfl
    · rw [decide_eq_false h0, decide_eq_false h1, if_pos (by omega)]; rfl
theorem f_short : fChkS_s0 (cl x0 : Int) (cl x1 : Int) (lFrNew_s16 x0 x1 x2_0 x2_1 x2_2 x2_3 x2_4 x2_5) = true := by
  have h := cl_N x0 x1
  have a := cl_1 x0
  have b := cl_64 x0
  have c := cl_1 x1
  have d := cl_64 x1
  unfold fChkS_s0 lFrNew_s16
  rw [f_s9, decide_eq_false (show ¬ (cl x0 : Int) < 1 by omega), decide_eq_false (show ¬ 64 < (cl x0 : Int) by omega), decide_eq_false (show ¬ (cl x1 : Int) < 1 by omega), decide_eq_false (show ¬ 64 < (cl x1 : Int) by omega), ← Int.natCast_mul, w64_in (by omega) (by omega)]
  have : Int.ofNat (Int.toNat (Int.ofNat (cl x0 * cl x1)) - Int.toNat 1) ≠ ((cl x0 * cl x1 : Nat) : Int) := by
    have z1 : Int.toNat (Int.ofNat (cl x0 * cl x1)) = cl x0 * cl x1 := rfl
    have z2 : Int.toNat 1 = 1 := rfl
    have z3 : Int.ofNat (cl x0 * cl x1 - 1) = ((cl x0 * cl x1 - 1 : Nat) : Int) := rfl
    rw [z1, z2, z3]; omega
  simpa using this
theorem f_wide (l : List (List Int)) : fChk_s0 65 (cl x1 : Int) l = true := rfl
theorem f_s17 : lFrNew_s17 x0 x1 x2_0 x2_1 x2_2 x2_3 x2_4 x2_5 = true := by
  unfold lFrNew_s17 fChkS_0
  rw [n_s2, n_s5, f_short]; rfl
theorem f_s18 : lFrNew_s18 x0 x1 x2_0 x2_1 x2_2 x2_3 x2_4 x2_5 = true := by
  unfold lFrNew_s18
  rw [n_s5, c_six (f_wide _)]; rfl
theorem f_s19 : lFrNew_s19 x0 x1 x2_0 x2_1 x2_2 x2_3 x2_4 x2_5 = true := by
  unfold lFrNew_s19
  rw [n_s5, text_no (by rw [c_six (f_wide _)]; decide)]; simp
end

theorem FrameNew_true (x0 : Int) (a0 : IntKind.min .i64 ≤ x0) (b0 : x0 ≤ IntKind.max .i64) (x1 : Int) (a1 : IntKind.min .i64 ≤ x1) (b1 : x1 ≤ IntKind.max .i64) (x2_0 : Int) (a2_0 : IntKind.min .u8 ≤ x2_0) (b2_0 : x2_0 ≤ IntKind.max .u8) (x2_1 : Int) (a2_1 : IntKind.min .u8 ≤ x2_1) (b2_1 : x2_1 ≤ IntKind.max .u8) (x2_2 : Int) (a2_2 : IntKind.min .u8 ≤ x2_2) (b2_2 : x2_2 ≤ IntKind.max .u8) (x2_3 : Int) (a2_3 : IntKind.min .u8 ≤ x2_3) (b2_3 : x2_3 ≤ IntKind.max .u8) (x2_4 : Int) (a2_4 : IntKind.min .u16 ≤ x2_4) (b2_4 : x2_4 ≤ IntKind.max .u16) (x2_5 : Int) (a2_5 : IntKind.min .u8 ≤ x2_5) (b2_5 : x2_5 ≤ IntKind.max .u8) (x3 : Int) (a3 : IntKind.min .i64 ≤ x3) (b3 : x3 ≤ IntKind.max .i64) (x4 : Int) (a4 : IntKind.min .u8 ≤ x4) (b4 : x4 ≤ IntKind.max .u8) : lFrNew_0 x0 x1 x2_0 x2_1 x2_2 x2_3 x2_4 x2_5 x3 x4 = true := by
  obtain ⟨l0, g0⟩ := bd_i64 a0 b0
  have w0 : IntKind.wrap .i64 x0 = x0 := w64_in (by omega) (by omega)
  obtain ⟨l1, g1⟩ := bd_i64 a1 b1
  have w1 : IntKind.wrap .i64 x1 = x1 := w64_in (by omega) (by omega)
  obtain ⟨l2_0, g2_0⟩ := bd_u8 a2_0 b2_0
  have w2_0 : IntKind.wrap .i64 x2_0 = x2_0 := w64_in (by omega) (by omega)
  obtain ⟨l2_1, g2_1⟩ := bd_u8 a2_1 b2_1
  have w2_1 : IntKind.wrap .i64 x2_1 = x2_1 := w64_in (by omega) (by omega)
  obtain ⟨l2_2, g2_2⟩ := bd_u8 a2_2 b2_2
  have w2_2 : IntKind.wrap .i64 x2_2 = x2_2 := w64_in (by omega) (by omega)
  obtain ⟨l2_3, g2_3⟩ := bd_u8 a2_3 b2_3
  have w2_3 : IntKind.wrap .i64 x2_3 = x2_3 := w64_in (by omega) (by omega)
  obtain ⟨l2_4, g2_4⟩ := bd_u16 a2_4 b2_4
  have w2_4 : IntKind.wrap .i64 x2_4 = x2_4 := w64_in (by omega) (by omega)
  obtain ⟨l2_5, g2_5⟩ := bd_u8 a2_5 b2_5
  have w2_5 : IntKind.wrap .i64 x2_5 = x2_5 := w64_in (by omega) (by omega)
  obtain ⟨l3, g3⟩ := bd_i64 a3 b3
  have w3 : IntKind.wrap .i64 x3 = x3 := w64_in (by omega) (by omega)
  obtain ⟨l4, g4⟩ := bd_u8 a4 b4
  have w4 : IntKind.wrap .i64 x4 = x4 := w64_in (by omega) (by omega)
  unfold lFrNew_0
  rw [awake, f_s6 l2_4 g2_4, f_s7]
  have h := f_chk (x0 := x0) (x1 := x1) (x2_0 := x2_0) (x2_1 := x2_1) (x2_2 := x2_2) (x2_3 := x2_3) (x2_5 := x2_5) (x3 := x3) l2_4 g2_4 l4 g4
  have h15 : lFrNew_s15 x0 x1 x2_0 x2_1 x2_2 x2_3 x2_4 x2_5 x3 x4 = true := by
    unfold lFrNew_s15
    rw [n_s2, n_s5, h, f_s14]; simp
  rw [h15, f_s17, f_s18, f_s19]
  unfold lFrNew_s20
  rw [f_s14, n_s2, n_s5]
  by_cases hx : 0 ≤ x3 ∧ x3 ≤ 65535
  · rw [if_pos hx]; rfl
  · rw [if_neg hx] at h ⊢
    rw [text_no (by rw [h]; decide)]
    simp [isX, xeq]

theorem FrameNew_obs (x0 : Int) (a0 : IntKind.min .i64 ≤ x0) (b0 : x0 ≤ IntKind.max .i64) (x1 : Int) (a1 : IntKind.min .i64 ≤ x1) (b1 : x1 ≤ IntKind.max .i64) (x2_0 : Int) (a2_0 : IntKind.min .u8 ≤ x2_0) (b2_0 : x2_0 ≤ IntKind.max .u8) (x2_1 : Int) (a2_1 : IntKind.min .u8 ≤ x2_1) (b2_1 : x2_1 ≤ IntKind.max .u8) (x2_2 : Int) (a2_2 : IntKind.min .u8 ≤ x2_2) (b2_2 : x2_2 ≤ IntKind.max .u8) (x2_3 : Int) (a2_3 : IntKind.min .u8 ≤ x2_3) (b2_3 : x2_3 ≤ IntKind.max .u8) (x2_4 : Int) (a2_4 : IntKind.min .u16 ≤ x2_4) (b2_4 : x2_4 ≤ IntKind.max .u16) (x2_5 : Int) (a2_5 : IntKind.min .u8 ≤ x2_5) (b2_5 : x2_5 ≤ IntKind.max .u8) (x3 : Int) (a3 : IntKind.min .i64 ≤ x3) (b3 : x3 ≤ IntKind.max .i64) (x4 : Int) (a4 : IntKind.min .u8 ≤ x4) (b4 : x4 ≤ IntKind.max .u8) : Alls (lFrNew_o x0 x1 x2_0 x2_1 x2_2 x2_3 x2_4 x2_5 x3 x4) := by
  obtain ⟨l0, g0⟩ := bd_i64 a0 b0
  have w0 : IntKind.wrap .i64 x0 = x0 := w64_in (by omega) (by omega)
  obtain ⟨l1, g1⟩ := bd_i64 a1 b1
  have w1 : IntKind.wrap .i64 x1 = x1 := w64_in (by omega) (by omega)
  obtain ⟨l2_0, g2_0⟩ := bd_u8 a2_0 b2_0
  have w2_0 : IntKind.wrap .i64 x2_0 = x2_0 := w64_in (by omega) (by omega)
  obtain ⟨l2_1, g2_1⟩ := bd_u8 a2_1 b2_1
  have w2_1 : IntKind.wrap .i64 x2_1 = x2_1 := w64_in (by omega) (by omega)
  obtain ⟨l2_2, g2_2⟩ := bd_u8 a2_2 b2_2
  have w2_2 : IntKind.wrap .i64 x2_2 = x2_2 := w64_in (by omega) (by omega)
  obtain ⟨l2_3, g2_3⟩ := bd_u8 a2_3 b2_3
  have w2_3 : IntKind.wrap .i64 x2_3 = x2_3 := w64_in (by omega) (by omega)
  obtain ⟨l2_4, g2_4⟩ := bd_u16 a2_4 b2_4
  have w2_4 : IntKind.wrap .i64 x2_4 = x2_4 := w64_in (by omega) (by omega)
  obtain ⟨l2_5, g2_5⟩ := bd_u8 a2_5 b2_5
  have w2_5 : IntKind.wrap .i64 x2_5 = x2_5 := w64_in (by omega) (by omega)
  obtain ⟨l3, g3⟩ := bd_i64 a3 b3
  have w3 : IntKind.wrap .i64 x3 = x3 := w64_in (by omega) (by omega)
  obtain ⟨l4, g4⟩ := bd_u8 a4 b4
  have w4 : IntKind.wrap .i64 x4 = x4 := w64_in (by omega) (by omega)
  have hN := cl_N x0 x1
  obtain ⟨q1, q2, q3, q4, _⟩ := rep_obs (p0 := x2_0) (p1 := x2_1) (p2 := x2_2) (p3 := x2_3) (p4 := IntKind.wrap .i64 x2_4) (p5 := x2_5) hN.1 hN.2 false
  rw [← n_s6] at q1 q2 q3 q4
  obtain ⟨a1, a2, a3, a4', a5, a6, a7, _⟩ := aw_obs
  have f9 := f_s9 (x0 := x0) (x1 := x1) (x2_0 := x2_0) (x2_1 := x2_1) (x2_2 := x2_2) (x2_3 := x2_3) (x2_4 := x2_4) (x2_5 := x2_5)
  have f4 := f_s4 (x0 := x0) (x1 := x1) (x2_0 := x2_0) (x2_1 := x2_1) (x2_2 := x2_2) (x2_3 := x2_3) (x2_4 := x2_4) (x2_5 := x2_5)
  have z0 : (Int.ofNat (cl x0 * cl x1)) = ((cl x0 * cl x1 : Nat) : Int) := rfl
  have k12 := c_lok (l := lFrNew_s12 x0 x1 x2_0 x2_1 x2_2 x2_3 x2_4 x2_5 x3 x4) (by rw [f_len12]; exact hN.2)
  have nw : ∀ {p : Prop}, (!fChk_s0 65 (fNew_s5 x1) (lFrNew_s8 x0 x1 x2_0 x2_1 x2_2 x2_3 x2_4 x2_5)) = true → p := fun h => by
    rw [n_s5, f_wide] at h; cases h
  refine ⟨a1, a2, a3, a4', a5, a6, a7, fun _ => q1, fun _ => q2, fun _ => q3, fun _ => q4, fun _ _ _ _ _ => ?_, fun _ _ => ?_, fun _ _ _ => ?_, fun _ _ _ => ?_, fun _ _ _ => ?_, fun _ _ _ => ?_, fun _ _ _ => ?_, fun _ _ _ => ?_, fun _ _ _ => ?_, fun _ _ _ => ?_, fun _ _ _ => ?_, fun _ _ _ _ => k12, fun _ _ _ _ h => ?_, fun _ _ _ _ _ h => nw h, fun _ _ _ _ _ _ h => nw h, fun _ _ _ _ _ _ h => ?_, fun _ _ _ _ _ _ _ _ _ => k12, fun _ _ _ _ _ _ _ hs h => ?_, trivial⟩
  · exact c_lok (by rw [new_eq, List.length_replicate]; exact hN.2)
  · rw [f_start]; exact f_lok
  · rw [f4]; omega
  · rw [f9]; omega
  · rw [f9, z0]; omega
  · obtain ⟨k, hk, e⟩ := f_s10 (x0 := x0) (x1 := x1) (x2_0 := x2_0) (x2_1 := x2_1) (x2_2 := x2_2) (x2_3 := x2_3) (x2_4 := x2_4) (x2_5 := x2_5) (x3 := x3) l4 g4
    rw [e, f9, z0]; omega
  · rw [f4]; omega
  · rw [f9]; omega
  · rw [f9, z0]; omega
  · rw [f4]; omega
  · rw [f9]; omega
  · rw [n_s2, n_s5, f_short] at h; cases h
  · unfold fText_s0 at h
    rw [n_s5, c_six (f_wide _)] at h; cases h
  · unfold lFrNew_s20 at hs
    rw [f_s14] at hs
    unfold fText_s0 at h
    rw [n_s2, n_s5, f_chk l2_4 g2_4 l4 g4] at h
    by_cases hx : 0 ≤ x3 ∧ x3 ≤ 65535
    · rw [if_pos hx] at hs; cases hs
    · rw [if_neg hx] at h; cases h

end Go.Proofs.Ytcdejlgophpdjaa
end

section
namespace Go.Proofs.Ytcdejlgophpdjaa
open Go Go.RowKit Go.Proofs.Ytcdejlgophpdjaa.V
set_option linter.unusedVariables false
set_option linter.unusedSectionVars false

theorem inv_run {α : Type} {st : α → List Prop × List (X × Bool × α)} {I : Nat → α → Prop} {n : Nat} {x : X} (hx : x ≠ .n) (hs : ∀ i v, i < n → I i v → ∃ v', pick1 (st v).2 = some (.n, v') ∧ I (i + 1) v') (he : ∀ v, I n v → pick1 (st v).2 = some (x, v)) (ho : ∀ i v, i ≤ n → I i v → Alls (st v).1) :
    ∀ (d i : Nat) (v : α), i + d = n → I i v → ∀ f, d < f → (∃ v', lrun st f v = some (x, v') ∧ I n v') ∧ lok st f v
  | d, i, v, hi, h, 0, hf => by omega
  | 0, i, v, hi, h, f + 1, _ => by
    have : i = n := by omega
    subst this
    unfold lrun lok
    rw [he v h]
    refine ⟨⟨v, ?_, h⟩, ho i v (by omega) h, ?_⟩ <;> cases x <;> first | rfl | trivial | exact absurd rfl hx
  | d + 1, i, v, hi, h, f + 1, _ => by
    obtain ⟨v', h1, h2⟩ := hs i v (by omega) h
    obtain ⟨⟨u, a, b⟩, c⟩ := inv_run hx hs he ho d (i + 1) v' (by omega) h2 f (by omega)
    unfold lrun lok
    rw [h1]
    exact ⟨⟨u, a, b⟩, ho i v (by omega) h, c⟩

def inn (w h : Nat) (x y : Int) : Bool := decide (0 ≤ x ∧ x < (w : Int) ∧ 0 ≤ y ∧ y < (h : Int))
def ixp (w : Nat) (x y : Int) : Nat := (fAt_s0 (w : Int) x y).toNat

section
variable {w h : Nat} (w1 : w ≤ 64) (h1 : h ≤ 64)
include w1 h1
theorem in_ix {x y : Int} (hi : inn w h x y = true) : fAt_s0 (w : Int) x y = (ixp w x y : Int) ∧ ixp w x y < w * h := by
  obtain ⟨a, b, c, d⟩ := of_decide_eq_true hi
  have e := at_in (l := List.replicate (w * h) []) w1 h1 (by simp) (x := x.toNat) (y := y.toNat) (by omega) (by omega)
  rw [Int.toNat_of_nonneg a, Int.toNat_of_nonneg c, List.length_replicate] at e
  unfold ixp
  rw [e.1]
  exact ⟨rfl, e.2⟩
theorem at_s1 {l : List (List Int)} (hl : l.length = w * h) (x y : Int) : fAt_s1 (w : Int) (h : Int) x y l = !inn w h x y := by
  unfold fAt_s1
  by_cases hi : inn w h x y = true
  · obtain ⟨a, b⟩ := in_ix w1 h1 hi
    obtain ⟨c, d, e, f⟩ := of_decide_eq_true hi
    rw [hi, decide_eq_false (by omega), decide_eq_false (by omega), decide_eq_false (by omega), decide_eq_false (by omega), a, hl]
    have : ¬ Int.ofNat (w * h) ≤ (ixp w x y : Int) := by
      have z : Int.ofNat (w * h) = ((w * h : Nat) : Int) := rfl
      rw [z]; omega
    rw [decide_eq_false this]; rfl
  · have hn : ¬ (0 ≤ x ∧ x < (w : Int) ∧ 0 ≤ y ∧ y < (h : Int)) := fun k => hi (decide_eq_true k)
    rw [show inn w h x y = false by cases hh : inn w h x y; rfl; exact absurd hh hi]
    by_cases a : x < 0
    · rw [decide_eq_true a]; rfl
    · by_cases b : (w : Int) ≤ x
      · rw [decide_eq_false a, decide_eq_true b]; rfl
      · by_cases c : y < 0
        · rw [decide_eq_false a, decide_eq_false b, decide_eq_true c]; rfl
        · rw [decide_eq_false a, decide_eq_false b, decide_eq_false c, decide_eq_true (show (h : Int) ≤ y by omega)]; rfl
theorem set_s1 {l : List (List Int)} (hl : l.length = w * h) (x y : Int) : fSet_s1 (w : Int) (h : Int) x y l = inn w h x y := by
  unfold fSet_s1
  by_cases hi : inn w h x y = true
  · obtain ⟨a, b⟩ := in_ix w1 h1 hi
    obtain ⟨c, d, e, f⟩ := of_decide_eq_true hi
    have a' : fSet_s0 (w : Int) x y = (ixp w x y : Int) := a
    have : (ixp w x y : Int) < Int.ofNat (w * h) := Int.ofNat_lt.2 b
    rw [hi, decide_eq_true c, decide_eq_true d, decide_eq_true e, decide_eq_true f, a', hl, decide_eq_true this]; rfl
  · have hn : ¬ (0 ≤ x ∧ x < (w : Int) ∧ 0 ≤ y ∧ y < (h : Int)) := fun k => hi (decide_eq_true k)
    rw [show inn w h x y = false by cases hh : inn w h x y; rfl; exact absurd hh hi]
    by_cases a : 0 ≤ x
    · by_cases b : x < (w : Int)
      · by_cases c : 0 ≤ y
        · rw [decide_eq_true a, decide_eq_true b, decide_eq_true c, decide_eq_false (show ¬ y < (h : Int) by omega)]; rfl
        · rw [decide_eq_true a, decide_eq_true b, decide_eq_false c]; rfl
      · rw [decide_eq_true a, decide_eq_false b]; rfl
    · rw [decide_eq_false a]; rfl
theorem at_ob {l : List (List Int)} (hl : l.length = w * h) {x y : Int} (g : (!fAt_s1 (w : Int) (h : Int) x y l) = true) : 0 ≤ fAt_s0 (w : Int) x y ∧ fAt_s0 (w : Int) x y < Int.ofNat l.length := by
  rw [at_s1 w1 h1 hl, Bool.not_not] at g
  obtain ⟨a, b⟩ := in_ix w1 h1 g
  rw [a, hl]
  exact ⟨by omega, Int.ofNat_lt.2 b⟩
theorem set_ob {l : List (List Int)} (hl : l.length = w * h) {x y : Int} (g : fSet_s1 (w : Int) (h : Int) x y l = true) : 0 ≤ fSet_s0 (w : Int) x y ∧ fSet_s0 (w : Int) x y < Int.ofNat l.length := by
  rw [set_s1 w1 h1 hl] at g
  obtain ⟨a, b⟩ := in_ix w1 h1 g
  have a' : fSet_s0 (w : Int) x y = (ixp w x y : Int) := a
  rw [a', hl]
  exact ⟨by omega, Int.ofNat_lt.2 b⟩
theorem set_eq {l : List (List Int)} (hl : l.length = w * h) (x y p0 p1 p2 p3 p4 p5 : Int) : fSet_0 (w : Int) (h : Int) x y p0 p1 p2 p3 p4 p5 l = bif inn w h x y then l.set (ixp w x y) [p0, p1, p2, p3, p4, p5] else l := by
  unfold fSet_0
  rw [set_s1 w1 h1 hl]; rfl
theorem set_len {l : List (List Int)} (hl : l.length = w * h) (x y p0 p1 p2 p3 p4 p5 : Int) : (fSet_0 (w : Int) (h : Int) x y p0 p1 p2 p3 p4 p5 l).length = w * h := by
  rw [set_eq w1 h1 hl]
  cases inn w h x y
  · exact hl
  · show (List.set _ _ _).length = _
    rw [List.length_set]; exact hl

/-- A pixel's j-th number. -/
def px (w h : Nat) (l : List (List Int)) (x y : Int) (j : Nat) : Int := bif inn w h x y then rget l (ixp w x y) j else 0
section
variable {l : List (List Int)} (hl : l.length = w * h) (x y : Int)
include hl
theorem px_0 : fAt_0 (w : Int) (h : Int) x y l = px w h l x y 0 := by
  unfold fAt_0 px; rw [at_s1 w1 h1 hl]; cases inn w h x y <;> rfl
theorem px_1 : fAt_1 (w : Int) (h : Int) x y l = px w h l x y 1 := by
  unfold fAt_1 px; rw [at_s1 w1 h1 hl]; cases inn w h x y <;> rfl
theorem px_2 : fAt_2 (w : Int) (h : Int) x y l = px w h l x y 2 := by
  unfold fAt_2 px; rw [at_s1 w1 h1 hl]; cases inn w h x y <;> rfl
theorem px_3 : fAt_3 (w : Int) (h : Int) x y l = px w h l x y 3 := by
  unfold fAt_3 px; rw [at_s1 w1 h1 hl]; cases inn w h x y <;> rfl
theorem px_4 : fAt_4 (w : Int) (h : Int) x y l = px w h l x y 4 := by
  unfold fAt_4 px; rw [at_s1 w1 h1 hl]; cases inn w h x y <;> rfl
theorem px_5 : fAt_5 (w : Int) (h : Int) x y l = px w h l x y 5 := by
  unfold fAt_5 px; rw [at_s1 w1 h1 hl]; cases inn w h x y <;> rfl
end
end

/-- Two pixels. -/
def Eq6 (w h : Nat) (l m : List (List Int)) (x y : Int) : Bool := fAt_0 (w : Int) (h : Int) x y l == fAt_0 (w : Int) (h : Int) x y m && (fAt_1 (w : Int) (h : Int) x y l == fAt_1 (w : Int) (h : Int) x y m && (fAt_2 (w : Int) (h : Int) x y l == fAt_2 (w : Int) (h : Int) x y m && fAt_3 (w : Int) (h : Int) x y l == fAt_3 (w : Int) (h : Int) x y m)) && (fAt_4 (w : Int) (h : Int) x y l == fAt_4 (w : Int) (h : Int) x y m && fAt_5 (w : Int) (h : Int) x y l == fAt_5 (w : Int) (h : Int) x y m)

/-! In a box. -/
section
variable {w h : Nat} (w1 : w ≤ 64) (h1 : h ≤ 64) {l m : List (List Int)} (hl : l.length = w * h) (hm : m.length = w * h) {x0 y0 x1 y1 : Nat} (xx : x0 ≤ x1) (yy : y0 ≤ y1) (x64 : x1 ≤ 64) (y64 : y1 ≤ 64)

def iS (w h : Nat) (l m : List (List Int)) (x0 y0 x1 y1 y x : Nat) : fSameIn_l841_T := .mk false (y : Int) (x : Int) true (w : Int) (h : Int) l (w : Int) (h : Int) m (x0 : Int) (y0 : Int) (x1 : Int) (y1 : Int)
def oS (w h : Nat) (l m : List (List Int)) (x0 y0 x1 y1 y : Nat) : fSameIn_l13_T := .mk false (y : Int) (w : Int) (h : Int) l (w : Int) (h : Int) m (x0 : Int) (y0 : Int) (x1 : Int) (y1 : Int)

include x64 in
theorem i_s1 (y x : Nat) : fSameIn_l841_s1 (iS w h l m x0 y0 x1 y1 y x) = decide (x < x1) := by
  unfold fSameIn_l841_s1 fSameIn_l841_s0
  show decide ((x : Int) < if 64 < (x1 : Int) then 64 else (x1 : Int)) = _
  rw [if_neg (by omega)]
  exact decide_eq_decide.2 Int.ofNat_lt
theorem i_s2 (y x : Nat) : fSameIn_l841_s2 (iS w h l m x0 y0 x1 y1 y x) = !Eq6 w h l m x y := rfl
include x64 in
theorem i_step (y x : Nat) (hx : x < x1) (e : Eq6 w h l m x y = true) : pick1 (fSameIn_l841_st (iS w h l m x0 y0 x1 y1 y x)).2 = some (.n, iS w h l m x0 y0 x1 y1 y (x + 1)) := by
  unfold fSameIn_l841_st
  rw [i_s1 x64, i_s2, e, decide_eq_true hx]
  have : IntKind.wrap .i64 ((iS w h l m x0 y0 x1 y1 y x).a2 + 1) = ((x + 1 : Nat) : Int) := by
    show IntKind.wrap .i64 ((x : Int) + 1) = _
    rw [w64_in (by omega) (by omega)]; omega
  rw [this]; rfl
include x64 in
theorem i_bad (y x : Nat) (hx : x < x1) (e : Eq6 w h l m x y = false) : pick1 (fSameIn_l841_st (iS w h l m x0 y0 x1 y1 y x)).2 = some (.r, iS w h l m x0 y0 x1 y1 y x) := by
  unfold fSameIn_l841_st
  rw [i_s1 x64, i_s2, e, decide_eq_true hx]; rfl
include x64 in
theorem i_end (y : Nat) : pick1 (fSameIn_l841_st (iS w h l m x0 y0 x1 y1 y x1)).2 = some (.e 2, iS w h l m x0 y0 x1 y1 y x1) := by
  unfold fSameIn_l841_st
  rw [i_s1 x64, i_s2, decide_eq_false (Nat.lt_irrefl _)]; rfl
include w1 h1 hl hm in
theorem i_obs (y x : Nat) : Alls (fSameIn_l841_st (iS w h l m x0 y0 x1 y1 y x)).1 :=
  ⟨fun _ g => at_ob w1 h1 hl g, fun _ g => at_ob w1 h1 hm g, trivial⟩

/-- Are all of a row the same? -/
def rowOK (w h : Nat) (l m : List (List Int)) (x0 x1 y : Nat) : Prop := ∀ x : Nat, x0 ≤ x → x < x1 → Eq6 w h l m x y = true

include w1 h1 hl hm xx x64 in
theorem i_run (y : Nat) : ((rowOK w h l m x0 x1 y ∧ lrun fSameIn_l841_st 18446744073709551616 (iS w h l m x0 y0 x1 y1 y x0) = some (.e 2, iS w h l m x0 y0 x1 y1 y x1)) ∨ (¬ rowOK w h l m x0 x1 y ∧ ∃ x, lrun fSameIn_l841_st 18446744073709551616 (iS w h l m x0 y0 x1 y1 y x0) = some (.r, iS w h l m x0 y0 x1 y1 y x))) ∧ lok fSameIn_l841_st 18446744073709551616 (iS w h l m x0 y0 x1 y1 y x0) := by
  obtain ⟨k, a, b, c⟩ := first (fun i => Eq6 w h l m ((x0 + i : Nat) : Int) y = true) (x1 - x0)
  have hs : ∀ i, i < k → pick1 (fSameIn_l841_st (iS w h l m x0 y0 x1 y1 y (x0 + i))).2 = some (.n, iS w h l m x0 y0 x1 y1 y (x0 + (i + 1))) := fun i hi => i_step x64 y (x0 + i) (by omega) (b i hi)
  by_cases hk : k = x1 - x0
  · have he : pick1 (fSameIn_l841_st (iS w h l m x0 y0 x1 y1 y (x0 + k))).2 = some (.e 2, iS w h l m x0 y0 x1 y1 y x1) := by
      rw [show x0 + k = x1 by omega]; exact i_end x64 y
    refine ⟨.inl ⟨fun x h2 h3 => ?_, lx_run (s := fun i => iS w h l m x0 y0 x1 y1 y (x0 + i)) hs he nofun (by omega)⟩, lx_lok (s := fun i => iS w h l m x0 y0 x1 y1 y (x0 + i)) hs he nofun (fun i _ => i_obs w1 h1 hl hm y _) (by omega)⟩
    have := b (x - x0) (by omega)
    rwa [show x0 + (x - x0) = x by omega] at this
  · have hf : Eq6 w h l m ((x0 + k : Nat) : Int) y = false := by
      have := c.resolve_left hk
      cases hh : Eq6 w h l m ((x0 + k : Nat) : Int) y
      · rfl
      · exact absurd hh this
    have he := i_bad (w := w) (h := h) (l := l) (m := m) (x0 := x0) (y0 := y0) (y1 := y1) x64 y (x0 + k) (by omega) hf
    refine ⟨.inr ⟨fun hr => ?_, x0 + k, lx_run (s := fun i => iS w h l m x0 y0 x1 y1 y (x0 + i)) hs he nofun (by omega)⟩, lx_lok (s := fun i => iS w h l m x0 y0 x1 y1 y (x0 + i)) hs he nofun (fun i _ => i_obs w1 h1 hl hm y _) (by omega)⟩
    rw [hr (x0 + k) (by omega) (by omega)] at hf; cases hf

include y64 in
theorem o_s1 (y : Nat) : fSameIn_l13_s1 (oS w h l m x0 y0 x1 y1 y) = decide (y < y1) := by
  unfold fSameIn_l13_s1 fSameIn_l13_s0
  show decide ((y : Int) < if 64 < (y1 : Int) then 64 else (y1 : Int)) = _
  rw [if_neg (by omega)]
  exact decide_eq_decide.2 Int.ofNat_lt
theorem o_in : (if (x0 : Int) < 0 then (0 : Int) else (x0 : Int)) = (x0 : Int) := if_neg (by omega)
include y64 in
theorem o_s2 (y : Nat) (hy : y < y1) : fSameIn_l13_s2 (oS w h l m x0 y0 x1 y1 y) = lrun fSameIn_l841_st 18446744073709551616 (iS w h l m x0 y0 x1 y1 y x0) := by
  unfold fSameIn_l13_s2
  rw [o_s1 y64, decide_eq_true hy]
  show lrun _ _ (fSameIn_l841_T.mk false (y : Int) (if (x0 : Int) < 0 then (0 : Int) else (x0 : Int)) true w h l w h m x0 y0 x1 y1) = _
  rw [o_in]; rfl
include y64 in
theorem o_step (y : Nat) (hy : y < y1) (e : lrun fSameIn_l841_st 18446744073709551616 (iS w h l m x0 y0 x1 y1 y x0) = some (.e 2, iS w h l m x0 y0 x1 y1 y x1)) : pick1 (fSameIn_l13_st (oS w h l m x0 y0 x1 y1 y)).2 = some (.n, oS w h l m x0 y0 x1 y1 (y + 1)) := by
  unfold fSameIn_l13_st
  rw [o_s2 y64 y hy, e, o_s1 y64, decide_eq_true hy]
  have : IntKind.wrap .i64 ((V.valOf (some (X.e 2, iS w h l m x0 y0 x1 y1 y x1))).a1 + 1) = ((y + 1 : Nat) : Int) := by
    show IntKind.wrap .i64 ((y : Int) + 1) = _
    rw [w64_in (by omega) (by omega)]; omega
  rw [this]; rfl
include y64 in
theorem o_bad (y : Nat) (hy : y < y1) {x : Nat} (e : lrun fSameIn_l841_st 18446744073709551616 (iS w h l m x0 y0 x1 y1 y x0) = some (.r, iS w h l m x0 y0 x1 y1 y x)) : pick1 (fSameIn_l13_st (oS w h l m x0 y0 x1 y1 y)).2 = some (.r, oS w h l m x0 y0 x1 y1 y) := by
  unfold fSameIn_l13_st
  rw [o_s2 y64 y hy, e, o_s1 y64, decide_eq_true hy]; rfl
include y64 in
theorem o_end : pick1 (fSameIn_l13_st (oS w h l m x0 y0 x1 y1 y1)).2 = some (.e 0, oS w h l m x0 y0 x1 y1 y1) := by
  unfold fSameIn_l13_st
  rw [o_s1 y64, decide_eq_false (Nat.lt_irrefl _)]; rfl
include w1 h1 hl hm xx x64 y64 in
theorem o_obs (y : Nat) : Alls (fSameIn_l13_st (oS w h l m x0 y0 x1 y1 y)).1 := by
  refine ⟨fun g => ?_, trivial⟩
  rw [g]
  show lok _ _ (fSameIn_l841_T.mk false (y : Int) (if (x0 : Int) < 0 then (0 : Int) else (x0 : Int)) true w h l w h m x0 y0 x1 y1)
  rw [o_in]
  exact (i_run w1 h1 hl hm xx x64 y).2

include w1 h1 hl hm xx yy x64 y64 in
theorem sameIn : (fSameIn_0 (w : Int) (h : Int) (w : Int) (h : Int) (x0 : Int) (y0 : Int) (x1 : Int) (y1 : Int) l m = true ↔ ∀ y : Nat, y0 ≤ y → y < y1 → rowOK w h l m x0 x1 y) ∧ lok fSameIn_l13_st 18446744073709551616 (fSameIn_l13_T.mk false (if (y0 : Int) < 0 then 0 else (y0 : Int)) (w : Int) (h : Int) l (w : Int) (h : Int) m (x0 : Int) (y0 : Int) (x1 : Int) (y1 : Int)) := by
  obtain ⟨k, a, b, c⟩ := first (fun i => rowOK w h l m x0 x1 (y0 + i)) (y1 - y0)
  have st0 : fSameIn_l13_T.mk false (if (y0 : Int) < 0 then 0 else (y0 : Int)) (w : Int) (h : Int) l (w : Int) (h : Int) m (x0 : Int) (y0 : Int) (x1 : Int) (y1 : Int) = oS w h l m x0 y0 x1 y1 (y0 + 0) := by
    rw [if_neg (by omega)]; rfl
  have hs : ∀ i, i < k → pick1 (fSameIn_l13_st (oS w h l m x0 y0 x1 y1 (y0 + i))).2 = some (.n, oS w h l m x0 y0 x1 y1 (y0 + (i + 1))) := fun i hi => by
    rcases (i_run (y0 := y0) (y1 := y1) w1 h1 hl hm xx x64 (y0 + i)).1 with ⟨_, e⟩ | ⟨e, _⟩
    · exact o_step y64 (y0 + i) (by omega) e
    · exact absurd (b i hi) e
  unfold fSameIn_0 fSameIn_s0
  rw [st0]
  by_cases hk : k = y1 - y0
  · have he : pick1 (fSameIn_l13_st (oS w h l m x0 y0 x1 y1 (y0 + k))).2 = some (.e 0, oS w h l m x0 y0 x1 y1 y1) := by
      rw [show y0 + k = y1 by omega]; exact o_end y64
    rw [lx_run (s := fun i => oS w h l m x0 y0 x1 y1 (y0 + i)) hs he nofun (by omega)]
    refine ⟨⟨fun _ y h2 h3 => ?_, fun _ => rfl⟩, lx_lok (s := fun i => oS w h l m x0 y0 x1 y1 (y0 + i)) hs he nofun (fun i _ => o_obs w1 h1 hl hm xx x64 y64 _) (by omega)⟩
    have := b (y - y0) (by omega)
    rwa [show y0 + (y - y0) = y by omega] at this
  · have hn := c.resolve_left hk
    rcases (i_run (y0 := y0) (y1 := y1) w1 h1 hl hm xx x64 (y0 + k)).1 with ⟨e, _⟩ | ⟨_, x, e⟩
    · exact absurd e hn
    have he := o_bad y64 (y0 + k) (by omega) e
    rw [lx_run (s := fun i => oS w h l m x0 y0 x1 y1 (y0 + i)) hs he nofun (by omega)]
    refine ⟨⟨fun h => ?_, fun h => absurd (h (y0 + k) (by omega) (by omega)) hn⟩, lx_lok (s := fun i => oS w h l m x0 y0 x1 y1 (y0 + i)) hs he nofun (fun i _ => o_obs w1 h1 hl hm xx x64 y64 _) (by omega)⟩
    cases h
end
end Go.Proofs.Ytcdejlgophpdjaa
end

section
namespace Go.Proofs.Ytcdejlgophpdjaa
open Go Go.RowKit Go.Proofs.Ytcdejlgophpdjaa.V
set_option linter.unusedVariables false
set_option linter.unusedSectionVars false

def eq6 (l m : List (List Int)) (i : Nat) : Bool := rget l i 0 == rget m i 0 && (rget l i 1 == rget m i 1 && (rget l i 2 == rget m i 2 && rget l i 3 == rget m i 3)) && (rget l i 4 == rget m i 4 && rget l i 5 == rget m i 5)
theorem eq6_iff {l m : List (List Int)} {i : Nat} : eq6 l m i = true ↔ ∀ j, j < 6 → rget l i j = rget m i j := by
  unfold eq6
  simp only [Bool.and_eq_true, beq_iff_eq]
  constructor
  · intro ⟨⟨a, b, c, d⟩, e, f⟩ j hj
    match j, hj with
    | 0, _ => exact a
    | 1, _ => exact b
    | 2, _ => exact c
    | 3, _ => exact d
    | 4, _ => exact e
    | 5, _ => exact f
  · intro h
    exact ⟨⟨h 0 (by omega), h 1 (by omega), h 2 (by omega), h 3 (by omega)⟩, h 4 (by omega), h 5 (by omega)⟩

section
variable {l m : List (List Int)} (hL : l.length ≤ 4096) (hm : m.length = l.length)
def eS (l m : List (List Int)) (i : Nat) : sEqual_l29_T := .mk false (Int.ofNat l.length) (i : Int) l m
theorem e_s0 (i : Nat) : sEqual_l29_s0 (eS l m i) = decide (i < l.length) := by
  unfold sEqual_l29_s0
  exact decide_eq_decide.2 Int.ofNat_lt
theorem e_s1 (i : Nat) : sEqual_l29_s1 (eS l m i) = !eq6 l m i := rfl
include hL in
theorem e_step (i : Nat) (hi : i < l.length) (e : eq6 l m i = true) : pick1 (sEqual_l29_st (eS l m i)).2 = some (.n, eS l m (i + 1)) := by
  unfold sEqual_l29_st
  rw [e_s0, e_s1, e, decide_eq_true hi]
  have : IntKind.wrap .i64 ((eS l m i).a2 + 1) = ((i + 1 : Nat) : Int) := by
    show IntKind.wrap .i64 ((i : Int) + 1) = _
    rw [w64_in (by omega) (by omega)]; omega
  rw [this]; rfl
theorem e_bad (i : Nat) (hi : i < l.length) (e : eq6 l m i = false) : pick1 (sEqual_l29_st (eS l m i)).2 = some (.r, eS l m i) := by
  unfold sEqual_l29_st
  rw [e_s0, e_s1, e, decide_eq_true hi]; rfl
theorem e_end : pick1 (sEqual_l29_st (eS l m l.length)).2 = some (.e 0, eS l m l.length) := by
  unfold sEqual_l29_st
  rw [e_s0, decide_eq_false (Nat.lt_irrefl _)]; rfl
include hm in
theorem e_obs (i : Nat) : Alls (sEqual_l29_st (eS l m i)).1 := by
  unfold sEqual_l29_st
  rw [e_s0]
  refine ⟨fun g => ⟨Int.natCast_nonneg i, Int.ofNat_lt.2 (of_decide_eq_true g)⟩, fun g => ⟨Int.natCast_nonneg i, ?_⟩, trivial⟩
  have := of_decide_eq_true g
  exact Int.ofNat_lt.2 (show i < m.length by omega)
include hL hm in
theorem sEq : (sEqual_0 l m = true ↔ ∀ i, i < l.length → eq6 l m i = true) ∧ lok sEqual_l29_st 18446744073709551616 (.mk false (Int.ofNat l.length) 0 l m) := by
  obtain ⟨k, a, b, c⟩ := first (fun i => eq6 l m i = true) l.length
  have hs : ∀ i, i < k → pick1 (sEqual_l29_st (eS l m i)).2 = some (.n, eS l m (i + 1)) := fun i hi => e_step hL i (by omega) (b i hi)
  have h0 : sEqual_s0 l m = false := by unfold sEqual_s0; rw [hm]; simp
  unfold sEqual_0 sEqual_s1
  rw [h0]
  show ((bif false then false else bif isX X.r (lrun sEqual_l29_st 18446744073709551616 (eS l m 0)) then (V.valOf (lrun sEqual_l29_st 18446744073709551616 (eS l m 0))).a0 else true) = true ↔ _) ∧ lok sEqual_l29_st 18446744073709551616 (eS l m 0)
  by_cases hk : k = l.length
  · subst hk
    rw [lx_run (s := eS l m) hs e_end nofun (by omega)]
    exact ⟨⟨fun _ => b, fun _ => rfl⟩, lx_lok (s := eS l m) hs e_end nofun (fun i _ => e_obs hm i) (by omega)⟩
  · have hn : eq6 l m k = false := by
      have := c.resolve_left hk
      cases hh : eq6 l m k
      · rfl
      · exact absurd hh this
    rw [lx_run (s := eS l m) hs (e_bad k (by omega) hn) nofun (by omega)]
    refine ⟨⟨fun h => (by cases h), fun h => ?_⟩, lx_lok (s := eS l m) hs (e_bad k (by omega) hn) nofun (fun i _ => e_obs hm i) (by omega)⟩
    rw [h k (by omega)] at hn; cases hn
end

/-- A picture that may be one: its pixels. -/
def Gd (w h : Nat) (l : List (List Int)) : Prop := l.length = w * h ∧ ∀ i, i < w * h → dOK l i

theorem rget_lset_ne {l : List (List Int)} {i k j : Nat} (p : List Int) (h : i ≠ k) : rget (l.set k p) i j = rget l i j := by
  have e : (l.set k p).getD i [] = l.getD i [] := by
    simp only [List.getD_eq_getElem?_getD, List.getElem?_set_ne (Ne.symm h)]
  unfold rget
  rw [e]
theorem rget_lset_eq {l : List (List Int)} {k j : Nat} (p : List Int) (h : k < l.length) : rget (l.set k p) k j = p.getD j 0 := by
  unfold rget
  rw [List.getD_eq_getElem?_getD (l := List.set _ _ _), List.getElem?_set_self h]; rfl

theorem Gd_set {w h : Nat} {l : List (List Int)} (g : Gd w h l) (k : Nat) {p0 p1 p2 p3 p4 p5 : Int} (d0 : 0 ≤ p4) (d1 : p4 ≤ 65535) : Gd w h (l.set k [p0, p1, p2, p3, p4, p5]) := by
  refine ⟨by rw [List.length_set]; exact g.1, fun i hi => ?_⟩
  unfold dOK
  by_cases e : i = k
  · subst e
    rw [rget_lset_eq _ (by rw [g.1]; exact hi)]
    exact ⟨d0, d1⟩
  · rw [rget_lset_ne _ e]
    exact g.2 i hi

section
variable {w h : Nat} (ww : 1 ≤ w) (w1 : w ≤ 64) (hh : 1 ≤ h) (h1 : h ≤ 64) {sw sh : Int} {ns : Nat} {s : List (List Int)} (hd : ∀ i, 0 ≤ rget s i 4 ∧ rget s i 4 ≤ 65535) (n0 : ns ≤ 1000)

def zI (w h : Nat) (sw sh : Int) (ns : Nat) (s : List (List Int)) (y x : Nat) (v : fSized_l7475_T) : Prop := ∃ l, Gd w h l ∧ v = .mk (w : Int) (y : Int) (h : Int) (y : Int) true (w : Int) (x : Int) sw sh ns s 0 0 (w : Int) (h : Int) l
def zO (w h : Nat) (sw sh : Int) (ns : Nat) (s : List (List Int)) (y : Nat) (v : fSized_l29_T) : Prop := ∃ l, Gd w h l ∧ v = .mk (w : Int) (h : Int) (y : Int) sw sh ns s 0 0 (w : Int) (h : Int) l

include w1 h1 hd in
theorem z_step (y : Nat) : ∀ x v, x < w → zI w h sw sh ns s y x v → ∃ v', pick1 (fSized_l7475_st v).2 = some (.n, v') ∧ zI w h sw sh ns s y (x + 1) v' := by
  rintro x v hx ⟨l, g, rfl⟩
  have e0 : fSized_l7475_s0 (.mk (w : Int) (y : Int) (h : Int) (y : Int) true (w : Int) (x : Int) sw sh ns s 0 0 (w : Int) (h : Int) l) = true := by
    unfold fSized_l7475_s0
    exact decide_eq_true (Int.ofNat_lt.2 hx)
  have e1 : IntKind.wrap .i64 ((x : Int) + 1) = ((x + 1 : Nat) : Int) := by
    rw [w64_in (by omega) (by omega)]; omega
  unfold fSized_l7475_st
  rw [e0]
  refine ⟨_, rfl, ?_⟩
  refine ⟨_, ?_, by rw [show IntKind.wrap .i64 ((fSized_l7475_T.mk (w : Int) (y : Int) (h : Int) (y : Int) true (w : Int) (x : Int) sw sh ns s 0 0 (w : Int) (h : Int) l).a6 + 1) = ((x + 1 : Nat) : Int) from e1]⟩
  cases fSized_l7475_s1 _
  · exact g
  · show Gd w h (fSet_0 (w : Int) (h : Int) (x : Int) (y : Int) _ _ _ _ _ _ l)
    rw [set_eq w1 h1 g.1]
    cases inn w h (x : Int) (y : Int)
    · exact g
    · refine Gd_set g _ ?_ ?_
      · rw [w64_in (by have := (hd (0 + Int.toNat (fSized_l7475_s2 (.mk (w : Int) (y : Int) (h : Int) (y : Int) true (w : Int) (x : Int) sw sh ns s 0 0 (w : Int) (h : Int) l)))).1; exact Int.le_trans (by decide) this) (by have := (hd (0 + Int.toNat (fSized_l7475_s2 (.mk (w : Int) (y : Int) (h : Int) (y : Int) true (w : Int) (x : Int) sw sh ns s 0 0 (w : Int) (h : Int) l)))).2; exact Int.le_trans this (by decide))]
        exact (hd _).1
      · rw [w64_in (by have := (hd (0 + Int.toNat (fSized_l7475_s2 (.mk (w : Int) (y : Int) (h : Int) (y : Int) true (w : Int) (x : Int) sw sh ns s 0 0 (w : Int) (h : Int) l)))).1; exact Int.le_trans (by decide) this) (by have := (hd (0 + Int.toNat (fSized_l7475_s2 (.mk (w : Int) (y : Int) (h : Int) (y : Int) true (w : Int) (x : Int) sw sh ns s 0 0 (w : Int) (h : Int) l)))).2; exact Int.le_trans this (by decide))]
        exact (hd _).2
theorem z_end (y : Nat) : ∀ v, zI w h sw sh ns s y w v → pick1 (fSized_l7475_st v).2 = some (.e 2, v) := by
  rintro v ⟨l, g, rfl⟩
  have e0 : fSized_l7475_s0 (.mk (w : Int) (y : Int) (h : Int) (y : Int) true (w : Int) (w : Int) sw sh ns s 0 0 (w : Int) (h : Int) l) = false := by
    unfold fSized_l7475_s0
    exact decide_eq_false (Int.lt_irrefl _)
  unfold fSized_l7475_st
  rw [e0]; rfl
include w1 h1 in
theorem z_obs {y : Nat} (hy : y < h) : ∀ x v, x ≤ w → zI w h sw sh ns s y x v → Alls (fSized_l7475_st v).1 := by
  rintro x v hx ⟨l, g, rfl⟩
  have hyw : y * w ≤ 63 * 64 := Nat.mul_le_mul (by omega) (by omega)
  have c1 : (y : Int) * (w : Int) = ((y * w : Nat) : Int) := by simp
  have e2 : fSized_l7475_s2 (.mk (w : Int) (y : Int) (h : Int) (y : Int) true (w : Int) (x : Int) sw sh ns s 0 0 (w : Int) (h : Int) l) = Int.tmod ((y * w + x : Nat) : Int) (ns : Int) := by
    unfold fSized_l7475_s2
    show Int.tmod (IntKind.wrap .i64 (IntKind.wrap .i64 ((y : Int) * (w : Int)) + (x : Int))) (ns : Int) = _
    rw [c1, w64_in (n := ((y * w : Nat) : Int)) (by omega) (by omega), w64_in (by omega) (by omega)]; rfl
  refine ⟨fun _ g1 => ?_, fun _ g1 => ?_, fun _ _ g2 => set_ob w1 h1 g.1 g2, trivial⟩
  · have : (0 : Int) < (ns : Int) := of_decide_eq_true g1
    show (ns : Int) ≠ 0
    omega
  · have : (0 : Int) < (ns : Int) := of_decide_eq_true g1
    rw [e2, Int.tmod_eq_emod_of_nonneg (by omega)]
    exact ⟨Int.emod_nonneg _ (by omega), Int.emod_lt_of_pos _ this⟩
include w1 h1 hd in
theorem z_in {y : Nat} (hy : y < h) {v : fSized_l7475_T} (hv : zI w h sw sh ns s y 0 v) : (∃ v', lrun fSized_l7475_st 18446744073709551616 v = some (.e 2, v') ∧ zI w h sw sh ns s y w v') ∧ lok fSized_l7475_st 18446744073709551616 v :=
  inv_run (I := zI w h sw sh ns s y) (x := .e 2) nofun (z_step w1 h1 hd y) (z_end y) (z_obs w1 h1 hy) w 0 v (by omega) hv _ (by omega)

theorem zo_s0 {y : Nat} {l : List (List Int)} : fSized_l29_s0 (.mk (w : Int) (h : Int) (y : Int) sw sh ns s 0 0 (w : Int) (h : Int) l) = decide (y < h) := by
  unfold fSized_l29_s0
  exact decide_eq_decide.2 Int.ofNat_lt
include w1 h1 hd in
theorem zo_step : ∀ y v, y < h → zO w h sw sh ns s y v → ∃ v', pick1 (fSized_l29_st v).2 = some (.n, v') ∧ zO w h sw sh ns s (y + 1) v' := by
  rintro y v hy ⟨l, g, rfl⟩
  obtain ⟨⟨v', r, l', g', e'⟩, _⟩ := z_in (sw := sw) (sh := sh) (ns := ns) w1 h1 hd hy ⟨l, g, rfl⟩
  have e1 : fSized_l29_s1 (.mk (w : Int) (h : Int) (y : Int) sw sh ns s 0 0 (w : Int) (h : Int) l) = some (.e 2, v') := by
    unfold fSized_l29_s1
    rw [zo_s0, decide_eq_true hy]
    exact r
  unfold fSized_l29_st
  rw [zo_s0, decide_eq_true hy, e1]
  subst e'
  refine ⟨_, rfl, l', g', ?_⟩
  have e2 : IntKind.wrap .i64 ((y : Int) + 1) = ((y + 1 : Nat) : Int) := by
    rw [w64_in (by omega) (by omega)]; omega
  rw [← e2]; rfl
theorem zo_end : ∀ v, zO w h sw sh ns s h v → pick1 (fSized_l29_st v).2 = some (.e 0, v) := by
  rintro v ⟨l, g, rfl⟩
  unfold fSized_l29_st
  rw [zo_s0, decide_eq_false (Nat.lt_irrefl _)]; rfl
include w1 h1 hd in
theorem zo_obs : ∀ y v, y ≤ h → zO w h sw sh ns s y v → Alls (fSized_l29_st v).1 := by
  rintro y v hy ⟨l, g, rfl⟩
  unfold fSized_l29_st
  rw [zo_s0]
  refine ⟨fun k => ?_, trivial⟩
  rw [k]
  exact (z_in w1 h1 hd (of_decide_eq_true k) ⟨l, g, rfl⟩).2
end

theorem cl_in {x : Int} (a : 1 ≤ x) (b : x ≤ 64) : (cl x : Int) = x := by
  unfold cl; split <;> split at * <;> omega

theorem sized {x1 x2 : Int} (a1 : 1 ≤ x1) (b1 : x1 ≤ 64) (a2 : 1 ≤ x2) (b2 : x2 ≤ 64) (sw sh : Int) (ns : Nat) {s : List (List Int)} (hd : ∀ i, 0 ≤ rget s i 4 ∧ rget s i 4 ≤ 65535) :
    (fSized_0 sw sh ns x1 x2 s = (cl x1 : Int) ∧ fSized_1 sw sh ns x1 x2 s = (cl x2 : Int) ∧ Gd (cl x1) (cl x2) (fSized_2 sw sh ns x1 x2 s)) ∧ lok fSized_l29_st 18446744073709551616 (.mk x1 x2 0 sw sh ns s 0 0 (fNew_s2 x1) (fNew_s5 x2) (fNew_0 x1 x2 0 0 0 0 65535 0)) := by
  have e : fSized_l29_T.mk x1 x2 0 sw sh ns s 0 0 (fNew_s2 x1) (fNew_s5 x2) (fNew_0 x1 x2 0 0 0 0 65535 0) = .mk (cl x1 : Int) (cl x2 : Int) ((0 : Nat) : Int) sw sh ns s 0 0 (cl x1 : Int) (cl x2 : Int) (List.replicate (cl x1 * cl x2) [0, 0, 0, 0, 65535, 0]) := by
    rw [n_s2, n_s5, new_eq, cl_in a1 b1, cl_in a2 b2]; rfl
  have g : Gd (cl x1) (cl x2) (List.replicate (cl x1 * cl x2) [0, 0, 0, 0, 65535, 0]) := by
    refine ⟨by rw [List.length_replicate], fun i hi => ?_⟩
    unfold dOK
    rw [rget_rep hi]
    exact ⟨by decide, by decide⟩
  obtain ⟨⟨v', r, l', g', e'⟩, k⟩ := inv_run (I := zO (cl x1) (cl x2) sw sh ns s) (x := .e 0) nofun (zo_step (cl_64 x1) (cl_64 x2) hd) zo_end (zo_obs (cl_64 x1) (cl_64 x2) hd) (cl x2) 0 _ (by omega) ⟨_, g, rfl⟩ 18446744073709551616 (by have := cl_64 x2; omega)
  refine ⟨⟨?_, ?_, ?_⟩, by rw [e]; exact k⟩
  · unfold fSized_0; rw [e, r, e']; rfl
  · unfold fSized_1; rw [e, r, e']; rfl
  · unfold fSized_2; rw [e, r, e']; exact g'
end Go.Proofs.Ytcdejlgophpdjaa
end

section
namespace Go.Proofs.Ytcdejlgophpdjaa
open Go Go.RowKit Go.Proofs.Ytcdejlgophpdjaa.V
set_option linter.unusedVariables false
set_option linter.unusedSectionVars false

theorem bool_iff {a b : Bool} {p : Prop} (h : a = true ↔ p) (k : b = true ↔ p) : a = b := by
  cases a <;> cases b <;> simp_all

section
variable {w h : Nat} (w1 : w ≤ 64) (h1 : h ≤ 64) {l m : List (List Int)}
include w1 h1
theorem Eq6_iff (hl : l.length = w * h) (hm : m.length = w * h) (x y : Int) : Eq6 w h l m x y = true ↔ ∀ j, j < 6 → px w h l x y j = px w h m x y j := by
  unfold Eq6
  rw [px_0 w1 h1 hl, px_1 w1 h1 hl, px_2 w1 h1 hl, px_3 w1 h1 hl, px_4 w1 h1 hl, px_5 w1 h1 hl, px_0 w1 h1 hm, px_1 w1 h1 hm, px_2 w1 h1 hm, px_3 w1 h1 hm, px_4 w1 h1 hm, px_5 w1 h1 hm]
  simp only [Bool.and_eq_true, beq_iff_eq]
  constructor
  · intro ⟨⟨a, b, c, d⟩, e, f⟩ j hj
    match j, hj with
    | 0, _ => exact a
    | 1, _ => exact b
    | 2, _ => exact c
    | 3, _ => exact d
    | 4, _ => exact e
    | 5, _ => exact f
  · intro h
    exact ⟨⟨h 0 (by omega), h 1 (by omega), h 2 (by omega), h 3 (by omega)⟩, h 4 (by omega), h 5 (by omega)⟩
end

theorem r_len {w h : Nat} (w1 : w ≤ 64) (h1 : h ≤ 64) {l : List (List Int)} (g : Gd w h l) : l.length ≤ 4096 := by
  rw [g.1]; exact Nat.mul_le_mul w1 h1


theorem foldl_push_size {α : Type} (f : α → UInt8) : ∀ (l : List α) (r : ByteArray), (l.foldl (fun r n => r.push (f n)) r).size = r.size + l.length
  | [], r => rfl
  | a :: l, r => by
    rw [List.foldl_cons, foldl_push_size f l, List.length_cons, ByteArray.size_push]; omega
theorem bytesOf_size (l : List (List Int)) : (bytesOf l).size = l.length := by
  unfold bytesOf
  rw [foldl_push_size (fun n : Int => UInt8.ofNat n.toNat), List.length_map]
  show 0 + l.length = _
  omega

def sO (l : List (List Int)) : Nat → List (List Int)
  | 0 => []
  | i + 1 => sO l i ++ [[rget l i 0], [rget l i 1], [rget l i 2], [rget l i 3]] ++ [[IntKind.wrap IntKind.u8 (Int.fdiv (rget l i 4) (2 ^ min (Int.toNat 8) (IntKind.bits IntKind.i64)))], [IntKind.wrap IntKind.u8 (rget l i 4)], [rget l i 5]]
theorem sO_len (l : List (List Int)) : ∀ i, (sO l i).length = 7 * i
  | 0 => rfl
  | i + 1 => by
    rw [sO, List.length_append, List.length_append, sO_len l i]
    show 7 * i + 4 + 3 = _
    omega
theorem sO_congr {l m : List (List Int)} : ∀ {n : Nat}, (∀ i, i < n → eq6 l m i = true) → sO l n = sO m n
  | 0, _ => rfl
  | n + 1, h => by
    have k := eq6_iff.1 (h n (by omega))
    rw [sO, sO, sO_congr (fun i hi => h i (by omega)), k 0 (by omega), k 1 (by omega), k 2 (by omega), k 3 (by omega), k 4 (by omega), k 5 (by omega)]

def sS (l : List (List Int)) (i : Nat) : fSum_l29_T := .mk 0 (Int.ofNat l.length) (i : Int) l (sO l i)
section
variable {l : List (List Int)} (hL : l.length ≤ 4096)
theorem s_s0 (i : Nat) : fSum_l29_s0 (sS l i) = decide (i < l.length) := by
  unfold fSum_l29_s0
  exact decide_eq_decide.2 Int.ofNat_lt
theorem s_s2 (i : Nat) : fSum_l29_s2 (sS l i) = sO l (i + 1) := rfl
include hL
theorem s_step (i : Nat) (hi : i < l.length) : pick1 (fSum_l29_st (sS l i)).2 = some (.n, sS l (i + 1)) := by
  unfold fSum_l29_st
  rw [s_s0, decide_eq_true hi, s_s2]
  have : IntKind.wrap .i64 ((sS l i).a2 + 1) = ((i + 1 : Nat) : Int) := by
    show IntKind.wrap .i64 ((i : Int) + 1) = _
    rw [w64_in (by omega) (by omega)]; omega
  rw [this]; rfl
omit hL in
theorem s_end : pick1 (fSum_l29_st (sS l l.length)).2 = some (.e 0, sS l l.length) := by
  unfold fSum_l29_st
  rw [s_s0, decide_eq_false (Nat.lt_irrefl _)]; rfl
theorem s_obs (i : Nat) : Alls (fSum_l29_st (sS l i)).1 := by
  unfold fSum_l29_st
  rw [s_s0]
  refine ⟨fun g => ⟨Int.natCast_nonneg i, Int.ofNat_lt.2 (of_decide_eq_true g)⟩, fun g => ?_, fun g => ?_, trivial⟩
  · have := of_decide_eq_true g
    have e : (fSum_l29_s1 (sS l i)).length = 7 * i + 4 := by
      show (sO l i ++ _).length = _
      rw [List.length_append, sO_len]; rfl
    rw [e]; omega
  · have := of_decide_eq_true g
    rw [s_s2, sO_len]; omega
theorem sum_run : fSum_s0 l = some (.e 0, sS l l.length) := by
  unfold fSum_s0
  exact lx_run (s := sS l) (s_step hL) s_end nofun (by omega)
theorem sum_lok : lok fSum_l29_st 18446744073709551616 (.mk 0 (Int.ofNat l.length) 0 l []) :=
  lx_lok (s := sS l) (s_step hL) s_end nofun (fun i _ => s_obs hL i) (by omega)
theorem sum_a4 : (V.valOf (fSum_s0 l)).a4 = sO l l.length := by rw [sum_run hL]; rfl
end
theorem sum_eq {l m : List (List Int)} (hL : l.length ≤ 4096) (hm : m.length = l.length) (h : ∀ i, i < l.length → eq6 l m i = true) : fSum_0 l = fSum_0 m := by
  unfold fSum_0
  rw [sum_a4 hL, sum_a4 (by omega), hm, sO_congr h]

/-! The sum of 32 bits: its loops end. -/
def kI (c n i : Int) (l : List (List Int)) (k : Nat) (v : cSum_l14951_T) : Prop := ∃ a, v = .mk 0 a c n i true (k : Int) l
def kO (l : List (List Int)) (i : Nat) (v : cSum_l29_T) : Prop := ∃ a, v = .mk 0 a (Int.ofNat l.length) (i : Int) l
theorem k_in (c n i : Int) (l : List (List Int)) {v : cSum_l14951_T} (hv : kI c n i l 0 v) : (∃ v', lrun cSum_l14951_st 18446744073709551616 v = some (.e 2, v') ∧ kI c n i l 8 v') ∧ lok cSum_l14951_st 18446744073709551616 v := by
  refine inv_run (I := kI c n i l) (x := .e 2) (n := 8) nofun ?_ ?_ ?_ 8 0 v (by omega) hv _ (by omega)
  · rintro k v hk ⟨a, rfl⟩
    have e0 : cSum_l14951_s0 (.mk 0 a c n i true (k : Int) l) = true := by
      unfold cSum_l14951_s0
      exact decide_eq_true (show (k : Int) < 8 by omega)
    have e1 : IntKind.wrap .i64 ((k : Int) + 1) = ((k + 1 : Nat) : Int) := by
      rw [w64_in (by omega) (by omega)]; omega
    unfold cSum_l14951_st
    rw [e0]
    refine ⟨_, rfl, ?_⟩
    unfold kI
    rw [← e1]
    exact ⟨_, rfl⟩
  · rintro v ⟨a, rfl⟩
    rfl
  · rintro k v hk ⟨a, rfl⟩
    trivial
theorem k_s0 (l : List (List Int)) (i : Nat) (a : Int) : cSum_l29_s0 (.mk 0 a (Int.ofNat l.length) (i : Int) l) = decide (i < l.length) := by
  unfold cSum_l29_s0
  exact decide_eq_decide.2 Int.ofNat_lt
theorem crc_lok {l : List (List Int)} (hL : l.length ≤ 100000) : lok cSum_l29_st 18446744073709551616 (.mk 0 4294967295 (Int.ofNat l.length) 0 l) := by
  refine (inv_run (I := kO l) (x := .e 0) (n := l.length) nofun ?_ ?_ ?_ l.length 0 _ (by omega) ⟨_, rfl⟩ _ (by omega)).2
  · rintro i v hi ⟨a, rfl⟩
    obtain ⟨⟨v', r, b, e⟩, _⟩ := k_in (rget l i 0) (Int.ofNat l.length) (i : Int) l (v := .mk 0 _ (rget l i 0) (Int.ofNat l.length) (i : Int) true 0 l) ⟨_, rfl⟩
    have e2 : cSum_l29_s2 (.mk 0 a (Int.ofNat l.length) (i : Int) l) = some (.e 2, v') := by
      unfold cSum_l29_s2
      rw [k_s0, decide_eq_true hi]
      exact r
    have e1 : IntKind.wrap .i64 ((i : Int) + 1) = ((i + 1 : Nat) : Int) := by
      rw [w64_in (by omega) (by omega)]; omega
    unfold cSum_l29_st
    rw [k_s0, decide_eq_true hi, e2]
    subst e
    refine ⟨_, rfl, b, ?_⟩
    rw [← e1]; rfl
  · rintro v ⟨a, rfl⟩
    unfold cSum_l29_st
    rw [k_s0, decide_eq_false (Nat.lt_irrefl _)]; rfl
  · rintro i v hi ⟨a, rfl⟩
    unfold cSum_l29_st
    rw [k_s0]
    refine ⟨fun g => ⟨Int.natCast_nonneg i, Int.ofNat_lt.2 (of_decide_eq_true g)⟩, fun g => ?_, trivial⟩
    rw [g]
    exact (k_in (rget l i 0) (Int.ofNat l.length) (i : Int) l ⟨_, rfl⟩).2


def Gc (w h : Nat) (l : List (List Int)) : Prop := Gd w h l ∧ ∀ k j, j ≠ 4 → 0 ≤ rget l k j ∧ rget l k j ≤ 255
theorem Gc_set {w h : Nat} {l : List (List Int)} (g : Gc w h l) (k : Nat) {p0 p1 p2 p3 p4 p5 : Int} (d0 : 0 ≤ p4) (d1 : p4 ≤ 65535) (c0 : 0 ≤ p0 ∧ p0 ≤ 255) (c1 : 0 ≤ p1 ∧ p1 ≤ 255) (c2 : 0 ≤ p2 ∧ p2 ≤ 255) (c3 : 0 ≤ p3 ∧ p3 ≤ 255) (c5 : 0 ≤ p5 ∧ p5 ≤ 255) : Gc w h (l.set k [p0, p1, p2, p3, p4, p5]) := by
  refine ⟨Gd_set g.1 k d0 d1, fun i j hj => ?_⟩
  by_cases e : i = k
  · subst e
    by_cases hi : i < l.length
    · rw [rget_lset_eq _ hi]
      match j, hj with
      | 0, _ => exact c0
      | 1, _ => exact c1
      | 2, _ => exact c2
      | 3, _ => exact c3
      | 5, _ => exact c5
      | j + 6, _ => exact (show (0 : Int) ≤ 0 ∧ (0 : Int) ≤ 255 by decide)
    · rw [List.set_eq_of_length_le (by omega)]
      exact g.2 i j hj
  · rw [rget_lset_ne _ e]
    exact g.2 i j hj

section
variable {w h : Nat} (ww : 1 ≤ w) (w1 : w ≤ 64) (hh : 1 ≤ h) (h1 : h ≤ 64) {sw sh : Int} {ns : Nat} {s : List (List Int)} (hd : ∀ i, 0 ≤ rget s i 4 ∧ rget s i 4 ≤ 65535) (hc : ∀ i j, j ≠ 4 → 0 ≤ rget s i j ∧ rget s i j ≤ 255) (n0 : ns ≤ 1000)

def yI (w h : Nat) (sw sh : Int) (ns : Nat) (s : List (List Int)) (y x : Nat) (v : fSized_l7475_T) : Prop := ∃ l, Gc w h l ∧ v = .mk (w : Int) (y : Int) (h : Int) (y : Int) true (w : Int) (x : Int) sw sh ns s 0 0 (w : Int) (h : Int) l
def yO (w h : Nat) (sw sh : Int) (ns : Nat) (s : List (List Int)) (y : Nat) (v : fSized_l29_T) : Prop := ∃ l, Gc w h l ∧ v = .mk (w : Int) (h : Int) (y : Int) sw sh ns s 0 0 (w : Int) (h : Int) l

include w1 h1 hd hc in
theorem y_step (y : Nat) : ∀ x v, x < w → yI w h sw sh ns s y x v → ∃ v', pick1 (fSized_l7475_st v).2 = some (.n, v') ∧ yI w h sw sh ns s y (x + 1) v' := by
  rintro x v hx ⟨l, g, rfl⟩
  have e0 : fSized_l7475_s0 (.mk (w : Int) (y : Int) (h : Int) (y : Int) true (w : Int) (x : Int) sw sh ns s 0 0 (w : Int) (h : Int) l) = true := by
    unfold fSized_l7475_s0
    exact decide_eq_true (Int.ofNat_lt.2 hx)
  have e1 : IntKind.wrap .i64 ((x : Int) + 1) = ((x + 1 : Nat) : Int) := by
    rw [w64_in (by omega) (by omega)]; omega
  unfold fSized_l7475_st
  rw [e0]
  refine ⟨_, rfl, ?_⟩
  refine ⟨_, ?_, by rw [show IntKind.wrap .i64 ((fSized_l7475_T.mk (w : Int) (y : Int) (h : Int) (y : Int) true (w : Int) (x : Int) sw sh ns s 0 0 (w : Int) (h : Int) l).a6 + 1) = ((x + 1 : Nat) : Int) from e1]⟩
  cases fSized_l7475_s1 _
  · exact g
  · show Gc w h (fSet_0 (w : Int) (h : Int) (x : Int) (y : Int) _ _ _ _ _ _ l)
    rw [set_eq w1 h1 g.1.1]
    cases inn w h (x : Int) (y : Int)
    · exact g
    · refine Gc_set g _ ?_ ?_ (hc _ 0 (by omega)) (hc _ 1 (by omega)) (hc _ 2 (by omega)) (hc _ 3 (by omega)) (hc _ 5 (by omega))
      · rw [w64_in (by have := (hd (0 + Int.toNat (fSized_l7475_s2 (.mk (w : Int) (y : Int) (h : Int) (y : Int) true (w : Int) (x : Int) sw sh ns s 0 0 (w : Int) (h : Int) l)))).1; exact Int.le_trans (by decide) this) (by have := (hd (0 + Int.toNat (fSized_l7475_s2 (.mk (w : Int) (y : Int) (h : Int) (y : Int) true (w : Int) (x : Int) sw sh ns s 0 0 (w : Int) (h : Int) l)))).2; exact Int.le_trans this (by decide))]
        exact (hd _).1
      · rw [w64_in (by have := (hd (0 + Int.toNat (fSized_l7475_s2 (.mk (w : Int) (y : Int) (h : Int) (y : Int) true (w : Int) (x : Int) sw sh ns s 0 0 (w : Int) (h : Int) l)))).1; exact Int.le_trans (by decide) this) (by have := (hd (0 + Int.toNat (fSized_l7475_s2 (.mk (w : Int) (y : Int) (h : Int) (y : Int) true (w : Int) (x : Int) sw sh ns s 0 0 (w : Int) (h : Int) l)))).2; exact Int.le_trans this (by decide))]
        exact (hd _).2
theorem y_end (y : Nat) : ∀ v, yI w h sw sh ns s y w v → pick1 (fSized_l7475_st v).2 = some (.e 2, v) := by
  rintro v ⟨l, g, rfl⟩
  have e0 : fSized_l7475_s0 (.mk (w : Int) (y : Int) (h : Int) (y : Int) true (w : Int) (w : Int) sw sh ns s 0 0 (w : Int) (h : Int) l) = false := by
    unfold fSized_l7475_s0
    exact decide_eq_false (Int.lt_irrefl _)
  unfold fSized_l7475_st
  rw [e0]; rfl
include w1 h1 in
theorem y_obs {y : Nat} (hy : y < h) : ∀ x v, x ≤ w → yI w h sw sh ns s y x v → Alls (fSized_l7475_st v).1 := by
  rintro x v hx ⟨l, g, rfl⟩
  have hyw : y * w ≤ 63 * 64 := Nat.mul_le_mul (by omega) (by omega)
  have c1 : (y : Int) * (w : Int) = ((y * w : Nat) : Int) := by simp
  have e2 : fSized_l7475_s2 (.mk (w : Int) (y : Int) (h : Int) (y : Int) true (w : Int) (x : Int) sw sh ns s 0 0 (w : Int) (h : Int) l) = Int.tmod ((y * w + x : Nat) : Int) (ns : Int) := by
    unfold fSized_l7475_s2
    show Int.tmod (IntKind.wrap .i64 (IntKind.wrap .i64 ((y : Int) * (w : Int)) + (x : Int))) (ns : Int) = _
    rw [c1, w64_in (n := ((y * w : Nat) : Int)) (by omega) (by omega), w64_in (by omega) (by omega)]; rfl
  refine ⟨fun _ g1 => ?_, fun _ g1 => ?_, fun _ _ g2 => set_ob w1 h1 g.1.1 g2, trivial⟩
  · have : (0 : Int) < (ns : Int) := of_decide_eq_true g1
    show (ns : Int) ≠ 0
    omega
  · have : (0 : Int) < (ns : Int) := of_decide_eq_true g1
    rw [e2, Int.tmod_eq_emod_of_nonneg (by omega)]
    exact ⟨Int.emod_nonneg _ (by omega), Int.emod_lt_of_pos _ this⟩
include w1 h1 hd hc in
theorem y_in {y : Nat} (hy : y < h) {v : fSized_l7475_T} (hv : yI w h sw sh ns s y 0 v) : (∃ v', lrun fSized_l7475_st 18446744073709551616 v = some (.e 2, v') ∧ yI w h sw sh ns s y w v') ∧ lok fSized_l7475_st 18446744073709551616 v :=
  inv_run (I := yI w h sw sh ns s y) (x := .e 2) nofun (y_step w1 h1 hd hc y) (y_end y) (y_obs w1 h1 hy) w 0 v (by omega) hv _ (by omega)

theorem yo_s0 {y : Nat} {l : List (List Int)} : fSized_l29_s0 (.mk (w : Int) (h : Int) (y : Int) sw sh ns s 0 0 (w : Int) (h : Int) l) = decide (y < h) := by
  unfold fSized_l29_s0
  exact decide_eq_decide.2 Int.ofNat_lt
include w1 h1 hd hc in
theorem yo_step : ∀ y v, y < h → yO w h sw sh ns s y v → ∃ v', pick1 (fSized_l29_st v).2 = some (.n, v') ∧ yO w h sw sh ns s (y + 1) v' := by
  rintro y v hy ⟨l, g, rfl⟩
  obtain ⟨⟨v', r, l', g', e'⟩, _⟩ := y_in (sw := sw) (sh := sh) (ns := ns) w1 h1 hd hc hy ⟨l, g, rfl⟩
  have e1 : fSized_l29_s1 (.mk (w : Int) (h : Int) (y : Int) sw sh ns s 0 0 (w : Int) (h : Int) l) = some (.e 2, v') := by
    unfold fSized_l29_s1
    rw [yo_s0, decide_eq_true hy]
    exact r
  unfold fSized_l29_st
  rw [yo_s0, decide_eq_true hy, e1]
  subst e'
  refine ⟨_, rfl, l', g', ?_⟩
  have e2 : IntKind.wrap .i64 ((y : Int) + 1) = ((y + 1 : Nat) : Int) := by
    rw [w64_in (by omega) (by omega)]; omega
  rw [← e2]; rfl
theorem yo_end : ∀ v, yO w h sw sh ns s h v → pick1 (fSized_l29_st v).2 = some (.e 0, v) := by
  rintro v ⟨l, g, rfl⟩
  unfold fSized_l29_st
  rw [yo_s0, decide_eq_false (Nat.lt_irrefl _)]; rfl
include w1 h1 hd hc in
theorem yo_obs : ∀ y v, y ≤ h → yO w h sw sh ns s y v → Alls (fSized_l29_st v).1 := by
  rintro y v hy ⟨l, g, rfl⟩
  unfold fSized_l29_st
  rw [yo_s0]
  refine ⟨fun k => ?_, trivial⟩
  rw [k]
  exact (y_in w1 h1 hd hc (of_decide_eq_true k) ⟨l, g, rfl⟩).2
end

theorem sizedC {x1 x2 : Int} (a1 : 1 ≤ x1) (b1 : x1 ≤ 64) (a2 : 1 ≤ x2) (b2 : x2 ≤ 64) (sw sh : Int) (ns : Nat) {s : List (List Int)} (hd : ∀ i, 0 ≤ rget s i 4 ∧ rget s i 4 ≤ 65535) (hc : ∀ i j, j ≠ 4 → 0 ≤ rget s i j ∧ rget s i j ≤ 255) :
    (fSized_0 sw sh ns x1 x2 s = (cl x1 : Int) ∧ fSized_1 sw sh ns x1 x2 s = (cl x2 : Int) ∧ Gc (cl x1) (cl x2) (fSized_2 sw sh ns x1 x2 s)) ∧ lok fSized_l29_st 18446744073709551616 (.mk x1 x2 0 sw sh ns s 0 0 (fNew_s2 x1) (fNew_s5 x2) (fNew_0 x1 x2 0 0 0 0 65535 0)) := by
  have e : fSized_l29_T.mk x1 x2 0 sw sh ns s 0 0 (fNew_s2 x1) (fNew_s5 x2) (fNew_0 x1 x2 0 0 0 0 65535 0) = .mk (cl x1 : Int) (cl x2 : Int) ((0 : Nat) : Int) sw sh ns s 0 0 (cl x1 : Int) (cl x2 : Int) (List.replicate (cl x1 * cl x2) [0, 0, 0, 0, 65535, 0]) := by
    rw [n_s2, n_s5, new_eq, cl_in a1 b1, cl_in a2 b2]; rfl
  have g : Gc (cl x1) (cl x2) (List.replicate (cl x1 * cl x2) [0, 0, 0, 0, 65535, 0]) := by
    refine ⟨⟨by rw [List.length_replicate], fun i hi => ?_⟩, fun i j hj => ?_⟩
    · unfold dOK
      rw [rget_rep hi]
      exact ⟨by decide, by decide⟩
    · have e : rget (List.replicate (cl x1 * cl x2) [0, 0, 0, 0, 65535, 0]) i j = 0 := by
        by_cases hi : i < cl x1 * cl x2
        · rw [rget_rep hi]
          match j, hj with
          | 0, _ => rfl
          | 1, _ => rfl
          | 2, _ => rfl
          | 3, _ => rfl
          | 5, _ => rfl
          | j + 6, _ => rfl
        · unfold rget
          rw [List.getD_eq_getElem?_getD (l := List.replicate _ _), List.getElem?_replicate, if_neg hi]; rfl
      rw [e]; decide
  obtain ⟨⟨v', r, l', g', e'⟩, k⟩ := inv_run (I := yO (cl x1) (cl x2) sw sh ns s) (x := .e 0) nofun (yo_step (cl_64 x1) (cl_64 x2) hd hc) yo_end (yo_obs (cl_64 x1) (cl_64 x2) hd hc) (cl x2) 0 _ (by omega) ⟨_, g, rfl⟩ 18446744073709551616 (by have := cl_64 x2; omega)
  refine ⟨⟨?_, ?_, ?_⟩, by rw [e]; exact k⟩
  · unfold fSized_0; rw [e, r, e']; rfl
  · unfold fSized_1; rw [e, r, e']; rfl
  · unfold fSized_2; rw [e, r, e']; exact g'


theorem tiles_eq {w : Nat} (w1 : w ≤ 64) : bTiles_0 (w : Int) = (((w + 7) / 8 : Nat) : Int) := by
  unfold bTiles_0 bTiles_s0
  rw [if_neg (show ¬ (w : Int) < 0 by omega), if_neg (show ¬ 64 < (w : Int) by omega), w64_in (n := (w : Int) + 8) (by omega) (by omega), w64_in (n := (w : Int) + 8 - 1) (by omega) (by omega), Int.tdiv_eq_ediv_of_nonneg (by omega), w64_in (by omega) (by omega)]
  omega
theorem tl_le {w : Nat} (w1 : w ≤ 64) : (w + 7) / 8 ≤ 8 := by omega
theorem gt_eq {w h : Nat} (w1 : w ≤ 64) (h1 : h ≤ 64) : bGTiles_0 (w : Int) (h : Int) = (((w + 7) / 8 * ((h + 7) / 8) : Nat) : Int) := by
  have : (w + 7) / 8 * ((h + 7) / 8) ≤ 8 * 8 := Nat.mul_le_mul (tl_le w1) (tl_le h1)
  unfold bGTiles_0
  rw [tiles_eq w1, tiles_eq h1, ← Int.natCast_mul, w64_in (by omega) (by omega)]

theorem ixp_eq {w h : Nat} (w1 : w ≤ 64) (h1 : h ≤ 64) {a b : Nat} (ha : a < w) (hb : b < h) : ixp w a b = b * w + a := by
  unfold ixp
  rw [(at_in (l := List.replicate (w * h) []) w1 h1 (by simp) ha hb).1]; rfl
theorem ixp_inj {w h : Nat} (w1 : w ≤ 64) (h1 : h ≤ 64) {a b c d : Nat} (ha : a < w) (hb : b < h) (hc : c < w) (hd : d < h) (e : ixp w a b = ixp w c d) : a = c ∧ b = d := by
  rw [ixp_eq w1 h1 ha hb, ixp_eq w1 h1 hc hd] at e
  have m : (b * w + a) % w = (d * w + c) % w := by rw [e]
  rw [Nat.mul_comm b, Nat.mul_comm d, Nat.mul_add_mod, Nat.mul_add_mod, Nat.mod_eq_of_lt ha, Nat.mod_eq_of_lt hc] at m
  subst m
  refine ⟨rfl, ?_⟩
  have : b * w = d * w := by omega
  exact Nat.eq_of_mul_eq_mul_right (by omega) this
theorem inn_nat {w h a b : Nat} : inn w h a b = decide (a < w ∧ b < h) := by
  unfold inn
  exact decide_eq_decide.2 ⟨fun k => by omega, fun k => by omega⟩

section
variable {w h : Nat} (ww : 1 ≤ w) (w1 : w ≤ 64) (hh : 1 ≤ h) (h1 : h ≤ 64) {l : List (List Int)} (hl : l.length = w * h) {X Y : Nat} (hX : X < w) (hY : Y < h) (P : List Int)
include w1 h1 hl hX hY
theorem Eq6_ne {x y : Nat} (ne : ¬ (x = X ∧ y = Y)) : Eq6 w h l (l.set (ixp w X Y) P) x y = true := by
  refine (Eq6_iff w1 h1 hl (by rw [List.length_set]; exact hl) x y).2 fun j hj => ?_
  unfold px
  rw [inn_nat]
  by_cases k : x < w ∧ y < h
  · rw [decide_eq_true k]
    show rget l (ixp w x y) j = rget (l.set _ _) (ixp w x y) j
    rw [rget_lset_ne _ fun e => ne (ixp_inj w1 h1 k.1 k.2 hX hY e)]
  · rw [decide_eq_false k]; rfl
end

/-- Tile t, by its column and its row. -/
structure Tl (w h t r q : Nat) : Prop where
  e : t = (w + 7) / 8 * q + r
  r1 : r < (w + 7) / 8
  q1 : q < (h + 7) / 8
theorem tl_of {w h t : Nat} (ww : 1 ≤ w) (ht : t < (w + 7) / 8 * ((h + 7) / 8)) : Tl w h t (t % ((w + 7) / 8)) (t / ((w + 7) / 8)) :=
  ⟨(Nat.div_add_mod t _).symm, Nat.mod_lt _ (by omega), Nat.div_lt_of_lt_mul ht⟩
theorem tl_n {w h t r q : Nat} (T : Tl w h t r q) {a b : Nat} (ha : a < (w + 7) / 8) : t = (w + 7) / 8 * b + a ↔ r = a ∧ q = b := by
  have e := T.e
  have r1 := T.r1
  constructor
  · intro k
    rw [e] at k
    have m : ((w + 7) / 8 * q + r) % ((w + 7) / 8) = ((w + 7) / 8 * b + a) % ((w + 7) / 8) := by rw [k]
    rw [Nat.mul_add_mod, Nat.mul_add_mod, Nat.mod_eq_of_lt r1, Nat.mod_eq_of_lt ha] at m
    subst m
    have k' : (w + 7) / 8 * q = (w + 7) / 8 * b := by omega
    exact ⟨rfl, Nat.eq_of_mul_eq_mul_left (by omega) k'⟩
  · rintro ⟨rfl, rfl⟩; exact e

section
variable {w h : Nat} (ww : 1 ≤ w) (w1 : w ≤ 64) (hh : 1 ≤ h) (h1 : h ≤ 64) {t r q : Nat} (T : Tl w h t r q) (er : r = t % ((w + 7) / 8)) (eq : q = t / ((w + 7) / 8)) (ht : t < (w + 7) / 8 * ((h + 7) / 8))
include w1 h1 T er eq ht
theorem box_s0 : bBox_s0 (w : Int) (h : Int) (t : Int) = false := by
  unfold bBox_s0
  rw [gt_eq w1 h1, decide_eq_false (show ¬ (t : Int) < 0 by omega), decide_eq_false (show ¬ (((w + 7) / 8 * ((h + 7) / 8) : Nat) : Int) ≤ (t : Int) by omega)]; rfl
theorem box_s1 : bBox_s1 (w : Int) (t : Int) = ((r * 8 : Nat) : Int) := by
  have r1 := T.r1
  have e : ((t : Int) % (((w + 7) / 8 : Nat) : Int)) = (r : Int) := by rw [er]; exact (Int.natCast_emod t _).symm
  unfold bBox_s1
  rw [tiles_eq w1, Int.tmod_eq_emod_of_nonneg (by omega), e, w64_in (by omega) (by omega)]; omega
theorem box_s2 : bBox_s2 (w : Int) (t : Int) = ((q * 8 : Nat) : Int) := by
  have q1 := T.q1
  have e : ((t : Int) / (((w + 7) / 8 : Nat) : Int)) = (q : Int) := by rw [eq]; exact (Int.natCast_ediv t _).symm
  unfold bBox_s2
  rw [tiles_eq w1, Int.tdiv_eq_ediv_of_nonneg (by omega), e, w64_in (n := (q : Int)) (by omega) (by omega), w64_in (by omega) (by omega)]; omega
theorem box_0 : bBox_0 (w : Int) (h : Int) (t : Int) = ((r * 8 : Nat) : Int) := by
  unfold bBox_0
  rw [box_s0 w1 h1 T er eq ht, box_s1 w1 h1 T er eq ht]; rfl
theorem box_1 : bBox_1 (w : Int) (h : Int) (t : Int) = ((q * 8 : Nat) : Int) := by
  unfold bBox_1
  rw [box_s0 w1 h1 T er eq ht, box_s2 w1 h1 T er eq ht]; rfl
theorem box_2 : bBox_2 (w : Int) (h : Int) (t : Int) = ((min w (r * 8 + 8) : Nat) : Int) := by
  have r1 := T.r1
  unfold bBox_2 bBox_s3
  rw [box_s0 w1 h1 T er eq ht, box_s1 w1 h1 T er eq ht, w64_in (by omega) (by omega)]
  show (if (w : Int) < ((r * 8 : Nat) : Int) + 8 then (w : Int) else ((r * 8 : Nat) : Int) + 8) = _
  split <;> omega
theorem box_3 : bBox_3 (w : Int) (h : Int) (t : Int) = ((min h (q * 8 + 8) : Nat) : Int) := by
  have q1 := T.q1
  unfold bBox_3 bBox_s4
  rw [box_s0 w1 h1 T er eq ht, box_s2 w1 h1 T er eq ht, w64_in (by omega) (by omega)]
  show (if (h : Int) < ((q * 8 : Nat) : Int) + 8 then (h : Int) else ((q * 8 : Nat) : Int) + 8) = _
  split <;> omega
end

theorem row_dep {s : List (List Int)} (p : ∀ row ∈ s, RowFit [.int .u8, .int .u8, .int .u8, .int .u8, .int .u16, .int .u8] row) (i : Nat) : 0 ≤ rget s i 4 ∧ rget s i 4 ≤ 65535 := by
  unfold rget
  rw [List.getD_eq_getElem?_getD (l := s)]
  cases h : s[i]? with
  | none => exact ⟨by decide, by decide⟩
  | some row =>
    obtain ⟨a, b⟩ := p row (List.mem_of_getElem? h)
    have hr : row.length = 6 := a
    have e : row[4]? = some row[4] := List.getElem?_eq_getElem (by omega)
    obtain ⟨k1, k2⟩ : IntKind.min .u16 ≤ row[4] ∧ row[4] ≤ IntKind.max .u16 := b 4 (.int .u16) _ rfl e
    show 0 ≤ row.getD 4 0 ∧ row.getD 4 0 ≤ 65535
    rw [List.getD_eq_getElem?_getD, e]
    exact bd_u16 k1 k2
theorem row_col {s : List (List Int)} (p : ∀ row ∈ s, RowFit [.int .u8, .int .u8, .int .u8, .int .u8, .int .u16, .int .u8] row) (i j : Nat) (hj : j ≠ 4) : 0 ≤ rget s i j ∧ rget s i j ≤ 255 := by
  unfold rget
  rw [List.getD_eq_getElem?_getD (l := s)]
  cases h : s[i]? with
  | none => exact (show 0 ≤ ([] : List Int).getD j 0 ∧ ([] : List Int).getD j 0 ≤ 255 from ⟨by simp, by simp⟩)
  | some row =>
    obtain ⟨a, b⟩ := p row (List.mem_of_getElem? h)
    have hr : row.length = 6 := a
    show 0 ≤ row.getD j 0 ∧ row.getD j 0 ≤ 255
    rw [List.getD_eq_getElem?_getD]
    by_cases h6 : j < 6
    · have e : row[j]? = some row[j] := List.getElem?_eq_getElem (by omega)
      obtain ⟨k1, k2⟩ : IntKind.min .u8 ≤ row[j] ∧ row[j] ≤ IntKind.max .u8 := b j (.int .u8) _ (by match j, hj, h6 with | 0, _, _ => rfl | 1, _, _ => rfl | 2, _, _ => rfl | 3, _, _ => rfl | 5, _, _ => rfl) e
      rw [e]
      exact bd_u8 k1 k2
    · rw [List.getElem?_eq_none (by omega)]
      exact (show (0 : Int) ≤ 0 ∧ (0 : Int) ≤ 255 by decide)

theorem sm_0 {x : Int} (a : 0 ≤ x) (b : x ≤ 255) : 1 ≤ fSmF_s0 x ∧ fSmF_s0 x ≤ 20 := by
  unfold fSmF_s0
  rw [Int.tmod_eq_emod_of_nonneg a, w64_in (n := x % 20) (by omega) (by omega), w64_in (by omega) (by omega)]
  omega
theorem sm_1 {x : Int} (a : 0 ≤ x) (b : x ≤ 255) : 1 ≤ fSmF_s1 x ∧ fSmF_s1 x ≤ 20 := by
  unfold fSmF_s1
  rw [Int.tmod_eq_emod_of_nonneg a, w64_in (n := x % 20) (by omega) (by omega), w64_in (by omega) (by omega)]
  omega

theorem tm_nat {x : Int} {w : Nat} (a : 0 ≤ x) (b : x ≤ 255) (ww : 1 ≤ w) : Int.tmod (IntKind.wrap .i64 x) (w : Int) = ((x.toNat % w : Nat) : Int) := by
  rw [w64_in (by omega) (by omega), Int.tmod_eq_emod_of_nonneg a, Int.natCast_emod, Int.toNat_of_nonneg a]

section
variable {w h : Nat} (ww : 1 ≤ w) (w1 : w ≤ 64) (hh : 1 ≤ h) (h1 : h ≤ 64) {l : List (List Int)} (g : Gc w h l) {X Y : Nat} (hX : X < w) (hY : Y < h)
include w1 h1 hX hY
theorem n_eq : IntKind.wrap .i64 (IntKind.wrap .i64 (bTiles_0 (w : Int) * IntKind.wrap .i64 (Int.tdiv (Y : Int) 8)) + IntKind.wrap .i64 (Int.tdiv (X : Int) 8)) = (((w + 7) / 8 * (Y / 8) + X / 8 : Nat) : Int) := by
  have : (w + 7) / 8 * (Y / 8) ≤ 8 * 8 := Nat.mul_le_mul (tl_le w1) (by omega)
  have e1 : Int.tdiv (Y : Int) 8 = ((Y / 8 : Nat) : Int) := by rw [Int.tdiv_eq_ediv_of_nonneg (by omega)]; omega
  have e2 : Int.tdiv (X : Int) 8 = ((X / 8 : Nat) : Int) := by rw [Int.tdiv_eq_ediv_of_nonneg (by omega)]; omega
  rw [e1, e2, tiles_eq w1, w64_in (n := ((Y / 8 : Nat) : Int)) (by omega) (by omega), w64_in (n := ((X / 8 : Nat) : Int)) (by omega) (by omega), ← Int.natCast_mul, w64_in (n := (((w + 7) / 8 * (Y / 8) : Nat) : Int)) (by omega) (by omega), w64_in (by omega) (by omega)]
  omega
include g in
theorem set_in (p0 p1 p2 p3 p4 p5 : Int) : fSet_0 (w : Int) (h : Int) (X : Int) (Y : Int) p0 p1 p2 p3 p4 p5 (sClone_s0 l) = l.set (ixp w X Y) [p0, p1, p2, p3, p4, p5] := by
  show fSet_0 (w : Int) (h : Int) (X : Int) (Y : Int) p0 p1 p2 p3 p4 p5 l = _
  rw [set_eq w1 h1 g.1.1, inn_nat, decide_eq_true ⟨hX, hY⟩]; rfl
end

end Go.Proofs.Ytcdejlgophpdjaa
end

section
namespace Go.Proofs.Ytcdejlgophpdjaa
open Go Go.RowKit Go.Proofs.Ytcdejlgophpdjaa.V
set_option linter.unusedVariables false
set_option linter.unusedSectionVars false

namespace Crc
def poly : BitVec 32 := 0x04c11db7#32
def stp (s : BitVec 32) (d : Bool) : BitVec 32 := (s <<< 1) ^^^ (bif s.msb ^^ d then poly else 0#32)
def cst (n : BitVec 32) : BitVec 32 := bif n.msb then (n <<< 1) ^^^ poly else n <<< 1

theorem cst_stp (s m : BitVec 32) : cst (s ^^^ m) = stp s m.msb ^^^ (m <<< 1) := by
  unfold cst stp
  rw [BitVec.msb_xor]
  cases s.msb ^^ m.msb
  · simp [BitVec.shiftLeft_xor_distrib]
  · simp only [cond_true, BitVec.shiftLeft_xor_distrib]
    rw [BitVec.xor_assoc, BitVec.xor_assoc, BitVec.xor_comm (m <<< 1)]

def byteBits (c : Nat) : List Bool := [c.testBit 7, c.testBit 6, c.testBit 5, c.testBit 4, c.testBit 3, c.testBit 2, c.testBit 1, c.testBit 0]

theorem msb_at (c j : Nat) (h : j < 8) : ((BitVec.ofNat 32 c <<< 24) <<< j).msb = c.testBit (7 - j) := by
  rw [BitVec.msb_eq_getLsbD_last, BitVec.getLsbD_shiftLeft, BitVec.getLsbD_shiftLeft, BitVec.getLsbD_ofNat]
  match j, h with
  | 0, _ => simp
  | 1, _ => simp
  | 2, _ => simp
  | 3, _ => simp
  | 4, _ => simp
  | 5, _ => simp
  | 6, _ => simp
  | 7, _ => simp

def cstN (n : BitVec 32) : Nat → BitVec 32
  | 0 => n
  | k + 1 => cst (cstN n k)

theorem cst8 (s : BitVec 32) (c : Nat) : cstN (s ^^^ (BitVec.ofNat 32 c <<< 24)) 8 = (byteBits c).foldl stp s := by
  have e : ∀ j, (BitVec.ofNat 32 c <<< 24) <<< j = BitVec.ofNat 32 c <<< (24 + j) := fun j => by rw [BitVec.shiftLeft_add]
  have k : ∀ s' j, cst (s' ^^^ ((BitVec.ofNat 32 c <<< 24) <<< j)) = stp s' ((BitVec.ofNat 32 c <<< 24) <<< j).msb ^^^ ((BitVec.ofNat 32 c <<< 24) <<< (j + 1)) := fun s' j => by
    rw [cst_stp, BitVec.shiftLeft_add (BitVec.ofNat 32 c <<< 24) j 1]
  have h0 : (BitVec.ofNat 32 c <<< 24) = (BitVec.ofNat 32 c <<< 24) <<< 0 := by simp
  have z : (BitVec.ofNat 32 c <<< 24) <<< 8 = 0#32 := by
    rw [e]
    apply BitVec.eq_of_toNat_eq
    simp
  unfold cstN cstN cstN cstN cstN cstN cstN cstN cstN
  rw [h0, k, k, k, k, k, k, k, k, z, BitVec.xor_zero, msb_at c 0 (by omega), msb_at c 1 (by omega), msb_at c 2 (by omega), msb_at c 3 (by omega), msb_at c 4 (by omega), msb_at c 5 (by omega), msb_at c 6 (by omega), msb_at c 7 (by omega)]
  rfl

/-! The register's side. -/
def byt (l : List (List Int)) (i : Nat) : Nat := (rget l i 0).toNat
def bitsTo (l : List (List Int)) : Nat → List Bool
  | 0 => []
  | i + 1 => bitsTo l i ++ byteBits (byt l i)
def reg (l : List (List Int)) (i : Nat) : BitVec 32 := (bitsTo l i).foldl stp (BitVec.allOnes 32)
theorem reg_succ (l : List (List Int)) (i : Nat) : reg l (i + 1) = (byteBits (byt l i)).foldl stp (reg l i) := by
  unfold reg; rw [bitsTo, List.foldl_append]

theorem wu32 (n : Nat) : IntKind.wrap .u32 (n : Int) = ((n % 4294967296 : Nat) : Int) := by
  unfold IntKind.wrap
  simp only [IntKind.bits, IntKind.signed, Bool.false_and, Bool.false_eq_true, if_false]
  have : (2 : Int) ^ 32 = 4294967296 := by decide
  rw [this]; omega

theorem bv_dbl (x : BitVec 32) : IntKind.wrap .u32 ((x.toNat : Int) * 2 ^ min (Int.toNat 1) (IntKind.bits .u32)) = (((x <<< 1).toNat : Nat) : Int) := by
  have : (2 : Int) ^ min (Int.toNat 1) (IntKind.bits .u32) = 2 := by decide
  rw [this, show (x.toNat : Int) * 2 = ((x.toNat * 2 : Nat) : Int) by omega, wu32, BitVec.toNat_shiftLeft, Nat.shiftLeft_eq]

theorem bv_xor (x y : BitVec 32) : IntKind.wrap .u32 (Int.ofNat (Int.toNat ((x.toNat : Int) % Int.ofNat (2 ^ IntKind.bits .u32)) ^^^ Int.toNat ((y.toNat : Int) % Int.ofNat (2 ^ IntKind.bits .u32)))) = (((x ^^^ y).toNat : Nat) : Int) := by
  have e : Int.ofNat (2 ^ IntKind.bits .u32) = 4294967296 := by decide
  have hx := x.isLt
  have hy := y.isLt
  rw [e, show (x.toNat : Int) % 4294967296 = (x.toNat : Int) by omega, show (y.toNat : Int) % 4294967296 = (y.toNat : Int) by omega]
  show IntKind.wrap .u32 ((x.toNat ^^^ y.toNat : Nat) : Int) = _
  rw [wu32, ← BitVec.toNat_xor, Nat.mod_eq_of_lt (x ^^^ y).isLt]

theorem bv_msb (x : BitVec 32) : (Int.fdiv (x.toNat : Int) (2 ^ min (Int.toNat 31) (IntKind.bits .u32)) == 1) = x.msb := by
  have e : (2 : Int) ^ min (Int.toNat 31) (IntKind.bits .u32) = 2147483648 := by decide
  have hx := x.isLt
  rw [e, Int.fdiv_eq_ediv_of_nonneg _ (by omega), BitVec.msb_eq_decide]
  by_cases h : 2 ^ (32 - 1) ≤ x.toNat
  · rw [decide_eq_true h, show (x.toNat : Int) / 2147483648 = 1 by omega]; rfl
  · rw [decide_eq_false h, show (x.toNat : Int) / 2147483648 = 0 by omega]; rfl

def qS (c n i : Int) (l : List (List Int)) (x : BitVec 32) (k : Nat) : cSum_l14951_T := .mk 0 ((cstN x k).toNat : Int) c n i true (k : Int) l
theorem q_step (c n i : Int) (l : List (List Int)) (x : BitVec 32) (k : Nat) (hk : k < 8) : pick1 (cSum_l14951_st (qS c n i l x k)).2 = some (.n, qS c n i l x (k + 1)) := by
  have e0 : cSum_l14951_s0 (qS c n i l x k) = true := by
    unfold cSum_l14951_s0
    exact decide_eq_true (show (k : Int) < 8 by omega)
  have e1 : IntKind.wrap .i64 ((k : Int) + 1) = ((k + 1 : Nat) : Int) := by
    rw [w64_in (by omega) (by omega)]; omega
  have es : cSum_l14951_s1 (qS c n i l x k) = ((cstN x k <<< 1).toNat : Int) := by
    unfold cSum_l14951_s1
    exact bv_dbl (cstN x k)
  have e2 : (bif Int.fdiv (qS c n i l x k).a1 (2 ^ min (Int.toNat 31) (IntKind.bits .u32)) == 1 then IntKind.wrap .u32 (Int.ofNat (Int.toNat (cSum_l14951_s1 (qS c n i l x k) % cSum_l14951_s2) ^^^ Int.toNat (79764919 % cSum_l14951_s2))) else cSum_l14951_s1 (qS c n i l x k)) = ((cstN x (k + 1)).toNat : Int) := by
    rw [es]
    have hm : (Int.fdiv (qS c n i l x k).a1 (2 ^ min (Int.toNat 31) (IntKind.bits .u32)) == 1) = (cstN x k).msb := bv_msb _
    rw [hm]
    have hx : IntKind.wrap .u32 (Int.ofNat (Int.toNat (((cstN x k <<< 1).toNat : Int) % cSum_l14951_s2) ^^^ Int.toNat (79764919 % cSum_l14951_s2))) = (((cstN x k <<< 1) ^^^ poly).toNat : Int) := bv_xor (cstN x k <<< 1) poly
    rw [hx, cstN, cst]
    cases (cstN x k).msb <;> rfl
  unfold cSum_l14951_st
  rw [e0, e2]
  have : IntKind.wrap .i64 ((qS c n i l x k).a6 + 1) = ((k + 1 : Nat) : Int) := e1
  rw [this]; rfl
theorem q_end (c n i : Int) (l : List (List Int)) (x : BitVec 32) : pick1 (cSum_l14951_st (qS c n i l x 8)).2 = some (.e 2, qS c n i l x 8) := rfl
theorem q_run (c n i : Int) (l : List (List Int)) (x : BitVec 32) : lrun cSum_l14951_st 18446744073709551616 (qS c n i l x 0) = some (.e 2, qS c n i l x 8) :=
  lx_run (s := qS c n i l x) (q_step c n i l x) (q_end c n i l x) nofun (by omega)

def oS (l : List (List Int)) (i : Nat) : cSum_l29_T := .mk 0 ((reg l i).toNat : Int) (Int.ofNat l.length) (i : Int) l
theorem o_s2 {l : List (List Int)} (hb : ∀ i, 0 ≤ rget l i 0 ∧ rget l i 0 ≤ 255) (i : Nat) (hi : i < l.length) : cSum_l29_s2 (oS l i) = some (.e 2, qS (rget l i 0) (Int.ofNat l.length) (i : Int) l (reg l i ^^^ (BitVec.ofNat 32 (byt l i) <<< 24)) 8) := by
  have hb' := hb i
  have hB : (rget l i 0 : Int) = ((byt l i : Nat) : Int) := (Int.toNat_of_nonneg hb'.1).symm
  have h8 : byt l i ≤ 255 := by omega
  have e0 : cSum_l29_s0 (oS l i) = true := by
    unfold cSum_l29_s0
    exact decide_eq_true (Int.ofNat_lt.2 hi)
  have e1 : IntKind.wrap .u32 (IntKind.wrap .u32 (rget l i 0) * 2 ^ min (Int.toNat 24) (IntKind.bits .u32)) = (((BitVec.ofNat 32 (byt l i) <<< 24).toNat : Nat) : Int) := by
    have : (2 : Int) ^ min (Int.toNat 24) (IntKind.bits .u32) = 16777216 := by decide
    rw [this, hB, wu32, Nat.mod_eq_of_lt (by omega), show ((byt l i : Nat) : Int) * 16777216 = ((byt l i * 16777216 : Nat) : Int) by omega, wu32, BitVec.toNat_shiftLeft, BitVec.toNat_ofNat, Nat.shiftLeft_eq, Nat.mod_eq_of_lt (show byt l i < 2 ^ 32 by omega)]
  have e2 : IntKind.wrap .u32 (Int.ofNat (Int.toNat (((reg l i).toNat : Int) % cSum_l29_s1) ^^^ Int.toNat (IntKind.wrap .u32 (IntKind.wrap .u32 (rget l i 0) * 2 ^ min (Int.toNat 24) (IntKind.bits .u32)) % cSum_l29_s1))) = (((reg l i ^^^ (BitVec.ofNat 32 (byt l i) <<< 24)).toNat : Nat) : Int) := by
    rw [e1]; exact bv_xor _ _
  unfold cSum_l29_s2
  show lrun _ _ (cSum_l14951_T.mk 0 (IntKind.wrap .u32 (Int.ofNat (Int.toNat (((reg l i).toNat : Int) % cSum_l29_s1) ^^^ Int.toNat (IntKind.wrap .u32 (IntKind.wrap .u32 (rget l i 0) * 2 ^ min (Int.toNat 24) (IntKind.bits .u32)) % cSum_l29_s1)))) (rget l i 0) (Int.ofNat l.length) (i : Int) (cSum_l29_s0 (oS l i)) 0 l) = _
  rw [e2, e0]
  exact q_run _ _ _ _ _
theorem o_step {l : List (List Int)} (hb : ∀ i, 0 ≤ rget l i 0 ∧ rget l i 0 ≤ 255) (hL : l.length ≤ 100000) (i : Nat) (hi : i < l.length) : pick1 (cSum_l29_st (oS l i)).2 = some (.n, oS l (i + 1)) := by
  have e0 : cSum_l29_s0 (oS l i) = true := by
    unfold cSum_l29_s0
    exact decide_eq_true (Int.ofNat_lt.2 hi)
  have e1 : IntKind.wrap .i64 ((i : Int) + 1) = ((i + 1 : Nat) : Int) := by
    rw [w64_in (by omega) (by omega)]; omega
  unfold cSum_l29_st
  rw [e0, o_s2 hb i hi]
  show some (X.n, cSum_l29_T.mk 0 ((cstN (reg l i ^^^ (BitVec.ofNat 32 (byt l i) <<< 24)) 8).toNat : Int) (Int.ofNat l.length) (IntKind.wrap .i64 ((i : Int) + 1)) l) = _
  rw [e1, cst8, ← reg_succ]; rfl
theorem o_end (l : List (List Int)) : pick1 (cSum_l29_st (oS l l.length)).2 = some (.e 0, oS l l.length) := by
  have e0 : cSum_l29_s0 (oS l l.length) = false := by
    unfold cSum_l29_s0
    exact decide_eq_false (Int.lt_irrefl _)
  unfold cSum_l29_st
  rw [e0]; rfl
theorem cSum_eq {l : List (List Int)} (hb : ∀ i, 0 ≤ rget l i 0 ∧ rget l i 0 ≤ 255) (hL : l.length ≤ 100000) : cSum_0 l = (((BitVec.allOnes 32 ^^^ reg l l.length).toNat : Nat) : Int) := by
  have r : lrun cSum_l29_st 18446744073709551616 (cSum_l29_T.mk 0 4294967295 (Int.ofNat l.length) 0 l) = some (.e 0, oS l l.length) :=
    lx_run (s := oS l) (o_step hb hL) (o_end l) nofun (by omega)
  unfold cSum_0
  rw [r]
  exact bv_xor (BitVec.allOnes 32) (reg l l.length)

/-! The reference's side. -/
def Bi (b : Bool) : Int := bif b then 1 else 0
def raw (bs : List Bool) (j : Nat) : Bool := bs.getD j false
def regB (bs : List Bool) (i : Nat) : BitVec 32 := (bs.take i).foldl stp (BitVec.allOnes 32)
theorem regB_succ (bs : List Bool) {i : Nat} (hi : i < bs.length) : regB bs (i + 1) = stp (regB bs i) (raw bs i) := by
  unfold regB raw
  rw [List.take_succ_eq_append_getElem hi, List.foldl_append, List.getD_eq_getElem?_getD, List.getElem?_eq_getElem hi]; rfl

theorem regB_0 (bs : List Bool) : regB bs 0 = BitVec.allOnes 32 := by unfold regB; rw [List.take_zero, List.foldl_nil]

/-- The bits that are left, from place i on. -/
def Win (bs : List Bool) (L : List (List Int)) (i : Nat) (s : BitVec 32) : Prop := L.length = bs.length + 32 ∧ ∀ t, i + t < bs.length + 32 → rget L (i + t) 0 = Bi (s.getMsbD t ^^ raw bs (i + t))

def flip1 (L : List (List Int)) (p : Nat) : List (List Int) := L.set p [IntKind.wrap .u8 (1 - rget L p 0)]
def flips (L : List (List Int)) (i : Nat) (ts : List Nat) : List (List Int) := ts.foldl (fun L t => flip1 L (i + t)) L
theorem flip1_len (L : List (List Int)) (p : Nat) : (flip1 L p).length = L.length := List.length_set
theorem flips_len (i : Nat) : ∀ (ts : List Nat) (L : List (List Int)), (flips L i ts).length = L.length
  | [], L => rfl
  | t :: ts, L => by
    show (flips (flip1 L (i + t)) i ts).length = _
    rw [flips_len i ts, flip1_len]
theorem flips_get (i j : Nat) : ∀ (ts : List Nat) (L : List (List Int)), ts.Nodup → i + j < L.length → rget (flips L i ts) (i + j) 0 = if j ∈ ts then IntKind.wrap .u8 (1 - rget L (i + j) 0) else rget L (i + j) 0
  | [], L, _, _ => by simp [flips]
  | t :: ts, L, hn, hj => by
    rw [List.nodup_cons] at hn
    show rget (flips (flip1 L (i + t)) i ts) (i + j) 0 = _
    rw [flips_get i j ts _ hn.2 (by rw [flip1_len]; exact hj)]
    unfold flip1
    by_cases e : j = t
    · subst e
      rw [if_neg hn.1, rget_lset_eq _ hj, if_pos (by simp)]; rfl
    · rw [rget_lset_ne _ (show i + j ≠ i + t by omega)]
      simp [e]
theorem flip_B (b : Bool) : IntKind.wrap .u8 (1 - Bi b) = Bi (!b) := by cases b <;> rfl

def terms : List Nat := [0, 6, 9, 10, 16, 20, 21, 22, 24, 25, 27, 28, 30, 31, 32]
theorem poly_terms : ∀ t : Nat, t < 32 → poly.getMsbD t = decide (t + 1 ∈ terms) := by decide +kernel

theorem stp_get (s : BitVec 32) (d : Bool) (t : Nat) (ht : t < 32) : (stp s d).getMsbD t = (s.getMsbD (t + 1) ^^ ((s.msb ^^ d) && poly.getMsbD t)) := by
  unfold stp
  rw [BitVec.getMsbD_xor, BitVec.getMsbD_shiftLeft]
  cases s.msb ^^ d <;> simp

theorem win_step {bs : List Bool} {L : List (List Int)} {i : Nat} {s : BitVec 32} (w : Win bs L i s) (hi : i < bs.length) :
    rget L i 0 = Bi (s.msb ^^ raw bs i) ∧ ((s.msb ^^ raw bs i) = false → Win bs L (i + 1) (stp s (raw bs i))) ∧ ((s.msb ^^ raw bs i) = true → Win bs (flips L i terms) (i + 1) (stp s (raw bs i))) := by
  obtain ⟨hl, w⟩ := w
  have g32 : ∀ t, 32 ≤ t → s.getMsbD t = false := fun t h => by simp [BitVec.getMsbD]; omega
  have gst : ∀ t, 32 ≤ t → (stp s (raw bs i)).getMsbD t = false := fun t h => by simp [BitVec.getMsbD]; omega
  refine ⟨?_, fun h => ⟨hl, fun t ht => ?_⟩, fun h => ⟨by rw [flips_len]; exact hl, fun t ht => ?_⟩⟩
  · have := w 0 (by omega)
    rw [Nat.add_zero] at this
    rw [this]; rfl
  · have e := w (t + 1) (by omega)
    rw [show i + 1 + t = i + (t + 1) by omega, e]
    by_cases h32 : t < 32
    · rw [stp_get _ _ _ h32, h]; simp
    · rw [g32 _ (by omega), gst _ (by omega)]
  · have e := w (t + 1) (by omega)
    rw [show i + 1 + t = i + (t + 1) by omega, flips_get i (t + 1) terms L (by decide) (by rw [hl]; omega), e, flip_B]
    by_cases h32 : t < 32
    · rw [stp_get _ _ _ h32, h, poly_terms t h32]
      by_cases m : t + 1 ∈ terms
      · rw [if_pos m, decide_eq_true m]
        cases s.getMsbD (t + 1) <;> cases raw bs (i + (t + 1)) <;> rfl
      · rw [if_neg m, decide_eq_false m]; simp
    · rw [g32 _ (by omega), gst _ (by omega), if_neg]
      intro m
      have : ∀ x ∈ terms, x ≤ 32 := by decide
      have := this _ m
      omega

def rows (bs : List Bool) : List (List Int) := bs.map fun b => [Bi b]
theorem rows_len (bs : List Bool) : (rows bs).length = bs.length := by simp [rows]
theorem rows_get (bs : List Bool) (j : Nat) : rget (rows bs) j 0 = Bi (raw bs j) := by
  unfold rget rows raw
  rw [List.getD_eq_getElem?_getD (l := List.map _ _), List.getElem?_map, List.getD_eq_getElem?_getD (l := bs)]
  cases bs[j]? <;> rfl

/-- The first so many are turned. -/
def turn (L : List (List Int)) (k : Nat) : List (List Int) := (List.range k).foldl flip1 L
theorem turn_succ (L : List (List Int)) (k : Nat) : turn L (k + 1) = flip1 (turn L k) k := by
  unfold turn; rw [List.range_succ, List.foldl_append]; rfl
theorem turn_len (L : List (List Int)) : ∀ k, (turn L k).length = L.length
  | 0 => rfl
  | k + 1 => by rw [turn_succ, flip1_len, turn_len L k]
theorem turn_get (L : List (List Int)) (j : Nat) (hj : j < L.length) : ∀ k, rget (turn L k) j 0 = if j < k then IntKind.wrap .u8 (1 - rget L j 0) else rget L j 0
  | 0 => by simp [turn]
  | k + 1 => by
    rw [turn_succ]
    unfold flip1
    by_cases e : j = k
    · subst e
      rw [rget_lset_eq _ (by rw [turn_len]; exact hj), turn_get L j hj j, if_neg (by omega), if_pos (by omega)]; rfl
    · rw [rget_lset_ne _ e, turn_get L j hj k]
      by_cases h : j < k
      · rw [if_pos h, if_pos (by omega)]
      · rw [if_neg h, if_neg (by omega)]

theorem win_0 (bs : List Bool) : Win bs (turn (rows bs ++ List.replicate 32 [0]) 32) 0 (BitVec.allOnes 32) := by
  have hl : (rows bs ++ List.replicate 32 [0]).length = bs.length + 32 := by rw [List.length_append, rows_len, List.length_replicate]
  refine ⟨by rw [turn_len, hl], fun t ht => ?_⟩
  rw [Nat.zero_add] at ht ⊢
  have e : rget (rows bs ++ List.replicate 32 [0]) t 0 = Bi (raw bs t) := by
    by_cases h : t < bs.length
    · rw [← rows_get]
      unfold rget
      rw [List.getD_eq_getElem?_getD (l := rows bs ++ _), List.getElem?_append_left (by rw [rows_len]; exact h), List.getD_eq_getElem?_getD (l := rows bs)]
    · unfold rget raw
      rw [List.getD_eq_getElem?_getD (l := rows bs ++ _), List.getElem?_append_right (by rw [rows_len]; omega), List.getElem?_replicate, rows_len, if_pos (by omega), List.getD_eq_getElem?_getD (l := bs), List.getElem?_eq_none (by omega)]; rfl
  rw [turn_get _ _ (by rw [hl]; exact ht), e, flip_B]
  by_cases h : t < 32
  · rw [if_pos h]
    have : (BitVec.allOnes 32).getMsbD t = true := by
      have : ∀ t : Nat, t < 32 → (BitVec.allOnes 32).getMsbD t = true := by decide +kernel
      exact this t h
    rw [this]; simp
  · rw [if_neg h]
    have : (BitVec.allOnes 32).getMsbD t = false := by
      unfold BitVec.getMsbD
      rw [decide_eq_false h]; rfl
    rw [this]; simp

/-! The reference's loops. -/
def bI (l : List (List Int)) (i : Nat) (k : Nat) : rSum_l1865_T := .mk 0 (i : Int) (7 - (k : Int)) true l (rows (bitsTo l i ++ (byteBits (byt l i)).take k))
theorem bb_get (c k : Nat) (h : k < 8) : (byteBits c).take (k + 1) = (byteBits c).take k ++ [c.testBit (7 - k)] := by
  match k, h with
  | 0, _ => rfl
  | 1, _ => rfl
  | 2, _ => rfl
  | 3, _ => rfl
  | 4, _ => rfl
  | 5, _ => rfl
  | 6, _ => rfl
  | 7, _ => rfl
theorem bit_of (c k : Nat) (h : k < 8) : Int.tmod (Int.fdiv (c : Int) (2 ^ min (Int.toNat (7 - (k : Int))) (IntKind.bits .u8))) 2 = Bi (c.testBit (7 - k)) := by
  have e : (2 : Int) ^ min (Int.toNat (7 - (k : Int))) (IntKind.bits .u8) = ((2 ^ (7 - k) : Nat) : Int) := by
    have : min (Int.toNat (7 - (k : Int))) (IntKind.bits .u8) = 7 - k := by
      show min (Int.toNat (7 - (k : Int))) 8 = _
      omega
    rw [this, Int.natCast_pow]; rfl
  rw [e, Int.fdiv_eq_ediv_of_nonneg _ (Int.natCast_nonneg _), ← Int.natCast_ediv, Int.tmod_eq_emod_of_nonneg (Int.natCast_nonneg _), Nat.testBit_eq_decide_div_mod_eq]
  have : c / 2 ^ (7 - k) % 2 < 2 := Nat.mod_lt _ (by omega)
  by_cases h1 : c / 2 ^ (7 - k) % 2 = 1
  · rw [decide_eq_true h1]
    show _ = (1 : Int)
    omega
  · rw [decide_eq_false h1]
    show _ = (0 : Int)
    omega
theorem bitsTo_len (l : List (List Int)) : ∀ i, (bitsTo l i).length = 8 * i
  | 0 => rfl
  | i + 1 => by rw [bitsTo, List.length_append, bitsTo_len l i]; rfl

section
variable {l : List (List Int)} (hb : ∀ i, 0 ≤ rget l i 0 ∧ rget l i 0 ≤ 255) (hL : l.length ≤ 100000)
theorem b_s0 (i k : Nat) : rSum_l1865_s0 (bI l i k) = decide (k < 8) := by
  unfold rSum_l1865_s0
  exact decide_eq_decide.2 (show (0 : Int) ≤ 7 - (k : Int) ↔ k < 8 by omega)
include hb in
theorem b_s1 (i k : Nat) (hk : k < 8) : rSum_l1865_s1 (bI l i k) = rows (bitsTo l i ++ (byteBits (byt l i)).take (k + 1)) := by
  unfold rSum_l1865_s1
  show rows (bitsTo l i ++ (byteBits (byt l i)).take k) ++ [[Int.tmod (Int.fdiv (rget l ((i : Int)).toNat 0) (2 ^ min (Int.toNat (7 - (k : Int))) (IntKind.bits .u8))) 2]] = _
  have hB : (rget l i 0 : Int) = ((byt l i : Nat) : Int) := (Int.toNat_of_nonneg (hb i).1).symm
  rw [Int.toNat_natCast, hB, bit_of _ _ hk, bb_get _ _ hk]
  unfold rows
  simp
include hb in
theorem b_step (i k : Nat) (hk : k < 8) : pick1 (rSum_l1865_st (bI l i k)).2 = some (.n, bI l i (k + 1)) := by
  unfold rSum_l1865_st
  rw [b_s0, decide_eq_true hk, b_s1 hb i k hk]
  have e : IntKind.wrap .i64 ((bI l i k).a2 - 1) = 7 - ((k + 1 : Nat) : Int) := by
    show IntKind.wrap .i64 (7 - (k : Int) - 1) = _
    rw [w64_in (by omega) (by omega)]; omega
  rw [e]; rfl
theorem b_end (i : Nat) : pick1 (rSum_l1865_st (bI l i 8)).2 = some (.e 2, bI l i 8) := by
  unfold rSum_l1865_st
  rw [b_s0]; rfl
include hb hL in
theorem b_obs (i : Nat) (hi : i < l.length) (k : Nat) : Alls (rSum_l1865_st (bI l i k)).1 := by
  unfold rSum_l1865_st
  rw [b_s0]
  refine ⟨fun _ => ⟨Int.natCast_nonneg i, Int.ofNat_lt.2 hi⟩, fun g => ?_, fun g => ?_, trivial⟩
  · have := of_decide_eq_true g
    show (0 : Int) ≤ 7 - (k : Int)
    omega
  · have := of_decide_eq_true g
    rw [b_s1 hb i k this, rows_len, List.length_append, bitsTo_len]
    have : ((byteBits (byt l i)).take (k + 1)).length ≤ 8 := by rw [List.length_take]; exact Nat.min_le_right _ _
    omega

def dS (l : List (List Int)) (i : Nat) : rSum_l29_T := .mk 0 (i : Int) l (rows (bitsTo l i))
theorem d_s0 (i : Nat) : rSum_l29_s0 (dS l i) = decide (i < l.length) := by
  unfold rSum_l29_s0
  exact decide_eq_decide.2 Int.ofNat_lt
theorem b_zero (i : Nat) (hi : i < l.length) : rSum_l1865_T.mk (dS l i).a0 (dS l i).a1 7 (rSum_l29_s0 (dS l i)) (dS l i).a2 (dS l i).a3 = bI l i 0 := by
  rw [d_s0, decide_eq_true hi]
  unfold bI dS
  simp
include hb in
theorem d_s1 (i : Nat) (hi : i < l.length) : rSum_l29_s1 (dS l i) = some (.e 2, bI l i 8) := by
  unfold rSum_l29_s1
  rw [b_zero i hi]
  exact lx_run (s := bI l i) (b_step hb i) (b_end i) nofun (by omega)
include hb hL in
theorem d_step (i : Nat) (hi : i < l.length) : pick1 (rSum_l29_st (dS l i)).2 = some (.n, dS l (i + 1)) := by
  unfold rSum_l29_st
  rw [d_s1 hb i hi, d_s0, decide_eq_true hi]
  have e : IntKind.wrap .i64 ((bI l i 8).a1 + 1) = ((i + 1 : Nat) : Int) := by
    show IntKind.wrap .i64 ((i : Int) + 1) = _
    rw [w64_in (by omega) (by omega)]; omega
  show some (X.n, rSum_l29_T.mk 0 (IntKind.wrap .i64 ((bI l i 8).a1 + 1)) l (rows (bitsTo l i ++ (byteBits (byt l i)).take 8))) = _
  rw [e]; rfl
theorem d_end : pick1 (rSum_l29_st (dS l l.length)).2 = some (.e 0, dS l l.length) := by
  unfold rSum_l29_st
  rw [d_s0, decide_eq_false (Nat.lt_irrefl _)]; rfl
include hb hL in
theorem d_obs (i : Nat) : Alls (rSum_l29_st (dS l i)).1 := by
  unfold rSum_l29_st
  refine ⟨fun g => ?_, trivial⟩
  rw [d_s0] at g
  have hi := of_decide_eq_true g
  rw [b_zero i hi]
  exact lx_lok (s := bI l i) (b_step hb i) (b_end i) nofun (fun k _ => b_obs hb hL i hi k) (by omega)
include hb hL in
theorem d_run : rSum_s0 l = some (.e 0, dS l l.length) := by
  unfold rSum_s0
  exact lx_run (s := dS l) (d_step hb hL) d_end nofun (by omega)
include hb hL in
theorem d_lok : lok rSum_l29_st 18446744073709551616 (.mk 0 0 l []) :=
  lx_lok (s := dS l) (d_step hb hL) d_end nofun (fun i _ => d_obs hb hL i) (by omega)
end

/-! .. over bits. -/
section
variable {bs : List Bool} (hN : bs.length ≤ 1000000)
def R0 (bs : List Bool) : List (List Int) := rows bs ++ List.replicate 32 [0]
theorem R0_len : (R0 bs).length = bs.length + 32 := by unfold R0; rw [List.length_append, rows_len, List.length_replicate]
def fS (bs : List Bool) (i : Nat) : rSum_l125_T12 := .mk 0 (i : Int) (turn (R0 bs) i)
theorem fS_a2 (i : Nat) : rSum_l125_T12.a2 (V.valOf (some (X.e 4, fS bs i))) = turn (R0 bs) i := rfl
theorem f_s0 (i : Nat) : rSum_l125_s0 (fS bs i) = decide (i < 32) := by
  unfold rSum_l125_s0
  exact decide_eq_decide.2 (show (i : Int) < 32 ↔ i < 32 by omega)
theorem f_step (i : Nat) (hi : i < 32) : pick1 (rSum_l125_st (fS bs i)).2 = some (.n, fS bs (i + 1)) := by
  unfold rSum_l125_st
  rw [f_s0, decide_eq_true hi]
  have e : IntKind.wrap .i64 ((fS bs i).a1 + 1) = ((i + 1 : Nat) : Int) := by
    show IntKind.wrap .i64 ((i : Int) + 1) = _
    rw [w64_in (by omega) (by omega)]; omega
  rw [e]
  show some (X.n, rSum_l125_T12.mk 0 ((i + 1 : Nat) : Int) (flip1 (turn (R0 bs) i) i)) = _
  rw [← turn_succ]; rfl
theorem f_end : pick1 (rSum_l125_st (fS bs 32)).2 = some (.e 4, fS bs 32) := by
  have : ∀ L : List (List Int), pick1 (rSum_l125_st (.mk 0 ((32 : Nat) : Int) L)).2 = some (.e 4, .mk 0 ((32 : Nat) : Int) L) := fun L => rfl
  exact this _
theorem f_obs (i : Nat) : Alls (rSum_l125_st (fS bs i)).1 := by
  have hl : (fS bs i).a2.length = bs.length + 32 := by
    show (turn _ _).length = _
    rw [turn_len, R0_len]
  have k : rSum_l125_s0 (fS bs i) = true → (0 : Int) ≤ (fS bs i).a1 ∧ (fS bs i).a1 < Int.ofNat (fS bs i).a2.length := fun g => by
    rw [f_s0] at g
    have hi := of_decide_eq_true g
    rw [hl]
    exact ⟨Int.natCast_nonneg i, Int.ofNat_lt.2 (by omega)⟩
  exact ⟨k, k, trivial⟩
theorem f_run : lrun rSum_l125_st 18446744073709551616 (.mk 0 0 (R0 bs)) = some (.e 4, fS bs 32) :=
  lx_run (s := fS bs) f_step f_end nofun (by omega)
theorem f_lok : lok rSum_l125_st 18446744073709551616 (.mk 0 0 (R0 bs)) :=
  lx_lok (s := fS bs) f_step f_end nofun (fun i _ => f_obs i) (by omega)

def tR : List (List Int) := [[0], [6], [9], [10], [16], [20], [21], [22], [24], [25], [27], [28], [30], [31], [32]]
def gS (L : List (List Int)) (i k : Nat) : rSum_l130341_T10 := .mk 0 (i : Int) (k : Int) true true (flips L i (terms.take k)) tR
theorem tR_get : ∀ k : Nat, k < 15 → rget tR k 0 = ((terms.getD k 0 : Nat) : Int) := by decide
theorem terms_le : ∀ k : Nat, k < 15 → terms.getD k 0 ≤ 32 := by decide
theorem terms_take : ∀ k : Nat, k < 15 → terms.take (k + 1) = terms.take k ++ [terms.getD k 0] := by decide
theorem g_s0 (L : List (List Int)) (i k : Nat) : rSum_l130341_s0 (gS L i k) = decide (k < 15) := by
  unfold rSum_l130341_s0
  exact decide_eq_decide.2 (show (k : Int) < Int.ofNat tR.length ↔ k < 15 from Int.ofNat_lt)
theorem g_s1 {L : List (List Int)} {i k : Nat} (hi : i ≤ 1000000) (hk : k < 15) : rSum_l130341_s1 (gS L i k) = ((i + terms.getD k 0 : Nat) : Int) := by
  unfold rSum_l130341_s1
  show IntKind.wrap .i64 ((i : Int) + rget tR ((k : Int)).toNat 0) = _
  have := terms_le k hk
  rw [Int.toNat_natCast, tR_get k hk, w64_in (by omega) (by omega)]; omega
theorem g_step {L : List (List Int)} {i : Nat} (hi : i ≤ 1000000) (k : Nat) (hk : k < 15) : pick1 (rSum_l130341_st (gS L i k)).2 = some (.n, gS L i (k + 1)) := by
  unfold rSum_l130341_st
  rw [g_s0, decide_eq_true hk, g_s1 hi hk]
  have e : IntKind.wrap .i64 ((gS L i k).a2 + 1) = ((k + 1 : Nat) : Int) := by
    show IntKind.wrap .i64 ((k : Int) + 1) = _
    rw [w64_in (by omega) (by omega)]; omega
  rw [e, Int.toNat_natCast]
  show some (X.n, rSum_l130341_T10.mk 0 (i : Int) ((k + 1 : Nat) : Int) true true (flip1 (flips L i (terms.take k)) (i + terms.getD k 0)) tR) = _
  have : flip1 (flips L i (terms.take k)) (i + terms.getD k 0) = flips L i (terms.take (k + 1)) := by
    rw [terms_take k hk]
    unfold flips
    rw [List.foldl_append]; rfl
  rw [this]; rfl
theorem g_end (L : List (List Int)) (i : Nat) : pick1 (rSum_l130341_st (gS L i 15)).2 = some (.e 8, gS L i 15) := by
  unfold rSum_l130341_st
  rw [g_s0]; rfl
theorem g_obs {L : List (List Int)} {i : Nat} (hi : i ≤ 1000000) (hL : i + 32 < L.length) (k : Nat) : Alls (rSum_l130341_st (gS L i k)).1 := by
  have hl : (gS L i k).a5.length = L.length := flips_len _ _ _
  have a : rSum_l130341_s0 (gS L i k) = true → (0 : Int) ≤ (gS L i k).a2 ∧ (gS L i k).a2 < Int.ofNat (gS L i k).a6.length := fun g => by
    rw [g_s0] at g
    exact ⟨Int.natCast_nonneg k, Int.ofNat_lt.2 (of_decide_eq_true g)⟩
  have b : rSum_l130341_s0 (gS L i k) = true → (0 : Int) ≤ rSum_l130341_s1 (gS L i k) ∧ rSum_l130341_s1 (gS L i k) < Int.ofNat (gS L i k).a5.length := fun g => by
    rw [g_s0] at g
    have hk := of_decide_eq_true g
    have := terms_le k hk
    rw [g_s1 hi hk, hl]
    exact ⟨Int.natCast_nonneg _, Int.ofNat_lt.2 (by omega)⟩
  exact ⟨a, a, b, b, trivial⟩

def hI (bs : List Bool) (i : Nat) (v : rSum_l509_T9) : Prop := ∃ L, Win bs L i (regB bs i) ∧ v = .mk 0 (i : Int) L tR
include hN in
theorem h_run {v : rSum_l509_T9} (hv : hI bs 0 v) : (∃ v', lrun rSum_l509_st 18446744073709551616 v = some (.e 6, v') ∧ hI bs bs.length v') ∧ lok rSum_l509_st 18446744073709551616 v := by
  have s1 : ∀ (i : Nat) (L : List (List Int)), i ≤ bs.length → L.length = bs.length + 32 → rSum_l509_s1 (.mk 0 (i : Int) L tR) = decide (i < bs.length) := fun i L hi hl => by
    unfold rSum_l509_s1 rSum_l509_s0
    show decide (IntKind.wrap .i64 ((i : Int) + 32) < Int.ofNat L.length) = _
    rw [w64_in (by omega) (by omega), hl]
    refine decide_eq_decide.2 ?_
    show (i : Int) + 32 < ((bs.length + 32 : Nat) : Int) ↔ _
    omega
  have s3 : ∀ (i : Nat) (L : List (List Int)), i < bs.length → L.length = bs.length + 32 → rSum_l509_s2 (.mk 0 (i : Int) L tR) = true → rSum_l130341_T10.mk 0 (i : Int) 0 (rSum_l509_s1 (.mk 0 (i : Int) L tR)) (rSum_l509_s2 (.mk 0 (i : Int) L tR)) L tR = gS L i 0 := fun i L hi hl h2 => by
    rw [s1 i L (by omega) hl, decide_eq_true hi, h2]; rfl
  refine inv_run (I := hI bs) (x := .e 6) (n := bs.length) nofun ?_ ?_ ?_ bs.length 0 v (by omega) hv _ (by omega)
  · rintro i v hi ⟨L, hw, rfl⟩
    obtain ⟨e, no, yes⟩ := win_step hw hi
    have e2 : rSum_l509_s2 (.mk 0 (i : Int) L tR) = ((regB bs i).msb ^^ raw bs i) := by
      unfold rSum_l509_s2
      show (rget L ((i : Int)).toNat 0 == 1) = _
      rw [Int.toNat_natCast, e]
      cases ((regB bs i).msb ^^ raw bs i) <;> rfl
    have e1 : IntKind.wrap .i64 ((i : Int) + 1) = ((i + 1 : Nat) : Int) := by
      rw [w64_in (by omega) (by omega)]; omega
    cases hc : ((regB bs i).msb ^^ raw bs i)
    · rw [hc] at e2
      unfold rSum_l509_st
      rw [s1 i L (by omega) hw.1, decide_eq_true hi, e2]
      refine ⟨_, rfl, L, ?_, ?_⟩
      · rw [regB_succ bs hi]; exact no hc
      · rw [← e1]; rfl
    · rw [hc] at e2
      have r : rSum_l509_s3 (.mk 0 (i : Int) L tR) = some (.e 8, gS L i 15) := by
        unfold rSum_l509_s3
        show lrun _ _ (rSum_l130341_T10.mk 0 (i : Int) 0 (rSum_l509_s1 (.mk 0 (i : Int) L tR)) (rSum_l509_s2 (.mk 0 (i : Int) L tR)) L tR) = _
        rw [s3 i L hi hw.1 e2]
        exact lx_run (s := gS L i) (g_step (by omega)) (g_end L i) nofun (by omega)
      unfold rSum_l509_st
      rw [s1 i L (by omega) hw.1, decide_eq_true hi, e2, r]
      refine ⟨_, rfl, flips L i terms, ?_, ?_⟩
      · rw [regB_succ bs hi]; exact yes hc
      · rw [← e1]; rfl
  · rintro v ⟨L, hw, rfl⟩
    unfold rSum_l509_st
    rw [s1 _ L (by omega) hw.1, decide_eq_false (Nat.lt_irrefl _)]; rfl
  · rintro i v hi ⟨L, hw, rfl⟩
    unfold rSum_l509_st
    rw [s1 i L hi hw.1]
    refine ⟨fun g => ?_, fun g g2 => ?_, trivial⟩
    · have := of_decide_eq_true g
      exact ⟨Int.natCast_nonneg i, Int.ofNat_lt.2 (by show i < L.length; rw [hw.1]; omega)⟩
    · have hi' := of_decide_eq_true g
      show lok _ _ (rSum_l130341_T10.mk 0 (i : Int) 0 (decide (i < bs.length)) (rSum_l509_s2 (.mk 0 (i : Int) L tR)) L tR)
      rw [← s1 i L hi hw.1, s3 i L hi' hw.1 g2]
      exact lx_lok (s := gS L i) (g_step (by omega)) (g_end L i) nofun (fun k _ => g_obs (by omega) (by rw [hw.1]; omega) k) (by omega)

theorem xbit (s : BitVec 32) (t : Nat) (ht : t < 32) : ((BitVec.allOnes 32 ^^^ s).toNat >>> (32 - (t + 1))) % 2 = (bif !s.getMsbD t then 1 else 0) := by
  have h : (BitVec.allOnes 32 ^^^ s).toNat.testBit (31 - t) = !s.getMsbD t := by
    have : (BitVec.allOnes 32 ^^^ s).getLsbD (31 - t) = !s.getMsbD t := by
      rw [BitVec.getLsbD_xor, BitVec.getLsbD_allOnes, BitVec.getMsbD]
      rw [show decide (31 - t < 32) = true from decide_eq_true (by omega), decide_eq_true ht, show 32 - 1 - t = 31 - t from rfl]; simp
    exact this
  rw [show 32 - (t + 1) = 31 - t by omega, Nat.shiftRight_eq_div_pow]
  rw [Nat.testBit_eq_decide_div_mod_eq] at h
  rw [← h]
  have := Nat.mod_lt ((BitVec.allOnes 32 ^^^ s).toNat / 2 ^ (31 - t)) (show 2 > 0 by omega)
  by_cases g : (BitVec.allOnes 32 ^^^ s).toNat / 2 ^ (31 - t) % 2 = 1
  · rw [decide_eq_true g, g]; rfl
  · rw [decide_eq_false g]
    show _ = 0
    omega

/-- The number out of the last 32 bits. -/
def zS (bs : List Bool) (L : List (List Int)) (x : BitVec 32) (t : Nat) : rSum_l2045_T4 := .mk 0 ((x >>> (32 - t)).toNat : Int) ((bs.length + t : Nat) : Int) L
include hN in
theorem z_run {L : List (List Int)} (hw : Win bs L bs.length (regB bs bs.length)) : lrun rSum_l2045_st 18446744073709551616 (.mk 0 0 (bs.length : Int) L) = some (.e 10, zS bs L (BitVec.allOnes 32 ^^^ regB bs bs.length) 32) ∧ lok rSum_l2045_st 18446744073709551616 (.mk 0 0 (bs.length : Int) L) := by
  generalize hs : regB bs bs.length = s at hw
  obtain ⟨hl, hw⟩ := hw
  have s0 : ∀ t, rSum_l2045_s0 (zS bs L (BitVec.allOnes 32 ^^^ s) t) = decide (t < 32) := fun t => by
    unfold rSum_l2045_s0
    refine decide_eq_decide.2 ?_
    show ((bs.length + t : Nat) : Int) < Int.ofNat L.length ↔ _
    rw [hl]
    show ((bs.length + t : Nat) : Int) < ((bs.length + 32 : Nat) : Int) ↔ _
    omega
  have bit : ∀ t, t < 32 → IntKind.wrap .u8 (1 - rget L (bs.length + t) 0) = Bi (!s.getMsbD t) := fun t ht => by
    rw [hw t (by omega)]
    have : raw bs (bs.length + t) = false := by
      unfold raw
      rw [List.getD_eq_getElem?_getD, List.getElem?_eq_none (by omega)]; rfl
    rw [this, Bool.xor_false, flip_B]
  have st : ∀ t, t < 32 → pick1 (rSum_l2045_st (zS bs L (BitVec.allOnes 32 ^^^ s) t)).2 = some (.n, zS bs L (BitVec.allOnes 32 ^^^ s) (t + 1)) := fun t ht => by
    unfold rSum_l2045_st
    rw [s0, decide_eq_true ht]
    have e1 : IntKind.wrap .i64 (((bs.length + t : Nat) : Int) + 1) = ((bs.length + (t + 1) : Nat) : Int) := by
      rw [w64_in (by omega) (by omega)]; omega
    have hx : ((BitVec.allOnes 32 ^^^ s) >>> (32 - t)).toNat < 2147483648 := by
      rw [BitVec.toNat_ushiftRight, Nat.shiftRight_eq_div_pow]
      have := (BitVec.allOnes 32 ^^^ s).isLt
      have h2 : (2 : Nat) ^ 32 = 2 ^ (32 - t) * 2 ^ t := by rw [← Nat.pow_add]; congr 1; omega
      have h3 : (BitVec.allOnes 32 ^^^ s).toNat / 2 ^ (32 - t) < 2 ^ t := Nat.div_lt_of_lt_mul (by omega)
      have h4 : (2 : Nat) ^ t ≤ 2 ^ 31 := Nat.pow_le_pow_right (by omega) (by omega)
      omega
    have e2 : ((BitVec.allOnes 32 ^^^ s) >>> (32 - (t + 1))).toNat = ((BitVec.allOnes 32 ^^^ s) >>> (32 - t)).toNat * 2 + (bif !s.getMsbD t then 1 else 0) := by
      rw [BitVec.toNat_ushiftRight, BitVec.toNat_ushiftRight, show 32 - t = (32 - (t + 1)) + 1 by omega, Nat.shiftRight_succ]
      have : (BitVec.allOnes 32 ^^^ s).toNat >>> (32 - (t + 1)) % 2 = (bif !s.getMsbD t then 1 else 0) := by
        exact xbit s t ht
      omega
    have e3 : IntKind.wrap .u32 (IntKind.wrap .u32 ((((BitVec.allOnes 32 ^^^ s) >>> (32 - t)).toNat : Int) * 2) + IntKind.wrap .u32 (IntKind.wrap .u8 (1 - rget L (((bs.length + t : Nat) : Int)).toNat 0))) = (((BitVec.allOnes 32 ^^^ s) >>> (32 - (t + 1))).toNat : Int) := by
      rw [Int.toNat_natCast, bit t ht, e2]
      generalize ((BitVec.allOnes 32 ^^^ s) >>> (32 - t)).toNat = y at hx
      rw [show (y : Int) * 2 = ((y * 2 : Nat) : Int) by omega, wu32]
      cases s.getMsbD t
      · show IntKind.wrap .u32 (_ + IntKind.wrap .u32 ((1 : Nat) : Int)) = _
        rw [wu32, ← Int.natCast_add, wu32]
        simp only [Bool.not_false, cond_true]; omega
      · show IntKind.wrap .u32 (_ + IntKind.wrap .u32 ((0 : Nat) : Int)) = _
        rw [wu32, ← Int.natCast_add, wu32]
        simp only [Bool.not_true, cond_false]; omega
    show some (X.n, rSum_l2045_T4.mk 0 (IntKind.wrap .u32 (IntKind.wrap .u32 ((((BitVec.allOnes 32 ^^^ s) >>> (32 - t)).toNat : Int) * 2) + IntKind.wrap .u32 (IntKind.wrap .u8 (1 - rget L (((bs.length + t : Nat) : Int)).toNat 0)))) (IntKind.wrap .i64 (((bs.length + t : Nat) : Int) + 1)) L) = _
    rw [e1, e3]; rfl
  have en : pick1 (rSum_l2045_st (zS bs L (BitVec.allOnes 32 ^^^ s) 32)).2 = some (.e 10, zS bs L (BitVec.allOnes 32 ^^^ s) 32) := by
    unfold rSum_l2045_st
    rw [s0]; rfl
  have ob : ∀ t, Alls (rSum_l2045_st (zS bs L (BitVec.allOnes 32 ^^^ s) t)).1 := fun t => by
    unfold rSum_l2045_st
    refine ⟨fun g => ?_, trivial⟩
    rw [s0] at g
    have := of_decide_eq_true g
    exact ⟨Int.natCast_nonneg _, Int.ofNat_lt.2 (by show bs.length + t < L.length; omega)⟩
  have z0 : rSum_l2045_T4.mk 0 0 (bs.length : Int) L = zS bs L (BitVec.allOnes 32 ^^^ s) 0 := by
    unfold zS
    have : ((BitVec.allOnes 32 ^^^ s) >>> (32 - 0)).toNat = 0 := by
      rw [BitVec.toNat_ushiftRight, Nat.shiftRight_eq_div_pow]
      exact Nat.div_eq_of_lt (BitVec.allOnes 32 ^^^ s).isLt
    rw [this]; rfl
  rw [z0]
  exact ⟨lx_run (s := zS bs L _) st en nofun (by omega), lx_lok (s := zS bs L _) st en nofun (fun t _ => ob t) (by omega)⟩
end

theorem bitsTo_reg (l : List (List Int)) : regB (bitsTo l l.length) (bitsTo l l.length).length = reg l l.length := by
  unfold regB reg; rw [List.take_length]

section
variable {l : List (List Int)} (hb : ∀ i, 0 ≤ rget l i 0 ∧ rget l i 0 ≤ 255) (hL : l.length ≤ 100000)
include hb hL
theorem r_s1 : rSum_s1 l = R0 (bitsTo l l.length) := by
  unfold rSum_s1
  rw [d_run hb hL]; rfl
theorem r_s2 : rSum_s2 l = some (.e 4, fS (bitsTo l l.length) 32) := by
  unfold rSum_s2
  rw [r_s1 hb hL, d_run hb hL]
  exact f_run
theorem r_a2 : rSum_l125_T12.a2 (V.valOf (rSum_s2 l)) = turn (R0 (bitsTo l l.length)) 32 := by rw [r_s2 hb hL]; exact fS_a2 32
theorem r_a0 : rSum_l125_T12.a0 (V.valOf (rSum_s2 l)) = 0 := by rw [r_s2 hb hL]; rfl
theorem r_s3 : ∃ L, rSum_s3 l = some (.e 6, .mk 0 ((bitsTo l l.length).length : Int) L tR) ∧ Win (bitsTo l l.length) L (bitsTo l l.length).length (reg l l.length) ∧ lok rSum_l509_st 18446744073709551616 (.mk (rSum_l125_T12.a0 (V.valOf (rSum_s2 l))) 0 (rSum_l125_T12.a2 (V.valOf (rSum_s2 l))) tR) := by
  have hN : (bitsTo l l.length).length ≤ 1000000 := by rw [bitsTo_len]; omega
  have W0 := win_0 (bitsTo l l.length)
  rw [← regB_0 (bitsTo l l.length)] at W0
  have e3 : rSum_s3 l = lrun rSum_l509_st 18446744073709551616 (.mk (rSum_l125_T12.a0 (V.valOf (rSum_s2 l))) 0 (rSum_l125_T12.a2 (V.valOf (rSum_s2 l))) tR) := rfl
  rw [e3, r_a2 hb hL, r_a0 hb hL]
  clear e3
  unfold R0
  generalize turn (rows (bitsTo l l.length) ++ List.replicate 32 [0]) 32 = L0 at W0 ⊢
  have hv : hI (bitsTo l l.length) 0 (.mk 0 0 L0 tR) := Exists.intro L0 (And.intro W0 rfl)
  have H := h_run (bs := bitsTo l l.length) hN hv
  have k := H.2
  obtain ⟨v', r, Hv⟩ := H.1
  unfold hI at Hv
  obtain ⟨L, w, e⟩ := Hv
  rw [e] at r
  rw [bitsTo_reg] at w
  exact Exists.intro L (And.intro r (And.intro w k))
theorem rSum_all (r0 : Bool) : rSum_0 l = cSum_0 l ∧ Alls (rSum_o r0 l) := by
  obtain ⟨L, e3, w, k3⟩ := r_s3 hb hL
  have hN : (bitsTo l l.length).length ≤ 1000000 := by rw [bitsTo_len]; omega
  rw [← bitsTo_reg] at w
  obtain ⟨z, zk⟩ := z_run hN w
  have hW : IntKind.wrap .i64 (Int.ofNat L.length - 32) = ((bitsTo l l.length).length : Int) := by
    rw [w.1]
    show IntKind.wrap .i64 (((bitsTo l l.length).length + 32 : Nat) - (32 : Int)) = _
    rw [w64_in (by omega) (by omega)]; omega
  refine ⟨?_, ?_⟩
  · unfold rSum_0
    rw [e3]
    show rSum_l2045_T4.a1 (V.valOf (lrun rSum_l2045_st 18446744073709551616 (.mk 0 0 (IntKind.wrap .i64 (Int.ofNat L.length - 32)) L))) = _
    rw [hW, z, cSum_eq hb hL, bitsTo_reg]
    show (((BitVec.allOnes 32 ^^^ reg l l.length) >>> (32 - 32)).toNat : Int) = _
    simp
  · refine ⟨d_lok hb hL, fun _ => by decide, fun _ => ?_, fun _ => ?_, fun _ _ => k3, fun _ _ _ => ?_, trivial⟩
    · rw [r_s1 hb hL, R0_len]; omega
    · rw [d_run hb hL, r_s1 hb hL]
      exact f_lok
    · rw [e3]
      show lok rSum_l2045_st 18446744073709551616 (.mk 0 0 (IntKind.wrap .i64 (Int.ofNat L.length - 32)) L)
      rw [hW]
      exact zk
end

end Crc
end Go.Proofs.Ytcdejlgophpdjaa
end

section
namespace Go.Proofs.Ytcdejlgophpdjaa
open Go Go.RowKit Go.Proofs.Ytcdejlgophpdjaa.V
set_option linter.unusedVariables false
set_option linter.unusedSectionVars false

theorem ba_push (a : ByteArray) (c : UInt8) : a ++ ByteArray.mk #[c] = a.push c := by
  apply ByteArray.ext
  rw [ByteArray.data_append]; rfl
theorem bytesOf_snoc (l : List (List Int)) (c : Int) : bytesOf (l ++ [[c]]) = (bytesOf l).push (UInt8.ofNat c.toNat) := by
  unfold bytesOf
  rw [List.map_append, List.foldl_append]; rfl
theorem tel_ch : ∀ n : Nat, n < 10 → ByteArray.extract lFrTel_l260709_s5 n (n + 1) = ByteArray.mk #[UInt8.ofNat (byteAt fText_l31333_s2 n).toNat] := by decide +kernel
theorem tel_push (a : ByteArray) (l : List (List Int)) (n : Nat) (hn : n < 10) : bytesOf l ++ ByteArray.extract lFrTel_l260709_s5 n (n + 1) = bytesOf (l ++ [[byteAt fText_l31333_s2 n]]) := by
  rw [tel_ch n hn, ba_push, bytesOf_snoc]

theorem sO_bytes {l : List (List Int)} (hc : ∀ k j, j ≠ 4 → 0 ≤ rget l k j ∧ rget l k j ≤ 255) : ∀ n i, 0 ≤ rget (sO l n) i 0 ∧ rget (sO l n) i 0 ≤ 255
  | 0, i => by
    have : rget (sO l 0) i 0 = 0 := by unfold rget sO; simp
    rw [this]; decide
  | n + 1, i => by
    have w8 : ∀ x : Int, 0 ≤ IntKind.wrap .u8 x ∧ IntKind.wrap .u8 x ≤ 255 := fun x => by rw [wu8]; omega
    have e : sO l (n + 1) = sO l n ++ [[rget l n 0], [rget l n 1], [rget l n 2], [rget l n 3], [IntKind.wrap IntKind.u8 (Int.fdiv (rget l n 4) (2 ^ min (Int.toNat 8) (IntKind.bits IntKind.i64)))], [IntKind.wrap IntKind.u8 (rget l n 4)], [rget l n 5]] := by
      rw [sO, List.append_assoc]; rfl
    by_cases h : i < (sO l n).length
    · have : rget (sO l (n + 1)) i 0 = rget (sO l n) i 0 := by
        rw [e]; unfold rget
        rw [List.getD_eq_getElem?_getD (l := sO l n ++ _), List.getElem?_append_left h, List.getD_eq_getElem?_getD (l := sO l n)]
      rw [this]; exact sO_bytes hc n i
    · have : ∀ k, i = (sO l n).length + k → rget (sO l (n + 1)) i 0 = rget [[rget l n 0], [rget l n 1], [rget l n 2], [rget l n 3], [IntKind.wrap IntKind.u8 (Int.fdiv (rget l n 4) (2 ^ min (Int.toNat 8) (IntKind.bits IntKind.i64)))], [IntKind.wrap IntKind.u8 (rget l n 4)], [rget l n 5]] k 0 := fun k hk => by
        rw [e, hk]; unfold rget
        rw [List.getD_eq_getElem?_getD (l := sO l n ++ _), List.getElem?_append_right (by omega), List.getD_eq_getElem?_getD (l := _ :: _), Nat.add_sub_cancel_left]
      obtain ⟨k, hk⟩ : ∃ k, i = (sO l n).length + k := ⟨i - (sO l n).length, by omega⟩
      rw [this k hk]
      match k with
      | 0 => exact hc n 0 (by omega)
      | 1 => exact hc n 1 (by omega)
      | 2 => exact hc n 2 (by omega)
      | 3 => exact hc n 3 (by omega)
      | 4 => exact w8 _
      | 5 => exact w8 _
      | 6 => exact hc n 5 (by omega)
      | k + 7 => exact (show (0 : Int) ≤ 0 ∧ (0 : Int) ≤ 255 by decide)

section
variable {w h : Nat} (w1 : w ≤ 64) (h1 : h ≤ 64) {l : List (List Int)} (g : Gc w h l)

def eI (w h y : Nat) (l : List (List Int)) (x : Nat) : lFrTel_l260709_T := .mk false (bytesOf (tO w h y l (uO w h l y) x)) (y : Int) (h : Int) (y : Int) true (w : Int) (x : Int) (w : Int) (h : Int) l (sO l (y * w + x))
theorem ee_s0 (y x : Nat) : lFrTel_l260709_s0 (eI w h y l x) = decide (x < w) := by
  unfold lFrTel_l260709_s0
  exact decide_eq_decide.2 Int.ofNat_lt
include w1 h1 g in
theorem ee_at {x y : Nat} (hx : x < w) (hy : y < h) : fAt_0 (w : Int) (h : Int) (x : Int) (y : Int) l = rget l (y * w + x) 0 ∧ fAt_1 (w : Int) (h : Int) (x : Int) (y : Int) l = rget l (y * w + x) 1 ∧ fAt_2 (w : Int) (h : Int) (x : Int) (y : Int) l = rget l (y * w + x) 2 ∧ fAt_3 (w : Int) (h : Int) (x : Int) (y : Int) l = rget l (y * w + x) 3 ∧ fAt_4 (w : Int) (h : Int) (x : Int) (y : Int) l = rget l (y * w + x) 4 ∧ fAt_5 (w : Int) (h : Int) (x : Int) (y : Int) l = rget l (y * w + x) 5 := by
  have hi : inn w h (x : Int) (y : Int) = true := by rw [inn_nat]; exact decide_eq_true ⟨hx, hy⟩
  have e : ∀ j, px w h l (x : Int) (y : Int) j = rget l (y * w + x) j := fun j => by
    unfold px
    rw [hi, ixp_eq w1 h1 hx hy]; rfl
  rw [px_0 w1 h1 g.1.1, px_1 w1 h1 g.1.1, px_2 w1 h1 g.1.1, px_3 w1 h1 g.1.1, px_4 w1 h1 g.1.1, px_5 w1 h1 g.1.1]
  exact ⟨e 0, e 1, e 2, e 3, e 4, e 5⟩
include w1 h1 g in
theorem ee_s2 {x y : Nat} (hx : x < w) (hy : y < h) : lFrTel_l260709_s2 (eI w h y l x) = sO l (y * w + (x + 1)) := by
  obtain ⟨a0, a1, a2, a3, a4, a5⟩ := ee_at w1 h1 g hx hy
  have hi : y * w + x < w * h := by
    have := (at_in w1 h1 g.1.1 hx hy).2
    rw [g.1.1] at this; exact this
  have hd := g.1.2 (y * w + x) hi
  unfold lFrTel_l260709_s2 lFrTel_l260709_s1
  show sO l (y * w + x) ++ [[fAt_0 (w : Int) (h : Int) (x : Int) (y : Int) l], [fAt_1 (w : Int) (h : Int) (x : Int) (y : Int) l], [fAt_2 (w : Int) (h : Int) (x : Int) (y : Int) l], [fAt_3 (w : Int) (h : Int) (x : Int) (y : Int) l]] ++ [[IntKind.wrap .u8 (IntKind.wrap .i64 (Int.tdiv (fAt_4 (w : Int) (h : Int) (x : Int) (y : Int) l) 256))], [IntKind.wrap .u8 (Int.tmod (fAt_4 (w : Int) (h : Int) (x : Int) (y : Int) l) 256)], [fAt_5 (w : Int) (h : Int) (x : Int) (y : Int) l]] = _
  rw [a0, a1, a2, a3, a4, a5, show y * w + (x + 1) = (y * w + x) + 1 by omega, sO]
  obtain ⟨d0, d1⟩ := hd
  have e2 : (2 : Int) ^ min (Int.toNat 8) (IntKind.bits .i64) = 256 := by decide
  have q1 : IntKind.wrap .i64 (Int.tdiv (rget l (y * w + x) 4) 256) = Int.fdiv (rget l (y * w + x) 4) (2 ^ min (Int.toNat 8) (IntKind.bits .i64)) := by
    rw [e2, Int.tdiv_eq_ediv_of_nonneg d0, Int.fdiv_eq_ediv_of_nonneg _ (by omega), w64_in (by omega) (by omega)]
  have q2 : IntKind.wrap .u8 (Int.tmod (rget l (y * w + x) 4) 256) = IntKind.wrap .u8 (rget l (y * w + x) 4) := by
    rw [Int.tmod_eq_emod_of_nonneg d0, wu8, wu8, Int.emod_emod]
  rw [q1, q2]
include w1 h1 g in
theorem ee_s3 {x y : Nat} (hx : x < w) (hy : y < h) : lFrTel_l260709_s3 (eI w h y l x) = fText_l31333_s1 (tI w h y l x []) := rfl
include g in
theorem ee_n (y x : Nat) : ∃ n : Nat, fText_l31333_s1 (tI w h y l x []) = (n : Int) ∧ n < 10 := by
  have := t_s1 (w := w) (h := h) (fun k j hj => g.2 k j (by omega)) y x []
  exact ⟨(fText_l31333_s1 (tI w h y l x [])).toNat, by omega, by omega⟩
include w1 h1 g in
theorem ee_text {x y : Nat} (hx : x < w) (hy : y < h) : bytesOf (tO w h y l (uO w h l y) x) ++ ByteArray.extract lFrTel_l260709_s5 (Int.toNat (lFrTel_l260709_s3 (eI w h y l x))) (Int.toNat (lFrTel_l260709_s4 (eI w h y l x))) = bytesOf (tO w h y l (uO w h l y) (x + 1)) := by
  obtain ⟨n, e, hn⟩ := ee_n g y x
  have e3 : lFrTel_l260709_s3 (eI w h y l x) = (n : Int) := (ee_s3 w1 h1 g hx hy).trans e
  have e4 : lFrTel_l260709_s4 (eI w h y l x) = ((n + 1 : Nat) : Int) := by
    unfold lFrTel_l260709_s4
    rw [e3, w64_in (by omega) (by omega)]; omega
  rw [e3, e4, Int.toNat_natCast, Int.toNat_natCast, tel_push ⟨#[]⟩ _ n hn, tO_succ]
  unfold tC
  rw [e, Int.toNat_natCast]
include w1 h1 g in
theorem ee_step {y : Nat} (hy : y < h) (x : Nat) (hx : x < w) : pick1 (lFrTel_l260709_st (eI w h y l x)).2 = some (.n, eI w h y l (x + 1)) := by
  unfold lFrTel_l260709_st
  rw [ee_s0, decide_eq_true hx, ee_s2 w1 h1 g hx hy]
  have e1 : IntKind.wrap .i64 ((eI w h y l x).a7 + 1) = ((x + 1 : Nat) : Int) := by
    show IntKind.wrap .i64 ((x : Int) + 1) = _
    rw [w64_in (by omega) (by omega)]; omega
  have e2 : (eI w h y l x).a1 ++ ByteArray.extract lFrTel_l260709_s5 (Int.toNat (lFrTel_l260709_s3 (eI w h y l x))) (Int.toNat (lFrTel_l260709_s4 (eI w h y l x))) = bytesOf (tO w h y l (uO w h l y) (x + 1)) := ee_text w1 h1 g hx hy
  rw [e1, e2]; rfl
theorem ee_end (y : Nat) : pick1 (lFrTel_l260709_st (eI w h y l w)).2 = some (.e 2, eI w h y l w) := by
  unfold lFrTel_l260709_st
  rw [ee_s0, decide_eq_false (Nat.lt_irrefl _)]; rfl
include w1 h1 g in
theorem ee_obs {y : Nat} (hy : y < h) (x : Nat) (hx : x ≤ w) : Alls (lFrTel_l260709_st (eI w h y l x)).1 := by
  have hyw : y * w ≤ 63 * 64 := Nat.mul_le_mul (by omega) (by omega)
  have hyu : y * (w + 1) ≤ 63 * 65 := Nat.mul_le_mul (by omega) (by omega)
  obtain ⟨n, e, hn⟩ := ee_n g y x
  unfold lFrTel_l260709_st
  rw [ee_s0]
  refine ⟨fun _ k => at_ob w1 h1 g.1.1 k, fun _ => ?_, fun k => ?_, fun k => ?_, fun k => ?_, trivial⟩
  · have e1 : (lFrTel_l260709_s1 (eI w h y l x)).length = 7 * (y * w + x) + 4 := by
      unfold lFrTel_l260709_s1
      show (sO l (y * w + x) ++ _).length = _
      rw [List.length_append, sO_len]; rfl
    rw [e1]; omega
  · rw [ee_s2 w1 h1 g (of_decide_eq_true k) hy, sO_len]; omega
  · have e3 : lFrTel_l260709_s3 (eI w h y l x) = (n : Int) := (ee_s3 w1 h1 g (of_decide_eq_true k) hy).trans e
    have e4 : lFrTel_l260709_s4 (eI w h y l x) = ((n + 1 : Nat) : Int) := by
      unfold lFrTel_l260709_s4
      rw [e3, w64_in (by omega) (by omega)]; omega
    rw [e3, e4]
    have : ByteArray.size lFrTel_l260709_s5 = 10 := rfl
    rw [this]
    show (0 : Int) ≤ (n : Int) ∧ (n : Int) ≤ ((n + 1 : Nat) : Int) ∧ ((n + 1 : Nat) : Int) ≤ ((10 : Nat) : Int)
    omega
  · have e1 := congrArg ByteArray.size (ee_text w1 h1 g (of_decide_eq_true k) hy)
    rw [ByteArray.size_append, bytesOf_size (tO w h y l (uO w h l y) (x + 1)), tO_len, uO_len] at e1
    show Int.ofNat (ByteArray.size (bytesOf (tO w h y l (uO w h l y) x)) + _) ≤ _
    rw [e1]
    show ((y * (w + 1) + (x + 1) : Nat) : Int) ≤ 9223372036854775807
    omega

def eO (w h : Nat) (l : List (List Int)) (y : Nat) : lFrTel_l509_T := .mk false (bytesOf (uO w h l y)) (h : Int) (y : Int) (w : Int) (h : Int) l (sO l (y * w))
theorem eo_s0 (y : Nat) : lFrTel_l509_s0 (eO w h l y) = decide (y < h) := by
  unfold lFrTel_l509_s0
  exact decide_eq_decide.2 Int.ofNat_lt
theorem eo_in {y : Nat} (hy : y < h) : lFrTel_l260709_T.mk (eO w h l y).a0 (eO w h l y).a1 (eO w h l y).a3 (eO w h l y).a2 (eO w h l y).a3 (lFrTel_l509_s0 (eO w h l y)) (eO w h l y).a4 0 (eO w h l y).a4 (eO w h l y).a5 (eO w h l y).a6 (eO w h l y).a7 = eI w h y l 0 := by
  rw [eo_s0, decide_eq_true hy]
  unfold eI
  rw [show tO w h y l (uO w h l y) 0 = uO w h l y by simp [tO]]; rfl
include w1 h1 g in
theorem eo_s1 (y : Nat) (hy : y < h) : lFrTel_l509_s1 (eO w h l y) = some (.e 2, eI w h y l w) := by
  unfold lFrTel_l509_s1
  rw [eo_in hy]
  exact lx_run (s := eI w h y l) (ee_step w1 h1 g hy) (ee_end y) nofun (by omega)
include w1 h1 g in
theorem eo_step (y : Nat) (hy : y < h) : pick1 (lFrTel_l509_st (eO w h l y)).2 = some (.n, eO w h l (y + 1)) := by
  unfold lFrTel_l509_st
  rw [eo_s0, decide_eq_true hy, eo_s1 w1 h1 g y hy]
  have e1 : IntKind.wrap .i64 ((y : Int) + 1) = ((y + 1 : Nat) : Int) := by
    rw [w64_in (by omega) (by omega)]; omega
  have e2 : bytesOf (tO w h y l (uO w h l y) w) ++ lFrTel_l509_s2 = bytesOf (uO w h l (y + 1)) := by
    rw [show lFrTel_l509_s2 = ByteArray.mk #[10] from rfl, ba_push, uO, bytesOf_snoc]; rfl
  have e3 : y * w + w = (y + 1) * w := by rw [Nat.succ_mul]
  show some (X.n, lFrTel_l509_T.mk false (bytesOf (tO w h y l (uO w h l y) w) ++ lFrTel_l509_s2) (h : Int) (IntKind.wrap .i64 ((y : Int) + 1)) (w : Int) (h : Int) l (sO l (y * w + w))) = _
  rw [e1, e2, e3]; rfl
theorem eo_end : pick1 (lFrTel_l509_st (eO w h l h)).2 = some (.e 0, eO w h l h) := by
  unfold lFrTel_l509_st
  rw [eo_s0, decide_eq_false (Nat.lt_irrefl _)]; rfl
include w1 h1 g in
theorem eo_obs (y : Nat) : Alls (lFrTel_l509_st (eO w h l y)).1 := by
  unfold lFrTel_l509_st
  rw [eo_s0]
  refine ⟨fun k => ?_, fun k _ => ?_, trivial⟩
  · have hy := of_decide_eq_true k
    have := eo_in (w := w) (l := l) hy
    rw [eo_s0] at this
    rw [this]
    exact lx_lok (s := eI w h y l) (ee_step w1 h1 g hy) (ee_end y) nofun (fun x hx => ee_obs w1 h1 g hy x hx) (by omega)
  · have hy := of_decide_eq_true k
    have hyu : y * (w + 1) ≤ 63 * 65 := Nat.mul_le_mul (by omega) (by omega)
    rw [eo_s1 w1 h1 g y hy]
    show Int.ofNat (ByteArray.size (bytesOf (tO w h y l (uO w h l y) w)) + 1) ≤ _
    rw [bytesOf_size, tO_len, uO_len]
    show ((y * (w + 1) + w + 1 : Nat) : Int) ≤ 9223372036854775807
    omega
include w1 h1 g in
theorem eo_run : lrun lFrTel_l509_st 18446744073709551616 (.mk false (ByteArray.mk (Array.mk [])) (h : Int) 0 (w : Int) (h : Int) l []) = some (.e 0, eO w h l h) ∧ lok lFrTel_l509_st 18446744073709551616 (.mk false (ByteArray.mk (Array.mk [])) (h : Int) 0 (w : Int) (h : Int) l []) := by
  have e : lFrTel_l509_T.mk false (ByteArray.mk (Array.mk [])) (h : Int) 0 (w : Int) (h : Int) l [] = eO w h l 0 := by
    unfold eO
    rw [Nat.zero_mul]; rfl
  rw [e]
  exact ⟨lx_run (s := eO w h l) (eo_step w1 h1 g) eo_end nofun (by omega), lx_lok (s := eO w h l) (eo_step w1 h1 g) eo_end nofun (fun y _ => eo_obs w1 h1 g y) (by omega)⟩
end

theorem FrameTells_true (x0_0 : Int) (a0_0 : IntKind.min .u8 ≤ x0_0) (b0_0 : x0_0 ≤ IntKind.max .u8) (x0_1 : Int) (a0_1 : IntKind.min .u8 ≤ x0_1) (b0_1 : x0_1 ≤ IntKind.max .u8) (y0_2 : List (List Int)) (p0_2 : ∀ row ∈ y0_2, RowFit [.int .u8, .int .u8, .int .u8, .int .u8, .int .u16, .int .u8] row) (q0_2 : y0_2.length ≤ maxLen) : lFrTel_0 x0_0 x0_1 (List.length y0_2) y0_2 = true := by
  obtain ⟨l0_0, g0_0⟩ := bd_u8 a0_0 b0_0
  have w0_0 : IntKind.wrap .i64 x0_0 = x0_0 := w64_in (by omega) (by omega)
  obtain ⟨l0_1, g0_1⟩ := bd_u8 a0_1 b0_1
  have w0_1 : IntKind.wrap .i64 x0_1 = x0_1 := w64_in (by omega) (by omega)
  have hd := row_dep p0_2
  have hc := row_col p0_2
  have s0 := sm_0 l0_0 g0_0
  have s1 := sm_1 l0_1 g0_1
  obtain ⟨e0, e1, g⟩ := (sizedC (x1 := fSmF_s0 x0_0) (x2 := fSmF_s1 x0_1) (by omega) (by omega) (by omega) (by omega) x0_0 x0_1 y0_2.length hd hc).1
  have w1 := cl_1 (fSmF_s0 x0_0)
  have w2 := cl_64 (fSmF_s0 x0_0)
  have h1 := cl_1 (fSmF_s1 x0_1)
  have h2 := cl_64 (fSmF_s1 x0_1)
  unfold lFrTel_0 lFrTel_s2 lFrTel_s1 fSmF_0 fSmF_1 fSmF_2
  rw [awake, e0, e1]
  generalize fSized_2 x0_0 x0_1 y0_2.length (fSmF_s0 x0_0) (fSmF_s1 x0_1) y0_2 = l at *
  generalize cl (fSmF_s0 x0_0) = w at *
  generalize cl (fSmF_s1 x0_1) = h at *
  have hM := r_len w2 h2 g.1
  have hr := (eo_run w2 h2 g).1
  have hchk := c_good (w := (w : Int)) (h := (h : Int)) hM (chk_sz w1 w2 h1 h2 g.1.1) (fun i hi => g.1.2 i (by have := g.1.1; omega))
  rw [hr, text_eq w2 h2 hchk]
  have hb := sO_bytes g.2 l.length
  have hl : (sO l l.length).length ≤ 100000 := by rw [sO_len]; omega
  have hsum : fSum_0 l = rSum_0 (sO l l.length) := by
    rw [(Crc.rSum_all hb hl false).1]
    unfold fSum_0
    rw [sum_a4 hM]
  have hwh : h * w = l.length := by rw [g.1.1, Nat.mul_comm]
  have hz : lFrTel_l509_T.a7 (V.valOf (some (X.e 0, eO w h l h))) = sO l l.length := by
    show sO l (h * w) = _
    rw [hwh]
  have ht : lFrTel_l509_T.a1 (V.valOf (some (X.e 0, eO w h l h))) = bytesOf (uO w h l h) := rfl
  rw [hz, ht, hsum, beq_self_eq_true, beq_self_eq_true]
  cases lFrTel_s0 (List.length y0_2) <;> rfl

theorem FrameTells_obs (x0_0 : Int) (a0_0 : IntKind.min .u8 ≤ x0_0) (b0_0 : x0_0 ≤ IntKind.max .u8) (x0_1 : Int) (a0_1 : IntKind.min .u8 ≤ x0_1) (b0_1 : x0_1 ≤ IntKind.max .u8) (y0_2 : List (List Int)) (p0_2 : ∀ row ∈ y0_2, RowFit [.int .u8, .int .u8, .int .u8, .int .u8, .int .u16, .int .u8] row) (q0_2 : y0_2.length ≤ maxLen) : Alls (lFrTel_o x0_0 x0_1 (List.length y0_2) y0_2) := by
  obtain ⟨l0_0, g0_0⟩ := bd_u8 a0_0 b0_0
  have w0_0 : IntKind.wrap .i64 x0_0 = x0_0 := w64_in (by omega) (by omega)
  obtain ⟨l0_1, g0_1⟩ := bd_u8 a0_1 b0_1
  have w0_1 : IntKind.wrap .i64 x0_1 = x0_1 := w64_in (by omega) (by omega)
  have hd := row_dep p0_2
  have hc := row_col p0_2
  have s0 := sm_0 l0_0 g0_0
  have s1 := sm_1 l0_1 g0_1
  obtain ⟨⟨e0, e1, g⟩, zk⟩ := sizedC (x1 := fSmF_s0 x0_0) (x2 := fSmF_s1 x0_1) (by omega) (by omega) (by omega) (by omega) x0_0 x0_1 y0_2.length hd hc
  have w1 := cl_1 (fSmF_s0 x0_0)
  have w2 := cl_64 (fSmF_s0 x0_0)
  have h1 := cl_1 (fSmF_s1 x0_1)
  have h2 := cl_64 (fSmF_s1 x0_1)
  have hN := cl_N (fSmF_s0 x0_0) (fSmF_s1 x0_1)
  obtain ⟨q1, q2, q3, q4, _⟩ := rep_obs (p0 := 0) (p1 := 0) (p2 := 0) (p3 := 0) (p4 := 65535) (p5 := 0) hN.1 hN.2 false
  rw [← n_s6] at q1 q2 q3 q4
  obtain ⟨a1', a2', a3', a4', a5', a6', a7', _⟩ := aw_obs
  refine ⟨a1', a2', a3', a4', a5', a6', a7', fun _ _ => q1, fun _ _ => q2, fun _ _ => q3, fun _ _ => q4, fun _ _ => zk, ?_⟩
  unfold lFrTel_s3 lFrTel_s2 lFrTel_s1 fSmF_0 fSmF_1 fSmF_2
  rw [e0, e1]
  clear q1 q2 q3 q4 zk
  generalize fSized_2 x0_0 x0_1 y0_2.length (fSmF_s0 x0_0) (fSmF_s1 x0_1) y0_2 = l at *
  generalize cl (fSmF_s0 x0_0) = w at *
  generalize cl (fSmF_s1 x0_1) = h at *
  have hM := r_len w2 h2 g.1
  obtain ⟨hr, hk⟩ := eo_run w2 h2 g
  have hwh : h * w = l.length := by rw [g.1.1, Nat.mul_comm]
  have hz : lFrTel_l509_T.a7 (V.valOf (some (X.e 0, eO w h l h))) = sO l l.length := by
    show sO l (h * w) = _
    rw [hwh]
  rw [hr, hz]
  have hb := sO_bytes g.2 l.length
  have hl : (sO l l.length).length ≤ 100000 := by rw [sO_len]; omega
  obtain ⟨k1, k2, k3, k4, k5, k6, _⟩ := (Crc.rSum_all hb hl false).2
  refine ⟨fun _ _ => hk, fun _ _ _ => sum_lok hM, fun _ _ _ _ => ?_, fun _ _ _ => k1, fun _ _ _ => k2, fun _ _ _ => k3, fun _ _ _ => k4, fun _ _ _ => k5, fun _ _ _ => k6, fun _ _ _ _ _ => c_lok hM, fun _ _ _ _ _ => text_lok w2 h2 g.1.1 (fun k j hj => g.2 k j (by omega)), trivial⟩
  rw [sum_a4 hM]
  exact crc_lok hl

end Go.Proofs.Ytcdejlgophpdjaa
end

