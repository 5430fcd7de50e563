/-
  Contracts of functions of the program, each run on the local memory (printed by a program of this session's own: wip/tools).
-/
import Derived.Test.YtcdejlgophpdjaaFg1
namespace Go.Proofs.Ytcdejlgophpdjaa
open Go Go.RowKit Go.Proofs.Ytcdejlgophpdjaa.V
set_option linter.unusedVariables false

/-! (azulejo/azulejolaw20.Small).Sized -/
noncomputable def fSized_l7475_code : Go.Code := loopOf (subs (bodyOf Try.prog 72) 1 7475)
structure fSized_l7475_T where
  a0 : Int
  a1 : Int
  a2 : Int
  a3 : Int
  a4 : Bool
  a5 : Int
  a6 : Int
  a7 : Int
  a8 : Int
  a9 : Nat
  a10 : List (List Int)
  a11 : Int
  a12 : Int
  a13 : Int
  a14 : Int
  a15 : List (List Int)
  deriving Inhabited
def fSized_l7475_hd (v : fSized_l7475_T) : HS := HS.mk [(nat_lit 1, LV.a (At.int true IntKind.i64 (fSized_l7475_T.a0 v))), (nat_lit 3, LV.a (At.ptr (nat_lit 0) (nat_lit 0))), (nat_lit 6, LV.a (At.ptr (nat_lit 2) (nat_lit 0))), (nat_lit 7, LV.a (At.ptr (nat_lit 3) (nat_lit 0))), (nat_lit 8, LV.a (At.int true IntKind.i64 (fSized_l7475_T.a1 v))), (nat_lit 15, LV.a (At.int true IntKind.i64 (fSized_l7475_T.a2 v))), (nat_lit 16, LV.a (At.int true IntKind.i64 (fSized_l7475_T.a3 v))), (nat_lit 17, LV.a (At.bool true (fSized_l7475_T.a4 v))), (nat_lit 19, LV.a (At.int true IntKind.i64 (fSized_l7475_T.a5 v))), (nat_lit 20, LV.a (At.int true IntKind.i64 (fSized_l7475_T.a6 v)))] [BC.mk (Hd.mk (nat_lit 0) (nat_lit 3) true none) [some (At.int true IntKind.u8 (fSized_l7475_T.a7 v)), some (At.int true IntKind.u8 (fSized_l7475_T.a8 v)), some (At.slc true (nat_lit 1) (nat_lit 0) (nat_lit 0) (nat_lit 6) (nat_lit 0) (fSized_l7475_T.a9 v))], BC.mk (Hd.mk (nat_lit 0) (nat_lit 0) true (some (Rw.mk (nat_lit 0) [Kd.int IntKind.u8, Kd.int IntKind.u8, Kd.int IntKind.u8, Kd.int IntKind.u8, Kd.int IntKind.u16, Kd.int IntKind.u8] (fSized_l7475_T.a10 v) none))) [], BC.mk (Hd.mk (nat_lit 0) (nat_lit 3) true none) [some (At.int true IntKind.i64 (fSized_l7475_T.a11 v)), some (At.int true IntKind.i64 (fSized_l7475_T.a12 v)), some At.nils], BC.mk (Hd.mk (nat_lit 0) (nat_lit 3) false none) [some (At.int true IntKind.i64 (fSized_l7475_T.a13 v)), some (At.int true IntKind.i64 (fSized_l7475_T.a14 v)), some (At.vec (nat_lit 4) (nat_lit 0) (nat_lit 6))], BC.mk (Hd.mk (nat_lit 0) (nat_lit 0) false (some (Rw.mk (nat_lit 0) [Kd.int IntKind.u8, Kd.int IntKind.u8, Kd.int IntKind.u8, Kd.int IntKind.u8, Kd.int IntKind.i64, Kd.int IntKind.u8] (fSized_l7475_T.a15 v) none))) []]
def fSized_l7475_s0 (v : fSized_l7475_T) : Bool := decide (fSized_l7475_T.a6 v < fSized_l7475_T.a5 v)
def fSized_l7475_s1 (v : fSized_l7475_T) : Bool := decide ((0 : Int) < Int.ofNat (fSized_l7475_T.a9 v))
def fSized_l7475_s2 (v : fSized_l7475_T) : Int := Int.tmod (IntKind.wrap IntKind.i64 (IntKind.wrap IntKind.i64 (fSized_l7475_T.a1 v * fSized_l7475_T.a0 v) + fSized_l7475_T.a6 v)) (Int.ofNat (fSized_l7475_T.a9 v))
def fSized_l7475_st (v : fSized_l7475_T) : List Prop × List (X × Bool × fSized_l7475_T) := ([fSized_l7475_s0 v = true → fSized_l7475_s1 v = true → Int.ofNat (fSized_l7475_T.a9 v) ≠ (0 : Int), fSized_l7475_s0 v = true → fSized_l7475_s1 v = true → (0 : Int) ≤ fSized_l7475_s2 v ∧ fSized_l7475_s2 v < Int.ofNat (fSized_l7475_T.a9 v), fSized_l7475_s0 v = true → fSized_l7475_s1 v = true → fSet_s1 (fSized_l7475_T.a13 v) (fSized_l7475_T.a14 v) (fSized_l7475_T.a6 v) (fSized_l7475_T.a1 v) (fSized_l7475_T.a15 v) = true → (0 : Int) ≤ fSet_s0 (fSized_l7475_T.a13 v) (fSized_l7475_T.a6 v) (fSized_l7475_T.a1 v) ∧ fSet_s0 (fSized_l7475_T.a13 v) (fSized_l7475_T.a6 v) (fSized_l7475_T.a1 v) < Int.ofNat (List.length (fSized_l7475_T.a15 v))], [(X.e (2 : Nat), !fSized_l7475_s0 v, fSized_l7475_T.mk (fSized_l7475_T.a0 v) (fSized_l7475_T.a1 v) (fSized_l7475_T.a2 v) (fSized_l7475_T.a3 v) (fSized_l7475_T.a4 v) (fSized_l7475_T.a5 v) (fSized_l7475_T.a6 v) (fSized_l7475_T.a7 v) (fSized_l7475_T.a8 v) (fSized_l7475_T.a9 v) (fSized_l7475_T.a10 v) (fSized_l7475_T.a11 v) (fSized_l7475_T.a12 v) (fSized_l7475_T.a13 v) (fSized_l7475_T.a14 v) (fSized_l7475_T.a15 v)), (X.n, fSized_l7475_s0 v, fSized_l7475_T.mk (fSized_l7475_T.a0 v) (fSized_l7475_T.a1 v) (fSized_l7475_T.a2 v) (fSized_l7475_T.a3 v) (fSized_l7475_T.a4 v) (fSized_l7475_T.a5 v) (IntKind.wrap IntKind.i64 (fSized_l7475_T.a6 v + (1 : Int))) (fSized_l7475_T.a7 v) (fSized_l7475_T.a8 v) (fSized_l7475_T.a9 v) (fSized_l7475_T.a10 v) (fSized_l7475_T.a11 v) (fSized_l7475_T.a12 v) (fSized_l7475_T.a13 v) (fSized_l7475_T.a14 v) (bif fSized_l7475_s1 v then fSet_0 (fSized_l7475_T.a13 v) (fSized_l7475_T.a14 v) (fSized_l7475_T.a6 v) (fSized_l7475_T.a1 v) (rget (fSized_l7475_T.a10 v) (nat_lit 0 + Int.toNat (fSized_l7475_s2 v)) (0 : Nat)) (rget (fSized_l7475_T.a10 v) (nat_lit 0 + Int.toNat (fSized_l7475_s2 v)) (1 : Nat)) (rget (fSized_l7475_T.a10 v) (nat_lit 0 + Int.toNat (fSized_l7475_s2 v)) (2 : Nat)) (rget (fSized_l7475_T.a10 v) (nat_lit 0 + Int.toNat (fSized_l7475_s2 v)) (3 : Nat)) (IntKind.wrap IntKind.i64 (rget (fSized_l7475_T.a10 v) (nat_lit 0 + Int.toNat (fSized_l7475_s2 v)) (4 : Nat))) (rget (fSized_l7475_T.a10 v) (nat_lit 0 + Int.toNat (fSized_l7475_s2 v)) (5 : Nat)) (fSized_l7475_T.a15 v) else fSized_l7475_T.a15 v))])
def fSized_l7475_rd : HS → Option fSized_l7475_T
  | HS.mk [(1, LV.a (At.int true IntKind.i64 a0)), (3, LV.a (At.ptr 0 0)), (6, LV.a (At.ptr 2 0)), (7, LV.a (At.ptr 3 0)), (8, LV.a (At.int true IntKind.i64 a1)), (15, LV.a (At.int true IntKind.i64 a2)), (16, LV.a (At.int true IntKind.i64 a3)), (17, LV.a (At.bool true a4)), (19, LV.a (At.int true IntKind.i64 a5)), (20, LV.a (At.int true IntKind.i64 a6))] [BC.mk (Hd.mk 0 3 true none) [some (At.int true IntKind.u8 a7), some (At.int true IntKind.u8 a8), some (At.slc true 1 0 0 6 0 a9)], BC.mk (Hd.mk 0 0 true (some (Rw.mk 0 [Kd.int IntKind.u8, Kd.int IntKind.u8, Kd.int IntKind.u8, Kd.int IntKind.u8, Kd.int IntKind.u16, Kd.int IntKind.u8] a10 none))) [], BC.mk (Hd.mk 0 3 true none) [some (At.int true IntKind.i64 a11), some (At.int true IntKind.i64 a12), some At.nils], BC.mk (Hd.mk 0 3 false none) [some (At.int true IntKind.i64 a13), some (At.int true IntKind.i64 a14), some (At.vec 4 0 6)], BC.mk (Hd.mk 0 0 false (some (Rw.mk 0 [Kd.int IntKind.u8, Kd.int IntKind.u8, Kd.int IntKind.u8, Kd.int IntKind.u8, Kd.int IntKind.i64, Kd.int IntKind.u8] a15 none))) []] => some (fSized_l7475_T.mk a0 a1 a2 a3 a4 a5 a6 a7 a8 a9 a10 a11 a12 a13 a14 a15)
  | _ => none
def fSized_l7475_sum : V.Sum := loopS fSized_l7475_hd fSized_l7475_rd fSized_l7475_st 18446744073709551616 [X.e (2 : Nat)] [0, 1, 2, 3, 6, 7, 8, 9, 10, 15, 16, 17, 19, 20, 21, 27] [1, 3, 6, 7, 8, 15, 16, 17, 19, 20] [3, 4] [4] [] 2
theorem fSized_l7475_E : ∀ v, bodyF Try.prog tabFg1 (ntOf Try.prog 72) [0, 1, 2, 3, 6, 7, 8, 9, 10, 15, 16, 17, 19, 20, 21, 27] [1, 3, 6, 7, 8, 15, 16, 17, 19, 20] [] 2000 [3, 4] [4] fSized_l7475_code 29900 (fSized_l7475_hd v) = some ((fSized_l7475_st v).1, (fSized_l7475_st v).2.map fun q => (q.1, q.2.1, fSized_l7475_hd q.2.2)) := fun v => by kernel_rfl
set_option maxHeartbeats 2000000 in
theorem fSized_l7475_R : ∀ h v, fSized_l7475_rd h = some v → h = fSized_l7475_hd v := by
  intro h v e
  unfold fSized_l7475_rd at e
  split at e
  · simp only [Option.some.injEq] at e; subst e; rfl
  · cases e
set_option maxRecDepth 100000 in
theorem fSized_l7475_sok : SumOK Try.prog (ntOf Try.prog 72) [0, 1, 2, 3, 6, 7, 8, 9, 10, 15, 16, 17, 19, 20, 21, 27] (.block (blockOf (subs (bodyOf Try.prog 72) 1 7475)) (.loop fSized_l7475_code)) fSized_l7475_sum := loopS_ok tabFg1_ok follows fSized_l7475_E fSized_l7475_R (fun v => by kernel_rfl) (LOK_of _ _ (LOK_nil'))
noncomputable def fSized_l29_code : Go.Code := loopOf (subs (bodyOf Try.prog 72) 1 29)
structure fSized_l29_T where
  a0 : Int
  a1 : Int
  a2 : Int
  a3 : Int
  a4 : Int
  a5 : Nat
  a6 : List (List Int)
  a7 : Int
  a8 : Int
  a9 : Int
  a10 : Int
  a11 : List (List Int)
  deriving Inhabited
def fSized_l29_hd (v : fSized_l29_T) : HS := HS.mk [(nat_lit 1, LV.a (At.int true IntKind.i64 (fSized_l29_T.a0 v))), (nat_lit 3, LV.a (At.ptr (nat_lit 0) (nat_lit 0))), (nat_lit 6, LV.a (At.ptr (nat_lit 2) (nat_lit 0))), (nat_lit 7, LV.a (At.ptr (nat_lit 3) (nat_lit 0))), (nat_lit 15, LV.a (At.int true IntKind.i64 (fSized_l29_T.a1 v))), (nat_lit 16, LV.a (At.int true IntKind.i64 (fSized_l29_T.a2 v)))] [BC.mk (Hd.mk (nat_lit 0) (nat_lit 3) true none) [some (At.int true IntKind.u8 (fSized_l29_T.a3 v)), some (At.int true IntKind.u8 (fSized_l29_T.a4 v)), some (At.slc true (nat_lit 1) (nat_lit 0) (nat_lit 0) (nat_lit 6) (nat_lit 0) (fSized_l29_T.a5 v))], BC.mk (Hd.mk (nat_lit 0) (nat_lit 0) true (some (Rw.mk (nat_lit 0) [Kd.int IntKind.u8, Kd.int IntKind.u8, Kd.int IntKind.u8, Kd.int IntKind.u8, Kd.int IntKind.u16, Kd.int IntKind.u8] (fSized_l29_T.a6 v) none))) [], BC.mk (Hd.mk (nat_lit 0) (nat_lit 3) true none) [some (At.int true IntKind.i64 (fSized_l29_T.a7 v)), some (At.int true IntKind.i64 (fSized_l29_T.a8 v)), some At.nils], BC.mk (Hd.mk (nat_lit 0) (nat_lit 3) false none) [some (At.int true IntKind.i64 (fSized_l29_T.a9 v)), some (At.int true IntKind.i64 (fSized_l29_T.a10 v)), some (At.vec (nat_lit 4) (nat_lit 0) (nat_lit 6))], BC.mk (Hd.mk (nat_lit 0) (nat_lit 0) false (some (Rw.mk (nat_lit 0) [Kd.int IntKind.u8, Kd.int IntKind.u8, Kd.int IntKind.u8, Kd.int IntKind.u8, Kd.int IntKind.i64, Kd.int IntKind.u8] (fSized_l29_T.a11 v) none))) []]
def fSized_l29_s0 (v : fSized_l29_T) : Bool := decide (fSized_l29_T.a2 v < fSized_l29_T.a1 v)
def fSized_l29_s1 (v : fSized_l29_T) : Option (X × fSized_l7475_T) := lrun fSized_l7475_st (18446744073709551616 : Nat) (fSized_l7475_T.mk (fSized_l29_T.a0 v) (fSized_l29_T.a2 v) (fSized_l29_T.a1 v) (fSized_l29_T.a2 v) (fSized_l29_s0 v) (fSized_l29_T.a0 v) (0 : Int) (fSized_l29_T.a3 v) (fSized_l29_T.a4 v) (fSized_l29_T.a5 v) (fSized_l29_T.a6 v) (fSized_l29_T.a7 v) (fSized_l29_T.a8 v) (fSized_l29_T.a9 v) (fSized_l29_T.a10 v) (fSized_l29_T.a11 v))
def fSized_l29_st (v : fSized_l29_T) : List Prop × List (X × Bool × fSized_l29_T) := ([fSized_l29_s0 v = true → lok fSized_l7475_st (18446744073709551616 : Nat) (fSized_l7475_T.mk (fSized_l29_T.a0 v) (fSized_l29_T.a2 v) (fSized_l29_T.a1 v) (fSized_l29_T.a2 v) (fSized_l29_s0 v) (fSized_l29_T.a0 v) (0 : Int) (fSized_l29_T.a3 v) (fSized_l29_T.a4 v) (fSized_l29_T.a5 v) (fSized_l29_T.a6 v) (fSized_l29_T.a7 v) (fSized_l29_T.a8 v) (fSized_l29_T.a9 v) (fSized_l29_T.a10 v) (fSized_l29_T.a11 v))], [(X.e (0 : Nat), !fSized_l29_s0 v, fSized_l29_T.mk (fSized_l29_T.a0 v) (fSized_l29_T.a1 v) (fSized_l29_T.a2 v) (fSized_l29_T.a3 v) (fSized_l29_T.a4 v) (fSized_l29_T.a5 v) (fSized_l29_T.a6 v) (fSized_l29_T.a7 v) (fSized_l29_T.a8 v) (fSized_l29_T.a9 v) (fSized_l29_T.a10 v) (fSized_l29_T.a11 v)), (X.n, fSized_l29_s0 v && isX (X.e (2 : Nat)) (fSized_l29_s1 v), fSized_l29_T.mk (fSized_l7475_T.a0 (V.valOf (fSized_l29_s1 v))) (fSized_l7475_T.a2 (V.valOf (fSized_l29_s1 v))) (IntKind.wrap IntKind.i64 (fSized_l7475_T.a3 (V.valOf (fSized_l29_s1 v)) + (1 : Int))) (fSized_l29_T.a3 v) (fSized_l29_T.a4 v) (fSized_l29_T.a5 v) (fSized_l29_T.a6 v) (fSized_l29_T.a7 v) (fSized_l29_T.a8 v) (fSized_l7475_T.a13 (V.valOf (fSized_l29_s1 v))) (fSized_l7475_T.a14 (V.valOf (fSized_l29_s1 v))) (fSized_l7475_T.a15 (V.valOf (fSized_l29_s1 v))))])
def fSized_l29_rd : HS → Option fSized_l29_T
  | HS.mk [(1, LV.a (At.int true IntKind.i64 a0)), (3, LV.a (At.ptr 0 0)), (6, LV.a (At.ptr 2 0)), (7, LV.a (At.ptr 3 0)), (15, LV.a (At.int true IntKind.i64 a1)), (16, LV.a (At.int true IntKind.i64 a2))] [BC.mk (Hd.mk 0 3 true none) [some (At.int true IntKind.u8 a3), some (At.int true IntKind.u8 a4), some (At.slc true 1 0 0 6 0 a5)], BC.mk (Hd.mk 0 0 true (some (Rw.mk 0 [Kd.int IntKind.u8, Kd.int IntKind.u8, Kd.int IntKind.u8, Kd.int IntKind.u8, Kd.int IntKind.u16, Kd.int IntKind.u8] a6 none))) [], BC.mk (Hd.mk 0 3 true none) [some (At.int true IntKind.i64 a7), some (At.int true IntKind.i64 a8), some At.nils], BC.mk (Hd.mk 0 3 false none) [some (At.int true IntKind.i64 a9), some (At.int true IntKind.i64 a10), some (At.vec 4 0 6)], BC.mk (Hd.mk 0 0 false (some (Rw.mk 0 [Kd.int IntKind.u8, Kd.int IntKind.u8, Kd.int IntKind.u8, Kd.int IntKind.u8, Kd.int IntKind.i64, Kd.int IntKind.u8] a11 none))) []] => some (fSized_l29_T.mk a0 a1 a2 a3 a4 a5 a6 a7 a8 a9 a10 a11)
  | _ => none
def fSized_l29_sum : V.Sum := loopS fSized_l29_hd fSized_l29_rd fSized_l29_st 18446744073709551616 [X.e (0 : Nat)] [0, 1, 2, 3, 6, 7, 8, 9, 10, 15, 16, 17, 19, 20, 21, 27] [1, 3, 6, 7, 15, 16] [3, 4] [4] [] 0
theorem fSized_l29_E : ∀ v, bodyF Try.prog tabFg1 (ntOf Try.prog 72) [0, 1, 2, 3, 6, 7, 8, 9, 10, 15, 16, 17, 19, 20, 21, 27] [1, 3, 6, 7, 15, 16] [(7475, fSized_l7475_sum)] 2000 [3, 4] [4] fSized_l29_code 116 (fSized_l29_hd v) = some ((fSized_l29_st v).1, (fSized_l29_st v).2.map fun q => (q.1, q.2.1, fSized_l29_hd q.2.2)) := fun v => by kernel_rfl
set_option maxHeartbeats 2000000 in
theorem fSized_l29_R : ∀ h v, fSized_l29_rd h = some v → h = fSized_l29_hd v := by
  intro h v e
  unfold fSized_l29_rd at e
  split at e
  · simp only [Option.some.injEq] at e; subst e; rfl
  · cases e
set_option maxRecDepth 100000 in
theorem fSized_l29_sok : SumOK Try.prog (ntOf Try.prog 72) [0, 1, 2, 3, 6, 7, 8, 9, 10, 15, 16, 17, 19, 20, 21, 27] (.block (blockOf (subs (bodyOf Try.prog 72) 1 29)) (.loop fSized_l29_code)) fSized_l29_sum := loopS_ok tabFg1_ok follows fSized_l29_E fSized_l29_R (fun v => by kernel_rfl) (LOK_of _ _ (LOK_cons (show subs fSized_l29_code 116 7475 = [.block (blockOf (subs (bodyOf Try.prog 72) 1 7475)) (.loop fSized_l7475_code)] from by kernel_rfl) fSized_l7475_sok (LOK_nil')))
def fSized_0 (sw : Int) (sh : Int) (ns : Nat) (x1 : Int) (x2 : Int) (s : List (List Int)) : Int := fSized_l29_T.a9 (V.valOf (lrun fSized_l29_st (18446744073709551616 : Nat) (fSized_l29_T.mk x1 x2 (0 : Int) sw sh ns s (0 : Int) (0 : Int) (fNew_s2 x1) (fNew_s5 x2) (fNew_0 x1 x2 (0 : Int) (0 : Int) (0 : Int) (0 : Int) (65535 : Int) (0 : Int)))))
def fSized_1 (sw : Int) (sh : Int) (ns : Nat) (x1 : Int) (x2 : Int) (s : List (List Int)) : Int := fSized_l29_T.a10 (V.valOf (lrun fSized_l29_st (18446744073709551616 : Nat) (fSized_l29_T.mk x1 x2 (0 : Int) sw sh ns s (0 : Int) (0 : Int) (fNew_s2 x1) (fNew_s5 x2) (fNew_0 x1 x2 (0 : Int) (0 : Int) (0 : Int) (0 : Int) (65535 : Int) (0 : Int)))))
def fSized_2 (sw : Int) (sh : Int) (ns : Nat) (x1 : Int) (x2 : Int) (s : List (List Int)) : List (List Int) := fSized_l29_T.a11 (V.valOf (lrun fSized_l29_st (18446744073709551616 : Nat) (fSized_l29_T.mk x1 x2 (0 : Int) sw sh ns s (0 : Int) (0 : Int) (fNew_s2 x1) (fNew_s5 x2) (fNew_0 x1 x2 (0 : Int) (0 : Int) (0 : Int) (0 : Int) (65535 : Int) (0 : Int)))))
def fSized_s0 (x1 : Int) (x2 : Int) : Int := bMul64_0 (IntKind.wrap IntKind.u64 (Int.ofNat (1 : Nat))) (IntKind.wrap IntKind.u64 (fNew_s6 x1 x2))
def fSized_s1 (x1 : Int) (x2 : Int) : Nat := sRep_s3 (fNew_s6 x1 x2) (0 : Int) (0 : Int) (0 : Int) (0 : Int) (65535 : Int) (0 : Int)
def fSized_o (sw : Int) (sh : Int) (ns : Nat) (x1 : Int) (x2 : Int) (r0 : Bool) (s : List (List Int)) : List Prop := [decide (fNew_s6 x1 x2 < (0 : Int)) = false, (bif decide ((0 : Int) < fSized_s0 x1 x2) then true else decide ((9223372036854775807 : Int) < sRep_s1 (fNew_s6 x1 x2))) = false, (0 : Int) ≤ IntKind.wrap IntKind.i64 (sRep_s1 (fNew_s6 x1 x2)) ∧ IntKind.wrap IntKind.i64 (sRep_s1 (fNew_s6 x1 x2)) = IntKind.wrap IntKind.i64 (sRep_s1 (fNew_s6 x1 x2)) ∧ IntKind.wrap IntKind.i64 (sRep_s1 (fNew_s6 x1 x2)) * Int.ofNat (24 : Nat) ≤ (70368744177664 : Int), lok sRep_l254_st (18446744073709551616 : Nat) (sRep_l254_T.mk (Int.ofNat (fSized_s1 x1 x2)) (List.take (0 : Nat) (sRep_s2 (fNew_s6 x1 x2)) ++ List.take (List.length (sRep_s2 (fNew_s6 x1 x2))) (sRep_s0 (0 : Int) (0 : Int) (0 : Int) (0 : Int) (65535 : Int) (0 : Int)) ++ List.drop ((0 : Nat) + fSized_s1 x1 x2) (sRep_s2 (fNew_s6 x1 x2)))), lok fSized_l29_st (18446744073709551616 : Nat) (fSized_l29_T.mk x1 x2 (0 : Int) sw sh ns s (0 : Int) (0 : Int) (fNew_s2 x1) (fNew_s5 x2) (fNew_0 x1 x2 (0 : Int) (0 : Int) (0 : Int) (0 : Int) (65535 : Int) (0 : Int)))]
theorem fSized_p (sw : Int) (sh : Int) (ns : Nat) (x1 : Int) (x2 : Int) (r0 : Bool) (s : List (List Int)) : evG Try.prog tabFg1 2000 72 [0, 1, 2, 3, 6, 7, 8, 9, 10, 15, 16, 17, 19, 20, 21, 27] [(29, fSized_l29_sum), (7475, fSized_l7475_sum)] [] [.g [.int true .u8 sw, .int true .u8 sh, .slc true 0 0 0 6 0 ns], .a (.int true .i64 x1), .a (.int true .i64 x2)] [⟨⟨0, 0, r0, some ⟨0, [.int .u8, .int .u8, .int .u8, .int .u8, .int .u16, .int .u8], s, none⟩⟩, []⟩] = some (fSized_o sw sh ns x1 x2 r0 s, LV.g [At.int true IntKind.i64 (fSized_0 sw sh ns x1 x2 s), At.int true IntKind.i64 (fSized_1 sw sh ns x1 x2 s), At.vec (nat_lit 1) (nat_lit 2) (nat_lit 6)], [none, some (BC.mk (Hd.mk (nat_lit 2) (nat_lit 0) false (some (Rw.mk (nat_lit 0) [Kd.int IntKind.u8, Kd.int IntKind.u8, Kd.int IntKind.u8, Kd.int IntKind.u8, Kd.int IntKind.i64, Kd.int IntKind.u8] (fSized_2 sw sh ns x1 x2 s) none))) [])]) := by kernel_rfl
def fSized_c : Con
  | [.g [.int true .u8 sw, .int true .u8 sh, .slc true 0 0 0 6 0 ns], .a (.int true .i64 x1), .a (.int true .i64 x2)], [⟨⟨0, 0, r0, some ⟨0, [.int .u8, .int .u8, .int .u8, .int .u8, .int .u16, .int .u8], s, none⟩⟩, []⟩] => some (fSized_o sw sh ns x1 x2 r0 s, LV.g [At.int true IntKind.i64 (fSized_0 sw sh ns x1 x2 s), At.int true IntKind.i64 (fSized_1 sw sh ns x1 x2 s), At.vec (nat_lit 1) (nat_lit 2) (nat_lit 6)], [none, some (BC.mk (Hd.mk (nat_lit 2) (nat_lit 0) false (some (Rw.mk (nat_lit 0) [Kd.int IntKind.u8, Kd.int IntKind.u8, Kd.int IntKind.u8, Kd.int IntKind.u8, Kd.int IntKind.i64, Kd.int IntKind.u8] (fSized_2 sw sh ns x1 x2 s) none))) [])])
  | _, _ => none
theorem fSized_ok : ConOK Try.prog 72 (normC fSized_c) := normC_ok (by
  intro args bs obs lv out h ho φ vs w may ha hM
  unfold fSized_c at h
  split at h
  · simp only [Option.some.injEq, Prod.mk.injEq] at h
    obtain ⟨rfl, rfl, rfl⟩ := h
    rename_i sw sh ns x1 x2 r0 s
    exact evG_okL' tabFg1_ok follows (LOK_cons (show subs (bodyOf Try.prog 72) 1 29 = [.block (blockOf (subs (bodyOf Try.prog 72) 1 29)) (.loop fSized_l29_code)] from by kernel_rfl) fSized_l29_sok (LOK_cons (show subs (bodyOf Try.prog 72) 1 7475 = [.block (blockOf (subs (bodyOf Try.prog 72) 1 7475)) (.loop fSized_l7475_code)] from by kernel_rfl) fSized_l7475_sok (LOK_nil'))) _ _ _ _ _ (fSized_p sw sh ns x1 x2 r0 s) ho φ vs w may ha hM
  · cases h)
theorem fSized_en : Enters Try.prog 72 := fun args => by kernel_rfl
-- 3979 27 16 ms

def tabFg2 : Tab := (72, normC fSized_c) :: tabFg1
theorem tabFg2_ok : TOK Try.prog tabFg2 := TOK.cons fSized_en fSized_ok (tabFg1_ok)

end Go.Proofs.Ytcdejlgophpdjaa
