/-
  Contracts of functions of the program, each run on the local memory (printed by a program of this session's own: wip/tools).
-/
import Derived.Test.YtcdejlgophpdjaaFd4
namespace Go.Proofs.Ytcdejlgophpdjaa
open Go Go.RowKit Go.Proofs.Ytcdejlgophpdjaa.V
set_option linter.unusedVariables false

/-! azulejo/frame.Same -/
def fSame_s0 (w0 : Int) (h0 : Int) (w1 : Int) (h1 : Int) : Bool := w0 == w1 && h0 == h1
def fSame_0 (w0 : Int) (h0 : Int) (w1 : Int) (h1 : Int) (l : List (List Int)) (m : List (List Int)) : Bool := bif fSame_s0 w0 h0 w1 h1 then sEqual_0 l m else false
def fSame_o (w0 : Int) (h0 : Int) (w1 : Int) (h1 : Int) (r0 : Bool) (l : List (List Int)) (r1 : Bool) (m : List (List Int)) : List Prop := [fSame_s0 w0 h0 w1 h1 = true → (!sEqual_s0 l m) = true → lok sEqual_l29_st (18446744073709551616 : Nat) (sEqual_l29_T.mk false (Int.ofNat (List.length l)) (0 : Int) l m)]
theorem fSame_p (w0 : Int) (h0 : Int) (w1 : Int) (h1 : Int) (r0 : Bool) (l : List (List Int)) (r1 : Bool) (m : List (List Int)) : evG Try.prog tabFd4 2000 69 [0, 1, 2, 3, 4] [] [] [.g [.int true .i64 w0, .int true .i64 h0, .vec 0 0 6], .g [.int true .i64 w1, .int true .i64 h1, .vec 1 0 6]] [⟨⟨0, 0, r0, some ⟨0, [.int .u8, .int .u8, .int .u8, .int .u8, .int .i64, .int .u8], l, none⟩⟩, []⟩, ⟨⟨0, 0, r1, some ⟨0, [.int .u8, .int .u8, .int .u8, .int .u8, .int .i64, .int .u8], m, none⟩⟩, []⟩] = some (fSame_o w0 h0 w1 h1 r0 l r1 m, LV.a (At.bool true (fSame_0 w0 h0 w1 h1 l m)), [none, none]) := by kernel_rfl
def fSame_c : Con
  | [.g [.int true .i64 w0, .int true .i64 h0, .vec 0 0 6], .g [.int true .i64 w1, .int true .i64 h1, .vec 1 0 6]], [⟨⟨0, 0, r0, some ⟨0, [.int .u8, .int .u8, .int .u8, .int .u8, .int .i64, .int .u8], l, none⟩⟩, []⟩, ⟨⟨0, 0, r1, some ⟨0, [.int .u8, .int .u8, .int .u8, .int .u8, .int .i64, .int .u8], m, none⟩⟩, []⟩] => some (fSame_o w0 h0 w1 h1 r0 l r1 m, LV.a (At.bool true (fSame_0 w0 h0 w1 h1 l m)), [none, none])
  | _, _ => none
theorem fSame_ok : ConOK Try.prog 69 (normC fSame_c) := normC_ok (by
  intro args bs obs lv out h ho φ vs w may ha hM
  unfold fSame_c at h
  split at h
  · simp only [Option.some.injEq, Prod.mk.injEq] at h
    obtain ⟨rfl, rfl, rfl⟩ := h
    rename_i w0 h0 w1 h1 r0 l r1 m
    exact evG_ok tabFd4_ok follows _ _ _ _ _ (fSame_p w0 h0 w1 h1 r0 l r1 m) ho φ vs w may ha hM
  · cases h)
theorem fSame_en : Enters Try.prog 69 := fun args => by kernel_rfl
-- 320 9 6 ms

/-! azulejo/frame.SameIn -/
noncomputable def fSameIn_l841_code : Go.Code := loopOf (subs (bodyOf Try.prog 70) 1 841)
structure fSameIn_l841_T where
  a0 : Bool
  a1 : Int
  a2 : Int
  a3 : Bool
  a4 : Int
  a5 : Int
  a6 : List (List Int)
  a7 : Int
  a8 : Int
  a9 : List (List Int)
  a10 : Int
  a11 : Int
  a12 : Int
  a13 : Int
  deriving Inhabited
def fSameIn_l841_hd (v : fSameIn_l841_T) : HS := HS.mk [(nat_lit 3, LV.a (At.ptr (nat_lit 0) (nat_lit 0))), (nat_lit 4, LV.a (At.ptr (nat_lit 2) (nat_lit 0))), (nat_lit 5, LV.a (At.ptr (nat_lit 4) (nat_lit 0))), (nat_lit 6, LV.a (At.bool true (fSameIn_l841_T.a0 v))), (nat_lit 7, LV.a (At.int true IntKind.i64 (fSameIn_l841_T.a1 v))), (nat_lit 8, LV.a (At.int true IntKind.i64 (fSameIn_l841_T.a2 v))), (nat_lit 16, LV.a (At.bool true (fSameIn_l841_T.a3 v)))] [BC.mk (Hd.mk (nat_lit 0) (nat_lit 3) true none) [some (At.int true IntKind.i64 (fSameIn_l841_T.a4 v)), some (At.int true IntKind.i64 (fSameIn_l841_T.a5 v)), some (At.vec (nat_lit 1) (nat_lit 0) (nat_lit 6))], BC.mk (Hd.mk (nat_lit 0) (nat_lit 0) true (some (Rw.mk (nat_lit 0) [Kd.int IntKind.u8, Kd.int IntKind.u8, Kd.int IntKind.u8, Kd.int IntKind.u8, Kd.int IntKind.i64, Kd.int IntKind.u8] (fSameIn_l841_T.a6 v) none))) [], BC.mk (Hd.mk (nat_lit 0) (nat_lit 3) true none) [some (At.int true IntKind.i64 (fSameIn_l841_T.a7 v)), some (At.int true IntKind.i64 (fSameIn_l841_T.a8 v)), some (At.vec (nat_lit 3) (nat_lit 0) (nat_lit 6))], BC.mk (Hd.mk (nat_lit 0) (nat_lit 0) true (some (Rw.mk (nat_lit 0) [Kd.int IntKind.u8, Kd.int IntKind.u8, Kd.int IntKind.u8, Kd.int IntKind.u8, Kd.int IntKind.i64, Kd.int IntKind.u8] (fSameIn_l841_T.a9 v) none))) [], BC.mk (Hd.mk (nat_lit 0) (nat_lit 4) true none) [some (At.int true IntKind.i64 (fSameIn_l841_T.a10 v)), some (At.int true IntKind.i64 (fSameIn_l841_T.a11 v)), some (At.int true IntKind.i64 (fSameIn_l841_T.a12 v)), some (At.int true IntKind.i64 (fSameIn_l841_T.a13 v))]]
def fSameIn_l841_s0 (v : fSameIn_l841_T) : Int := if (64 : Int) < fSameIn_l841_T.a12 v then (64 : Int) else fSameIn_l841_T.a12 v
def fSameIn_l841_s1 (v : fSameIn_l841_T) : Bool := decide (fSameIn_l841_T.a2 v < fSameIn_l841_s0 v)
def fSameIn_l841_s2 (v : fSameIn_l841_T) : Bool := !(fAt_0 (fSameIn_l841_T.a4 v) (fSameIn_l841_T.a5 v) (fSameIn_l841_T.a2 v) (fSameIn_l841_T.a1 v) (fSameIn_l841_T.a6 v) == fAt_0 (fSameIn_l841_T.a7 v) (fSameIn_l841_T.a8 v) (fSameIn_l841_T.a2 v) (fSameIn_l841_T.a1 v) (fSameIn_l841_T.a9 v) && (fAt_1 (fSameIn_l841_T.a4 v) (fSameIn_l841_T.a5 v) (fSameIn_l841_T.a2 v) (fSameIn_l841_T.a1 v) (fSameIn_l841_T.a6 v) == fAt_1 (fSameIn_l841_T.a7 v) (fSameIn_l841_T.a8 v) (fSameIn_l841_T.a2 v) (fSameIn_l841_T.a1 v) (fSameIn_l841_T.a9 v) && (fAt_2 (fSameIn_l841_T.a4 v) (fSameIn_l841_T.a5 v) (fSameIn_l841_T.a2 v) (fSameIn_l841_T.a1 v) (fSameIn_l841_T.a6 v) == fAt_2 (fSameIn_l841_T.a7 v) (fSameIn_l841_T.a8 v) (fSameIn_l841_T.a2 v) (fSameIn_l841_T.a1 v) (fSameIn_l841_T.a9 v) && fAt_3 (fSameIn_l841_T.a4 v) (fSameIn_l841_T.a5 v) (fSameIn_l841_T.a2 v) (fSameIn_l841_T.a1 v) (fSameIn_l841_T.a6 v) == fAt_3 (fSameIn_l841_T.a7 v) (fSameIn_l841_T.a8 v) (fSameIn_l841_T.a2 v) (fSameIn_l841_T.a1 v) (fSameIn_l841_T.a9 v))) && (fAt_4 (fSameIn_l841_T.a4 v) (fSameIn_l841_T.a5 v) (fSameIn_l841_T.a2 v) (fSameIn_l841_T.a1 v) (fSameIn_l841_T.a6 v) == fAt_4 (fSameIn_l841_T.a7 v) (fSameIn_l841_T.a8 v) (fSameIn_l841_T.a2 v) (fSameIn_l841_T.a1 v) (fSameIn_l841_T.a9 v) && fAt_5 (fSameIn_l841_T.a4 v) (fSameIn_l841_T.a5 v) (fSameIn_l841_T.a2 v) (fSameIn_l841_T.a1 v) (fSameIn_l841_T.a6 v) == fAt_5 (fSameIn_l841_T.a7 v) (fSameIn_l841_T.a8 v) (fSameIn_l841_T.a2 v) (fSameIn_l841_T.a1 v) (fSameIn_l841_T.a9 v)))
def fSameIn_l841_st (v : fSameIn_l841_T) : List Prop × List (X × Bool × fSameIn_l841_T) := ([fSameIn_l841_s1 v = true → (!fAt_s1 (fSameIn_l841_T.a4 v) (fSameIn_l841_T.a5 v) (fSameIn_l841_T.a2 v) (fSameIn_l841_T.a1 v) (fSameIn_l841_T.a6 v)) = true → (0 : Int) ≤ fAt_s0 (fSameIn_l841_T.a4 v) (fSameIn_l841_T.a2 v) (fSameIn_l841_T.a1 v) ∧ fAt_s0 (fSameIn_l841_T.a4 v) (fSameIn_l841_T.a2 v) (fSameIn_l841_T.a1 v) < Int.ofNat (List.length (fSameIn_l841_T.a6 v)), fSameIn_l841_s1 v = true → (!fAt_s1 (fSameIn_l841_T.a7 v) (fSameIn_l841_T.a8 v) (fSameIn_l841_T.a2 v) (fSameIn_l841_T.a1 v) (fSameIn_l841_T.a9 v)) = true → (0 : Int) ≤ fAt_s0 (fSameIn_l841_T.a7 v) (fSameIn_l841_T.a2 v) (fSameIn_l841_T.a1 v) ∧ fAt_s0 (fSameIn_l841_T.a7 v) (fSameIn_l841_T.a2 v) (fSameIn_l841_T.a1 v) < Int.ofNat (List.length (fSameIn_l841_T.a9 v))], [(X.e (2 : Nat), !fSameIn_l841_s1 v, fSameIn_l841_T.mk (fSameIn_l841_T.a0 v) (fSameIn_l841_T.a1 v) (fSameIn_l841_T.a2 v) (fSameIn_l841_T.a3 v) (fSameIn_l841_T.a4 v) (fSameIn_l841_T.a5 v) (fSameIn_l841_T.a6 v) (fSameIn_l841_T.a7 v) (fSameIn_l841_T.a8 v) (fSameIn_l841_T.a9 v) (fSameIn_l841_T.a10 v) (fSameIn_l841_T.a11 v) (fSameIn_l841_T.a12 v) (fSameIn_l841_T.a13 v)), (X.r, fSameIn_l841_s1 v && fSameIn_l841_s2 v, fSameIn_l841_T.mk (false) (fSameIn_l841_T.a1 v) (fSameIn_l841_T.a2 v) (fSameIn_l841_T.a3 v) (fSameIn_l841_T.a4 v) (fSameIn_l841_T.a5 v) (fSameIn_l841_T.a6 v) (fSameIn_l841_T.a7 v) (fSameIn_l841_T.a8 v) (fSameIn_l841_T.a9 v) (fSameIn_l841_T.a10 v) (fSameIn_l841_T.a11 v) (fSameIn_l841_T.a12 v) (fSameIn_l841_T.a13 v)), (X.n, fSameIn_l841_s1 v && !fSameIn_l841_s2 v, fSameIn_l841_T.mk (fSameIn_l841_T.a0 v) (fSameIn_l841_T.a1 v) (IntKind.wrap IntKind.i64 (fSameIn_l841_T.a2 v + (1 : Int))) (fSameIn_l841_T.a3 v) (fSameIn_l841_T.a4 v) (fSameIn_l841_T.a5 v) (fSameIn_l841_T.a6 v) (fSameIn_l841_T.a7 v) (fSameIn_l841_T.a8 v) (fSameIn_l841_T.a9 v) (fSameIn_l841_T.a10 v) (fSameIn_l841_T.a11 v) (fSameIn_l841_T.a12 v) (fSameIn_l841_T.a13 v))])
def fSameIn_l841_rd : HS → Option fSameIn_l841_T
  | HS.mk [(3, LV.a (At.ptr 0 0)), (4, LV.a (At.ptr 2 0)), (5, LV.a (At.ptr 4 0)), (6, LV.a (At.bool true a0)), (7, LV.a (At.int true IntKind.i64 a1)), (8, LV.a (At.int true IntKind.i64 a2)), (16, LV.a (At.bool true a3))] [BC.mk (Hd.mk 0 3 true none) [some (At.int true IntKind.i64 a4), some (At.int true IntKind.i64 a5), some (At.vec 1 0 6)], BC.mk (Hd.mk 0 0 true (some (Rw.mk 0 [Kd.int IntKind.u8, Kd.int IntKind.u8, Kd.int IntKind.u8, Kd.int IntKind.u8, Kd.int IntKind.i64, Kd.int IntKind.u8] a6 none))) [], BC.mk (Hd.mk 0 3 true none) [some (At.int true IntKind.i64 a7), some (At.int true IntKind.i64 a8), some (At.vec 3 0 6)], BC.mk (Hd.mk 0 0 true (some (Rw.mk 0 [Kd.int IntKind.u8, Kd.int IntKind.u8, Kd.int IntKind.u8, Kd.int IntKind.u8, Kd.int IntKind.i64, Kd.int IntKind.u8] a9 none))) [], BC.mk (Hd.mk 0 4 true none) [some (At.int true IntKind.i64 a10), some (At.int true IntKind.i64 a11), some (At.int true IntKind.i64 a12), some (At.int true IntKind.i64 a13)]] => some (fSameIn_l841_T.mk a0 a1 a2 a3 a4 a5 a6 a7 a8 a9 a10 a11 a12 a13)
  | _ => none
def fSameIn_l841_sum : V.Sum := loopS fSameIn_l841_hd fSameIn_l841_rd fSameIn_l841_st 18446744073709551616 [X.e (2 : Nat), X.r] [0, 1, 2, 3, 4, 5, 6, 7, 8, 16, 26, 37] [3, 4, 5, 6, 7, 8, 16] [] [] [] 2
theorem fSameIn_l841_E : ∀ v, bodyF Try.prog tabFd4 (ntOf Try.prog 70) [0, 1, 2, 3, 4, 5, 6, 7, 8, 16, 26, 37] [3, 4, 5, 6, 7, 8, 16] [] 2000 [] [] fSameIn_l841_code 3364 (fSameIn_l841_hd v) = some ((fSameIn_l841_st v).1, (fSameIn_l841_st v).2.map fun q => (q.1, q.2.1, fSameIn_l841_hd q.2.2)) := fun v => by kernel_rfl
set_option maxHeartbeats 2000000 in
theorem fSameIn_l841_R : ∀ h v, fSameIn_l841_rd h = some v → h = fSameIn_l841_hd v := by
  intro h v e
  unfold fSameIn_l841_rd at e
  split at e
  · simp only [Option.some.injEq] at e; subst e; rfl
  · cases e
set_option maxRecDepth 100000 in
theorem fSameIn_l841_sok : SumOK Try.prog (ntOf Try.prog 70) [0, 1, 2, 3, 4, 5, 6, 7, 8, 16, 26, 37] (.block (blockOf (subs (bodyOf Try.prog 70) 1 841)) (.loop fSameIn_l841_code)) fSameIn_l841_sum := loopS_ok tabFd4_ok follows fSameIn_l841_E fSameIn_l841_R (fun v => by kernel_rfl) (LOK_of _ _ (LOK_nil'))
noncomputable def fSameIn_l13_code : Go.Code := loopOf (subs (bodyOf Try.prog 70) 1 13)
structure fSameIn_l13_T where
  a0 : Bool
  a1 : Int
  a2 : Int
  a3 : Int
  a4 : List (List Int)
  a5 : Int
  a6 : Int
  a7 : List (List Int)
  a8 : Int
  a9 : Int
  a10 : Int
  a11 : Int
  deriving Inhabited
def fSameIn_l13_hd (v : fSameIn_l13_T) : HS := HS.mk [(nat_lit 3, LV.a (At.ptr (nat_lit 0) (nat_lit 0))), (nat_lit 4, LV.a (At.ptr (nat_lit 2) (nat_lit 0))), (nat_lit 5, LV.a (At.ptr (nat_lit 4) (nat_lit 0))), (nat_lit 6, LV.a (At.bool true (fSameIn_l13_T.a0 v))), (nat_lit 7, LV.a (At.int true IntKind.i64 (fSameIn_l13_T.a1 v)))] [BC.mk (Hd.mk (nat_lit 0) (nat_lit 3) true none) [some (At.int true IntKind.i64 (fSameIn_l13_T.a2 v)), some (At.int true IntKind.i64 (fSameIn_l13_T.a3 v)), some (At.vec (nat_lit 1) (nat_lit 0) (nat_lit 6))], BC.mk (Hd.mk (nat_lit 0) (nat_lit 0) true (some (Rw.mk (nat_lit 0) [Kd.int IntKind.u8, Kd.int IntKind.u8, Kd.int IntKind.u8, Kd.int IntKind.u8, Kd.int IntKind.i64, Kd.int IntKind.u8] (fSameIn_l13_T.a4 v) none))) [], BC.mk (Hd.mk (nat_lit 0) (nat_lit 3) true none) [some (At.int true IntKind.i64 (fSameIn_l13_T.a5 v)), some (At.int true IntKind.i64 (fSameIn_l13_T.a6 v)), some (At.vec (nat_lit 3) (nat_lit 0) (nat_lit 6))], BC.mk (Hd.mk (nat_lit 0) (nat_lit 0) true (some (Rw.mk (nat_lit 0) [Kd.int IntKind.u8, Kd.int IntKind.u8, Kd.int IntKind.u8, Kd.int IntKind.u8, Kd.int IntKind.i64, Kd.int IntKind.u8] (fSameIn_l13_T.a7 v) none))) [], BC.mk (Hd.mk (nat_lit 0) (nat_lit 4) true none) [some (At.int true IntKind.i64 (fSameIn_l13_T.a8 v)), some (At.int true IntKind.i64 (fSameIn_l13_T.a9 v)), some (At.int true IntKind.i64 (fSameIn_l13_T.a10 v)), some (At.int true IntKind.i64 (fSameIn_l13_T.a11 v))]]
def fSameIn_l13_s0 (v : fSameIn_l13_T) : Int := if (64 : Int) < fSameIn_l13_T.a11 v then (64 : Int) else fSameIn_l13_T.a11 v
def fSameIn_l13_s1 (v : fSameIn_l13_T) : Bool := decide (fSameIn_l13_T.a1 v < fSameIn_l13_s0 v)
def fSameIn_l13_s2 (v : fSameIn_l13_T) : Option (X × fSameIn_l841_T) := lrun fSameIn_l841_st (18446744073709551616 : Nat) (fSameIn_l841_T.mk (fSameIn_l13_T.a0 v) (fSameIn_l13_T.a1 v) (if fSameIn_l13_T.a8 v < (0 : Int) then (0 : Int) else fSameIn_l13_T.a8 v) (fSameIn_l13_s1 v) (fSameIn_l13_T.a2 v) (fSameIn_l13_T.a3 v) (fSameIn_l13_T.a4 v) (fSameIn_l13_T.a5 v) (fSameIn_l13_T.a6 v) (fSameIn_l13_T.a7 v) (fSameIn_l13_T.a8 v) (fSameIn_l13_T.a9 v) (fSameIn_l13_T.a10 v) (fSameIn_l13_T.a11 v))
def fSameIn_l13_st (v : fSameIn_l13_T) : List Prop × List (X × Bool × fSameIn_l13_T) := ([fSameIn_l13_s1 v = true → lok fSameIn_l841_st (18446744073709551616 : Nat) (fSameIn_l841_T.mk (fSameIn_l13_T.a0 v) (fSameIn_l13_T.a1 v) (if fSameIn_l13_T.a8 v < (0 : Int) then (0 : Int) else fSameIn_l13_T.a8 v) (fSameIn_l13_s1 v) (fSameIn_l13_T.a2 v) (fSameIn_l13_T.a3 v) (fSameIn_l13_T.a4 v) (fSameIn_l13_T.a5 v) (fSameIn_l13_T.a6 v) (fSameIn_l13_T.a7 v) (fSameIn_l13_T.a8 v) (fSameIn_l13_T.a9 v) (fSameIn_l13_T.a10 v) (fSameIn_l13_T.a11 v))], [(X.e (0 : Nat), !fSameIn_l13_s1 v, fSameIn_l13_T.mk (fSameIn_l13_T.a0 v) (fSameIn_l13_T.a1 v) (fSameIn_l13_T.a2 v) (fSameIn_l13_T.a3 v) (fSameIn_l13_T.a4 v) (fSameIn_l13_T.a5 v) (fSameIn_l13_T.a6 v) (fSameIn_l13_T.a7 v) (fSameIn_l13_T.a8 v) (fSameIn_l13_T.a9 v) (fSameIn_l13_T.a10 v) (fSameIn_l13_T.a11 v)), (X.r, fSameIn_l13_s1 v && isX X.r (fSameIn_l13_s2 v), fSameIn_l13_T.mk (fSameIn_l841_T.a0 (V.valOf (fSameIn_l13_s2 v))) (fSameIn_l841_T.a1 (V.valOf (fSameIn_l13_s2 v))) (fSameIn_l13_T.a2 v) (fSameIn_l13_T.a3 v) (fSameIn_l13_T.a4 v) (fSameIn_l13_T.a5 v) (fSameIn_l13_T.a6 v) (fSameIn_l13_T.a7 v) (fSameIn_l13_T.a8 v) (fSameIn_l13_T.a9 v) (fSameIn_l13_T.a10 v) (fSameIn_l13_T.a11 v)), (X.n, fSameIn_l13_s1 v && isX (X.e (2 : Nat)) (fSameIn_l13_s2 v), fSameIn_l13_T.mk (fSameIn_l841_T.a0 (V.valOf (fSameIn_l13_s2 v))) (IntKind.wrap IntKind.i64 (fSameIn_l841_T.a1 (V.valOf (fSameIn_l13_s2 v)) + (1 : Int))) (fSameIn_l13_T.a2 v) (fSameIn_l13_T.a3 v) (fSameIn_l13_T.a4 v) (fSameIn_l13_T.a5 v) (fSameIn_l13_T.a6 v) (fSameIn_l13_T.a7 v) (fSameIn_l13_T.a8 v) (fSameIn_l13_T.a9 v) (fSameIn_l13_T.a10 v) (fSameIn_l13_T.a11 v))])
def fSameIn_l13_rd : HS → Option fSameIn_l13_T
  | HS.mk [(3, LV.a (At.ptr 0 0)), (4, LV.a (At.ptr 2 0)), (5, LV.a (At.ptr 4 0)), (6, LV.a (At.bool true a0)), (7, LV.a (At.int true IntKind.i64 a1))] [BC.mk (Hd.mk 0 3 true none) [some (At.int true IntKind.i64 a2), some (At.int true IntKind.i64 a3), some (At.vec 1 0 6)], BC.mk (Hd.mk 0 0 true (some (Rw.mk 0 [Kd.int IntKind.u8, Kd.int IntKind.u8, Kd.int IntKind.u8, Kd.int IntKind.u8, Kd.int IntKind.i64, Kd.int IntKind.u8] a4 none))) [], BC.mk (Hd.mk 0 3 true none) [some (At.int true IntKind.i64 a5), some (At.int true IntKind.i64 a6), some (At.vec 3 0 6)], BC.mk (Hd.mk 0 0 true (some (Rw.mk 0 [Kd.int IntKind.u8, Kd.int IntKind.u8, Kd.int IntKind.u8, Kd.int IntKind.u8, Kd.int IntKind.i64, Kd.int IntKind.u8] a7 none))) [], BC.mk (Hd.mk 0 4 true none) [some (At.int true IntKind.i64 a8), some (At.int true IntKind.i64 a9), some (At.int true IntKind.i64 a10), some (At.int true IntKind.i64 a11)]] => some (fSameIn_l13_T.mk a0 a1 a2 a3 a4 a5 a6 a7 a8 a9 a10 a11)
  | _ => none
def fSameIn_l13_sum : V.Sum := loopS fSameIn_l13_hd fSameIn_l13_rd fSameIn_l13_st 18446744073709551616 [X.e (0 : Nat), X.r] [0, 1, 2, 3, 4, 5, 6, 7, 8, 16, 26, 37] [3, 4, 5, 6, 7] [] [] [] 0
theorem fSameIn_l13_E : ∀ v, bodyF Try.prog tabFd4 (ntOf Try.prog 70) [0, 1, 2, 3, 4, 5, 6, 7, 8, 16, 26, 37] [3, 4, 5, 6, 7] [(841, fSameIn_l841_sum)] 2000 [] [] fSameIn_l13_code 52 (fSameIn_l13_hd v) = some ((fSameIn_l13_st v).1, (fSameIn_l13_st v).2.map fun q => (q.1, q.2.1, fSameIn_l13_hd q.2.2)) := fun v => by kernel_rfl
set_option maxHeartbeats 2000000 in
theorem fSameIn_l13_R : ∀ h v, fSameIn_l13_rd h = some v → h = fSameIn_l13_hd v := by
  intro h v e
  unfold fSameIn_l13_rd at e
  split at e
  · simp only [Option.some.injEq] at e; subst e; rfl
  · cases e
set_option maxRecDepth 100000 in
theorem fSameIn_l13_sok : SumOK Try.prog (ntOf Try.prog 70) [0, 1, 2, 3, 4, 5, 6, 7, 8, 16, 26, 37] (.block (blockOf (subs (bodyOf Try.prog 70) 1 13)) (.loop fSameIn_l13_code)) fSameIn_l13_sum := loopS_ok tabFd4_ok follows fSameIn_l13_E fSameIn_l13_R (fun v => by kernel_rfl) (LOK_of _ _ (LOK_cons (show subs fSameIn_l13_code 52 841 = [.block (blockOf (subs (bodyOf Try.prog 70) 1 841)) (.loop fSameIn_l841_code)] from by kernel_rfl) fSameIn_l841_sok (LOK_nil')))
def fSameIn_s0 (w0 : Int) (h0 : Int) (w1 : Int) (h1 : Int) (x2_0 : Int) (x2_1 : Int) (x2_2 : Int) (x2_3 : Int) (l : List (List Int)) (m : List (List Int)) : Option (X × fSameIn_l13_T) := lrun fSameIn_l13_st (18446744073709551616 : Nat) (fSameIn_l13_T.mk false (if x2_1 < (0 : Int) then (0 : Int) else x2_1) w0 h0 l w1 h1 m x2_0 x2_1 x2_2 x2_3)
def fSameIn_0 (w0 : Int) (h0 : Int) (w1 : Int) (h1 : Int) (x2_0 : Int) (x2_1 : Int) (x2_2 : Int) (x2_3 : Int) (l : List (List Int)) (m : List (List Int)) : Bool := bif isX X.r (fSameIn_s0 w0 h0 w1 h1 x2_0 x2_1 x2_2 x2_3 l m) then fSameIn_l13_T.a0 (V.valOf (fSameIn_s0 w0 h0 w1 h1 x2_0 x2_1 x2_2 x2_3 l m)) else true
def fSameIn_o (w0 : Int) (h0 : Int) (w1 : Int) (h1 : Int) (x2_0 : Int) (x2_1 : Int) (x2_2 : Int) (x2_3 : Int) (r0 : Bool) (l : List (List Int)) (r1 : Bool) (m : List (List Int)) : List Prop := [lok fSameIn_l13_st (18446744073709551616 : Nat) (fSameIn_l13_T.mk false (if x2_1 < (0 : Int) then (0 : Int) else x2_1) w0 h0 l w1 h1 m x2_0 x2_1 x2_2 x2_3)]
theorem fSameIn_p (w0 : Int) (h0 : Int) (w1 : Int) (h1 : Int) (x2_0 : Int) (x2_1 : Int) (x2_2 : Int) (x2_3 : Int) (r0 : Bool) (l : List (List Int)) (r1 : Bool) (m : List (List Int)) : evG Try.prog tabFd4 2000 70 [0, 1, 2, 3, 4, 5, 6, 7, 8, 16, 26, 37] [(13, fSameIn_l13_sum), (841, fSameIn_l841_sum)] [] [.g [.int true .i64 w0, .int true .i64 h0, .vec 0 0 6], .g [.int true .i64 w1, .int true .i64 h1, .vec 1 0 6], .g [.int true .i64 x2_0, .int true .i64 x2_1, .int true .i64 x2_2, .int true .i64 x2_3]] [⟨⟨0, 0, r0, some ⟨0, [.int .u8, .int .u8, .int .u8, .int .u8, .int .i64, .int .u8], l, none⟩⟩, []⟩, ⟨⟨0, 0, r1, some ⟨0, [.int .u8, .int .u8, .int .u8, .int .u8, .int .i64, .int .u8], m, none⟩⟩, []⟩] = some (fSameIn_o w0 h0 w1 h1 x2_0 x2_1 x2_2 x2_3 r0 l r1 m, LV.a (At.bool true (fSameIn_0 w0 h0 w1 h1 x2_0 x2_1 x2_2 x2_3 l m)), [none, none]) := by kernel_rfl
def fSameIn_c : Con
  | [.g [.int true .i64 w0, .int true .i64 h0, .vec 0 0 6], .g [.int true .i64 w1, .int true .i64 h1, .vec 1 0 6], .g [.int true .i64 x2_0, .int true .i64 x2_1, .int true .i64 x2_2, .int true .i64 x2_3]], [⟨⟨0, 0, r0, some ⟨0, [.int .u8, .int .u8, .int .u8, .int .u8, .int .i64, .int .u8], l, none⟩⟩, []⟩, ⟨⟨0, 0, r1, some ⟨0, [.int .u8, .int .u8, .int .u8, .int .u8, .int .i64, .int .u8], m, none⟩⟩, []⟩] => some (fSameIn_o w0 h0 w1 h1 x2_0 x2_1 x2_2 x2_3 r0 l r1 m, LV.a (At.bool true (fSameIn_0 w0 h0 w1 h1 x2_0 x2_1 x2_2 x2_3 l m)), [none, none])
  | _, _ => none
theorem fSameIn_ok : ConOK Try.prog 70 (normC fSameIn_c) := normC_ok (by
  intro args bs obs lv out h ho φ vs w may ha hM
  unfold fSameIn_c at h
  split at h
  · simp only [Option.some.injEq, Prod.mk.injEq] at h
    obtain ⟨rfl, rfl, rfl⟩ := h
    rename_i w0 h0 w1 h1 x2_0 x2_1 x2_2 x2_3 r0 l r1 m
    exact evG_okL' tabFd4_ok follows (LOK_cons (show subs (bodyOf Try.prog 70) 1 13 = [.block (blockOf (subs (bodyOf Try.prog 70) 1 13)) (.loop fSameIn_l13_code)] from by kernel_rfl) fSameIn_l13_sok (LOK_cons (show subs (bodyOf Try.prog 70) 1 841 = [.block (blockOf (subs (bodyOf Try.prog 70) 1 841)) (.loop fSameIn_l841_code)] from by kernel_rfl) fSameIn_l841_sok (LOK_nil'))) _ _ _ _ _ (fSameIn_p w0 h0 w1 h1 x2_0 x2_1 x2_2 x2_3 r0 l r1 m) ho φ vs w may ha hM
  · cases h)
theorem fSameIn_en : Enters Try.prog 70 := fun args => by kernel_rfl
-- 3306 33 9 ms

def tabFg1 : Tab := (69, normC fSame_c) :: (70, normC fSameIn_c) :: tabFd4
theorem tabFg1_ok : TOK Try.prog tabFg1 := TOK.cons fSame_en fSame_ok (TOK.cons fSameIn_en fSameIn_ok (tabFd4_ok))

end Go.Proofs.Ytcdejlgophpdjaa
