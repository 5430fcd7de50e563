/-
  Contracts of functions of the program, each run on the local memory (printed by a program of this session's own: wip/tools).
-/
import Derived.Test.YtcdejlgophpdjaaFb
namespace Go.Proofs.Ytcdejlgophpdjaa
open Go Go.RowKit Go.Proofs.Ytcdejlgophpdjaa.V
set_option linter.unusedVariables false

/-! azulejo/frame.New -/
def fNew_s0 (x0 : Int) : Int := if x0 < (1 : Int) then (1 : Int) else x0
def fNew_s1 (x0 : Int) : Int := if (1 : Int) > x0 then (1 : Int) else x0
def fNew_s2 (x0 : Int) : Int := if (64 : Int) < fNew_s0 x0 then (64 : Int) else fNew_s0 x0
def fNew_s3 (x1 : Int) : Int := if x1 < (1 : Int) then (1 : Int) else x1
def fNew_s4 (x1 : Int) : Int := if (1 : Int) > x1 then (1 : Int) else x1
def fNew_s5 (x1 : Int) : Int := if (64 : Int) < fNew_s3 x1 then (64 : Int) else fNew_s3 x1
def fNew_s6 (x0 : Int) (x1 : Int) : Int := IntKind.wrap IntKind.i64 (fNew_s2 x0 * fNew_s5 x1)
def fNew_0 (x0 : Int) (x1 : Int) (x2_0 : Int) (x2_1 : Int) (x2_2 : Int) (x2_3 : Int) (x2_4 : Int) (x2_5 : Int) : List (List Int) := sRep_0 (fNew_s6 x0 x1) x2_0 x2_1 x2_2 x2_3 x2_4 x2_5
def fNew_s7 (x0 : Int) (x1 : Int) : Int := IntKind.wrap IntKind.i64 ((if (64 : Int) < fNew_s1 x0 then (64 : Int) else fNew_s1 x0) * if (64 : Int) < fNew_s4 x1 then (64 : Int) else fNew_s4 x1)
def fNew_o (x0 : Int) (x1 : Int) (x2_0 : Int) (x2_1 : Int) (x2_2 : Int) (x2_3 : Int) (x2_4 : Int) (x2_5 : Int) : List Prop := [decide (fNew_s6 x0 x1 < (0 : Int)) = false, (bif decide ((0 : Int) < bMul64_0 (IntKind.wrap IntKind.u64 (Int.ofNat (1 : Nat))) (IntKind.wrap IntKind.u64 (fNew_s6 x0 x1))) then true else decide ((9223372036854775807 : Int) < sRep_s1 (fNew_s6 x0 x1))) = false, (0 : Int) ≤ IntKind.wrap IntKind.i64 (sRep_s1 (fNew_s6 x0 x1)) ∧ IntKind.wrap IntKind.i64 (sRep_s1 (fNew_s6 x0 x1)) = IntKind.wrap IntKind.i64 (sRep_s1 (fNew_s6 x0 x1)) ∧ IntKind.wrap IntKind.i64 (sRep_s1 (fNew_s6 x0 x1)) * Int.ofNat (24 : Nat) ≤ (70368744177664 : Int), lok sRep_l254_st (18446744073709551616 : Nat) (sRep_l254_T.mk (Int.ofNat (sRep_s3 (fNew_s6 x0 x1) x2_0 x2_1 x2_2 x2_3 x2_4 x2_5)) (List.take (0 : Nat) (sRep_s2 (fNew_s6 x0 x1)) ++ List.take (List.length (sRep_s2 (fNew_s6 x0 x1))) (sRep_s0 x2_0 x2_1 x2_2 x2_3 x2_4 x2_5) ++ List.drop ((0 : Nat) + sRep_s3 (fNew_s6 x0 x1) x2_0 x2_1 x2_2 x2_3 x2_4 x2_5) (sRep_s2 (fNew_s6 x0 x1))))]
theorem fNew_p (x0 : Int) (x1 : Int) (x2_0 : Int) (x2_1 : Int) (x2_2 : Int) (x2_3 : Int) (x2_4 : Int) (x2_5 : Int) : evG Try.prog tabFb 2000 38 [0, 1, 2, 5, 6, 7] [] [] [.a (.int true .i64 x0), .a (.int true .i64 x1), .g [.int true .u8 x2_0, .int true .u8 x2_1, .int true .u8 x2_2, .int true .u8 x2_3, .int true .i64 x2_4, .int true .u8 x2_5]] [] = some (fNew_o x0 x1 x2_0 x2_1 x2_2 x2_3 x2_4 x2_5, LV.g [At.int true IntKind.i64 (fNew_s2 x0), At.int true IntKind.i64 (fNew_s5 x1), At.vec (nat_lit 0) (nat_lit 1) (nat_lit 6)], [some (BC.mk (Hd.mk (nat_lit 1) (nat_lit 0) false (some (Rw.mk (nat_lit 0) [Kd.int IntKind.u8, Kd.int IntKind.u8, Kd.int IntKind.u8, Kd.int IntKind.u8, Kd.int IntKind.i64, Kd.int IntKind.u8] (fNew_0 x0 x1 x2_0 x2_1 x2_2 x2_3 x2_4 x2_5) none))) [])]) := by kernel_rfl
def fNew_c : Con
  | [.a (.int true .i64 x0), .a (.int true .i64 x1), .g [.int true .u8 x2_0, .int true .u8 x2_1, .int true .u8 x2_2, .int true .u8 x2_3, .int true .i64 x2_4, .int true .u8 x2_5]], [] => some (fNew_o x0 x1 x2_0 x2_1 x2_2 x2_3 x2_4 x2_5, LV.g [At.int true IntKind.i64 (fNew_s2 x0), At.int true IntKind.i64 (fNew_s5 x1), At.vec (nat_lit 0) (nat_lit 1) (nat_lit 6)], [some (BC.mk (Hd.mk (nat_lit 1) (nat_lit 0) false (some (Rw.mk (nat_lit 0) [Kd.int IntKind.u8, Kd.int IntKind.u8, Kd.int IntKind.u8, Kd.int IntKind.u8, Kd.int IntKind.i64, Kd.int IntKind.u8] (fNew_0 x0 x1 x2_0 x2_1 x2_2 x2_3 x2_4 x2_5) none))) [])])
  | _, _ => none
theorem fNew_ok : ConOK Try.prog 38 (normC fNew_c) := normC_ok (by
  intro args bs obs lv out h ho φ vs w may ha hM
  unfold fNew_c at h
  split at h
  · simp only [Option.some.injEq, Prod.mk.injEq] at h
    obtain ⟨rfl, rfl, rfl⟩ := h
    rename_i x0 x1 x2_0 x2_1 x2_2 x2_3 x2_4 x2_5
    exact evG_ok tabFb_ok follows _ _ _ _ _ (fNew_p x0 x1 x2_0 x2_1 x2_2 x2_3 x2_4 x2_5) ho φ vs w may ha hM
  · cases h)
theorem fNew_en : Enters Try.prog 38 := fun args => by kernel_rfl
-- 258 22 10 ms

/-! (azulejo/frame.Frame).At -/
def fAt_s0 (w0 : Int) (x1 : Int) (x2 : Int) : Int := IntKind.wrap IntKind.i64 (IntKind.wrap IntKind.i64 (x2 * w0) + x1)
def fAt_s1 (w0 : Int) (h0 : Int) (x1 : Int) (x2 : Int) (l : List (List Int)) : Bool := bif decide (x1 < (0 : Int)) then true else bif decide (w0 ≤ x1) then true else bif decide (x2 < (0 : Int)) then true else bif decide (h0 ≤ x2) then true else decide (Int.ofNat (List.length l) ≤ fAt_s0 w0 x1 x2)
def fAt_0 (w0 : Int) (h0 : Int) (x1 : Int) (x2 : Int) (l : List (List Int)) : Int := bif fAt_s1 w0 h0 x1 x2 l then (0 : Int) else rget l (Int.toNat (fAt_s0 w0 x1 x2)) (0 : Nat)
def fAt_1 (w0 : Int) (h0 : Int) (x1 : Int) (x2 : Int) (l : List (List Int)) : Int := bif fAt_s1 w0 h0 x1 x2 l then (0 : Int) else rget l (Int.toNat (fAt_s0 w0 x1 x2)) (1 : Nat)
def fAt_2 (w0 : Int) (h0 : Int) (x1 : Int) (x2 : Int) (l : List (List Int)) : Int := bif fAt_s1 w0 h0 x1 x2 l then (0 : Int) else rget l (Int.toNat (fAt_s0 w0 x1 x2)) (2 : Nat)
def fAt_3 (w0 : Int) (h0 : Int) (x1 : Int) (x2 : Int) (l : List (List Int)) : Int := bif fAt_s1 w0 h0 x1 x2 l then (0 : Int) else rget l (Int.toNat (fAt_s0 w0 x1 x2)) (3 : Nat)
def fAt_4 (w0 : Int) (h0 : Int) (x1 : Int) (x2 : Int) (l : List (List Int)) : Int := bif fAt_s1 w0 h0 x1 x2 l then (0 : Int) else rget l (Int.toNat (fAt_s0 w0 x1 x2)) (4 : Nat)
def fAt_5 (w0 : Int) (h0 : Int) (x1 : Int) (x2 : Int) (l : List (List Int)) : Int := bif fAt_s1 w0 h0 x1 x2 l then (0 : Int) else rget l (Int.toNat (fAt_s0 w0 x1 x2)) (5 : Nat)
def fAt_o (w0 : Int) (h0 : Int) (x1 : Int) (x2 : Int) (r0 : Bool) (l : List (List Int)) : List Prop := [(!fAt_s1 w0 h0 x1 x2 l) = true → (0 : Int) ≤ fAt_s0 w0 x1 x2 ∧ fAt_s0 w0 x1 x2 < Int.ofNat (List.length l)]
theorem fAt_p (w0 : Int) (h0 : Int) (x1 : Int) (x2 : Int) (r0 : Bool) (l : List (List Int)) : evG Try.prog tabFb 2000 62 [0, 1, 2, 3, 6, 39] [] [] [.g [.int true .i64 w0, .int true .i64 h0, .vec 0 0 6], .a (.int true .i64 x1), .a (.int true .i64 x2)] [⟨⟨0, 0, r0, some ⟨0, [.int .u8, .int .u8, .int .u8, .int .u8, .int .i64, .int .u8], l, none⟩⟩, []⟩] = some (fAt_o w0 h0 x1 x2 r0 l, LV.g [At.int true IntKind.u8 (fAt_0 w0 h0 x1 x2 l), At.int true IntKind.u8 (fAt_1 w0 h0 x1 x2 l), At.int true IntKind.u8 (fAt_2 w0 h0 x1 x2 l), At.int true IntKind.u8 (fAt_3 w0 h0 x1 x2 l), At.int true IntKind.i64 (fAt_4 w0 h0 x1 x2 l), At.int true IntKind.u8 (fAt_5 w0 h0 x1 x2 l)], [none]) := by kernel_rfl
def fAt_c : Con
  | [.g [.int true .i64 w0, .int true .i64 h0, .vec 0 0 6], .a (.int true .i64 x1), .a (.int true .i64 x2)], [⟨⟨0, 0, r0, some ⟨0, [.int .u8, .int .u8, .int .u8, .int .u8, .int .i64, .int .u8], l, none⟩⟩, []⟩] => some (fAt_o w0 h0 x1 x2 r0 l, LV.g [At.int true IntKind.u8 (fAt_0 w0 h0 x1 x2 l), At.int true IntKind.u8 (fAt_1 w0 h0 x1 x2 l), At.int true IntKind.u8 (fAt_2 w0 h0 x1 x2 l), At.int true IntKind.u8 (fAt_3 w0 h0 x1 x2 l), At.int true IntKind.i64 (fAt_4 w0 h0 x1 x2 l), At.int true IntKind.u8 (fAt_5 w0 h0 x1 x2 l)], [none])
  | _, _ => none
theorem fAt_ok : ConOK Try.prog 62 (normC fAt_c) := normC_ok (by
  intro args bs obs lv out h ho φ vs w may ha hM
  unfold fAt_c at h
  split at h
  · simp only [Option.some.injEq, Prod.mk.injEq] at h
    obtain ⟨rfl, rfl, rfl⟩ := h
    rename_i w0 h0 x1 x2 r0 l
    exact evG_ok tabFb_ok follows _ _ _ _ _ (fAt_p w0 h0 x1 x2 r0 l) ho φ vs w may ha hM
  · cases h)
theorem fAt_en : Enters Try.prog 62 := fun args => by kernel_rfl
-- 396 274 12 ms

/-! (azulejo/frame.Frame).Set -/
def fSet_s0 (w0 : Int) (x1 : Int) (x2 : Int) : Int := IntKind.wrap IntKind.i64 (IntKind.wrap IntKind.i64 (x2 * w0) + x1)
def fSet_s1 (w0 : Int) (h0 : Int) (x1 : Int) (x2 : Int) (l : List (List Int)) : Bool := bif decide ((0 : Int) ≤ x1) then bif decide (x1 < w0) then bif decide ((0 : Int) ≤ x2) then bif decide (x2 < h0) then decide (fSet_s0 w0 x1 x2 < Int.ofNat (List.length l)) else false else false else false else false
def fSet_0 (w0 : Int) (h0 : Int) (x1 : Int) (x2 : Int) (p0 : Int) (p1 : Int) (p2 : Int) (p3 : Int) (p4 : Int) (p5 : Int) (l : List (List Int)) : List (List Int) := bif fSet_s1 w0 h0 x1 x2 l then List.set l (Int.toNat (fSet_s0 w0 x1 x2)) [p0, p1, p2, p3, p4, p5] else l
def fSet_o (w0 : Int) (h0 : Int) (x1 : Int) (x2 : Int) (p0 : Int) (p1 : Int) (p2 : Int) (p3 : Int) (p4 : Int) (p5 : Int) (l : List (List Int)) : List Prop := [fSet_s1 w0 h0 x1 x2 l = true → (0 : Int) ≤ fSet_s0 w0 x1 x2 ∧ fSet_s0 w0 x1 x2 < Int.ofNat (List.length l)]
theorem fSet_p (w0 : Int) (h0 : Int) (x1 : Int) (x2 : Int) (p0 : Int) (p1 : Int) (p2 : Int) (p3 : Int) (p4 : Int) (p5 : Int) (l : List (List Int)) : evG Try.prog tabFb 2000 68 [0, 1, 2, 3, 4, 7, 40] [] [0] [.g [.int true .i64 w0, .int true .i64 h0, .vec 0 0 6], .a (.int true .i64 x1), .a (.int true .i64 x2), .g [.int true .u8 p0, .int true .u8 p1, .int true .u8 p2, .int true .u8 p3, .int true .i64 p4, .int true .u8 p5]] [⟨⟨0, 0, false, some ⟨0, [.int .u8, .int .u8, .int .u8, .int .u8, .int .i64, .int .u8], l, none⟩⟩, []⟩] = some (fSet_o w0 h0 x1 x2 p0 p1 p2 p3 p4 p5 l, LV.t [], [some (BC.mk (Hd.mk (nat_lit 0) (nat_lit 0) false (some (Rw.mk (nat_lit 0) [Kd.int IntKind.u8, Kd.int IntKind.u8, Kd.int IntKind.u8, Kd.int IntKind.u8, Kd.int IntKind.i64, Kd.int IntKind.u8] (fSet_0 w0 h0 x1 x2 p0 p1 p2 p3 p4 p5 l) none))) [])]) := by kernel_rfl
def fSet_c : Con
  | [.g [.int true .i64 w0, .int true .i64 h0, .vec 0 0 6], .a (.int true .i64 x1), .a (.int true .i64 x2), .g [.int true .u8 p0, .int true .u8 p1, .int true .u8 p2, .int true .u8 p3, .int true .i64 p4, .int true .u8 p5]], [⟨⟨0, 0, false, some ⟨0, [.int .u8, .int .u8, .int .u8, .int .u8, .int .i64, .int .u8], l, none⟩⟩, []⟩] => some (fSet_o w0 h0 x1 x2 p0 p1 p2 p3 p4 p5 l, LV.t [], [some (BC.mk (Hd.mk (nat_lit 0) (nat_lit 0) false (some (Rw.mk (nat_lit 0) [Kd.int IntKind.u8, Kd.int IntKind.u8, Kd.int IntKind.u8, Kd.int IntKind.u8, Kd.int IntKind.i64, Kd.int IntKind.u8] (fSet_0 w0 h0 x1 x2 p0 p1 p2 p3 p4 p5 l) none))) [])])
  | _, _ => none
theorem fSet_ok : ConOK Try.prog 68 (normC fSet_c) := normC_ok (by
  intro args bs obs lv out h ho φ vs w may ha hM
  unfold fSet_c at h
  split at h
  · simp only [Option.some.injEq, Prod.mk.injEq] at h
    obtain ⟨rfl, rfl, rfl⟩ := h
    rename_i w0 h0 x1 x2 p0 p1 p2 p3 p4 p5 l
    exact evG_ok tabFb_ok follows _ _ _ _ _ (fSet_p w0 h0 x1 x2 p0 p1 p2 p3 p4 p5 l) ho φ vs w may ha hM
  · cases h)
theorem fSet_en : Enters Try.prog 68 := fun args => by kernel_rfl
-- 378 2 7 ms

def sClone_D : Tab := (2, decC [(13, false)]) :: tabFb
theorem sClone_D_ok : TOK Try.prog sClone_D := TOK.cons (fun args => by kernel_rfl) (fun _ _ _ _ _ h ho => (decC_ok h ho).elim) tabFb_ok
/-! slices.Clone[[]azulejo/pixel.Pixel,azulejo/pixel.Pixel] -/
def sClone_s0 (l : List (List Int)) : List (List Int) := [] ++ l
def sClone_o (r0 : Bool) (l : List (List Int)) : List Prop := [List.length l ≠ (0 : Nat), List.length (sClone_s0 l) * (24 : Nat) ≤ (70368744177664 : Nat)]
theorem sClone_p (r0 : Bool) (l : List (List Int)) : evG Try.prog sClone_D 2000 105 [0, 2, 4] [] [] [.a (.vec 0 0 6)] [⟨⟨0, 0, r0, some ⟨0, [.int .u8, .int .u8, .int .u8, .int .u8, .int .i64, .int .u8], l, none⟩⟩, []⟩] = some (sClone_o r0 l, LV.a (At.vec (nat_lit 1) (nat_lit 1) (nat_lit 6)), [none, some (BC.mk (Hd.mk (nat_lit 1) (nat_lit 0) false (some (Rw.mk (nat_lit 0) [Kd.int IntKind.u8, Kd.int IntKind.u8, Kd.int IntKind.u8, Kd.int IntKind.u8, Kd.int IntKind.i64, Kd.int IntKind.u8] (sClone_s0 l) none))) [])]) := by kernel_rfl
def sClone_c : Con
  | [.a (.vec 0 0 6)], [⟨⟨0, 0, r0, some ⟨0, [.int .u8, .int .u8, .int .u8, .int .u8, .int .i64, .int .u8], l, none⟩⟩, []⟩] => some (sClone_o r0 l, LV.a (At.vec (nat_lit 1) (nat_lit 1) (nat_lit 6)), [none, some (BC.mk (Hd.mk (nat_lit 1) (nat_lit 0) false (some (Rw.mk (nat_lit 0) [Kd.int IntKind.u8, Kd.int IntKind.u8, Kd.int IntKind.u8, Kd.int IntKind.u8, Kd.int IntKind.i64, Kd.int IntKind.u8] (sClone_s0 l) none))) [])])
  | _, _ => none
theorem sClone_ok : ConOK Try.prog 105 (normC sClone_c) := normC_ok (by
  intro args bs obs lv out h ho φ vs w may ha hM
  unfold sClone_c at h
  split at h
  · simp only [Option.some.injEq, Prod.mk.injEq] at h
    obtain ⟨rfl, rfl, rfl⟩ := h
    rename_i r0 l
    exact evG_ok sClone_D_ok follows _ _ _ _ _ (sClone_p r0 l) ho φ vs w may ha hM
  · cases h)
theorem sClone_en : Enters Try.prog 105 := fun args => by kernel_rfl
-- 92 11 2 ms

/-! slices.Equal[[]azulejo/pixel.Pixel,azulejo/pixel.Pixel] -/
noncomputable def sEqual_l29_code : Go.Code := loopOf (subs (bodyOf Try.prog 119) 1 29)
structure sEqual_l29_T where
  a0 : Bool
  a1 : Int
  a2 : Int
  a3 : List (List Int)
  a4 : List (List Int)
  deriving Inhabited
def sEqual_l29_hd (v : sEqual_l29_T) : HS := HS.mk [(nat_lit 0, LV.a (At.vec (nat_lit 0) (nat_lit 0) (nat_lit 6))), (nat_lit 1, LV.a (At.vec (nat_lit 1) (nat_lit 0) (nat_lit 6))), (nat_lit 4, LV.a (At.bool true (sEqual_l29_T.a0 v))), (nat_lit 12, LV.a (At.int true IntKind.i64 (sEqual_l29_T.a1 v))), (nat_lit 13, LV.a (At.int true IntKind.i64 (sEqual_l29_T.a2 v)))] [BC.mk (Hd.mk (nat_lit 0) (nat_lit 0) true (some (Rw.mk (nat_lit 0) [Kd.int IntKind.u8, Kd.int IntKind.u8, Kd.int IntKind.u8, Kd.int IntKind.u8, Kd.int IntKind.i64, Kd.int IntKind.u8] (sEqual_l29_T.a3 v) none))) [], BC.mk (Hd.mk (nat_lit 0) (nat_lit 0) true (some (Rw.mk (nat_lit 0) [Kd.int IntKind.u8, Kd.int IntKind.u8, Kd.int IntKind.u8, Kd.int IntKind.u8, Kd.int IntKind.i64, Kd.int IntKind.u8] (sEqual_l29_T.a4 v) none))) []]
def sEqual_l29_s0 (v : sEqual_l29_T) : Bool := decide (sEqual_l29_T.a2 v < sEqual_l29_T.a1 v)
def sEqual_l29_s1 (v : sEqual_l29_T) : Bool := !(rget (sEqual_l29_T.a3 v) (Int.toNat (sEqual_l29_T.a2 v)) (0 : Nat) == rget (sEqual_l29_T.a4 v) (Int.toNat (sEqual_l29_T.a2 v)) (0 : Nat) && (rget (sEqual_l29_T.a3 v) (Int.toNat (sEqual_l29_T.a2 v)) (1 : Nat) == rget (sEqual_l29_T.a4 v) (Int.toNat (sEqual_l29_T.a2 v)) (1 : Nat) && (rget (sEqual_l29_T.a3 v) (Int.toNat (sEqual_l29_T.a2 v)) (2 : Nat) == rget (sEqual_l29_T.a4 v) (Int.toNat (sEqual_l29_T.a2 v)) (2 : Nat) && rget (sEqual_l29_T.a3 v) (Int.toNat (sEqual_l29_T.a2 v)) (3 : Nat) == rget (sEqual_l29_T.a4 v) (Int.toNat (sEqual_l29_T.a2 v)) (3 : Nat))) && (rget (sEqual_l29_T.a3 v) (Int.toNat (sEqual_l29_T.a2 v)) (4 : Nat) == rget (sEqual_l29_T.a4 v) (Int.toNat (sEqual_l29_T.a2 v)) (4 : Nat) && rget (sEqual_l29_T.a3 v) (Int.toNat (sEqual_l29_T.a2 v)) (5 : Nat) == rget (sEqual_l29_T.a4 v) (Int.toNat (sEqual_l29_T.a2 v)) (5 : Nat)))
def sEqual_l29_st (v : sEqual_l29_T) : List Prop × List (X × Bool × sEqual_l29_T) := ([sEqual_l29_s0 v = true → (0 : Int) ≤ sEqual_l29_T.a2 v ∧ sEqual_l29_T.a2 v < Int.ofNat (List.length (sEqual_l29_T.a3 v)), sEqual_l29_s0 v = true → (0 : Int) ≤ sEqual_l29_T.a2 v ∧ sEqual_l29_T.a2 v < Int.ofNat (List.length (sEqual_l29_T.a4 v))], [(X.e (0 : Nat), !sEqual_l29_s0 v, sEqual_l29_T.mk (sEqual_l29_T.a0 v) (sEqual_l29_T.a1 v) (sEqual_l29_T.a2 v) (sEqual_l29_T.a3 v) (sEqual_l29_T.a4 v)), (X.r, sEqual_l29_s0 v && sEqual_l29_s1 v, sEqual_l29_T.mk (false) (sEqual_l29_T.a1 v) (sEqual_l29_T.a2 v) (sEqual_l29_T.a3 v) (sEqual_l29_T.a4 v)), (X.n, sEqual_l29_s0 v && !sEqual_l29_s1 v, sEqual_l29_T.mk (sEqual_l29_T.a0 v) (sEqual_l29_T.a1 v) (IntKind.wrap IntKind.i64 (sEqual_l29_T.a2 v + (1 : Int))) (sEqual_l29_T.a3 v) (sEqual_l29_T.a4 v))])
def sEqual_l29_rd : HS → Option sEqual_l29_T
  | HS.mk [(0, LV.a (At.vec 0 0 6)), (1, LV.a (At.vec 1 0 6)), (4, LV.a (At.bool true a0)), (12, LV.a (At.int true IntKind.i64 a1)), (13, LV.a (At.int true IntKind.i64 a2))] [BC.mk (Hd.mk 0 0 true (some (Rw.mk 0 [Kd.int IntKind.u8, Kd.int IntKind.u8, Kd.int IntKind.u8, Kd.int IntKind.u8, Kd.int IntKind.i64, Kd.int IntKind.u8] a3 none))) [], BC.mk (Hd.mk 0 0 true (some (Rw.mk 0 [Kd.int IntKind.u8, Kd.int IntKind.u8, Kd.int IntKind.u8, Kd.int IntKind.u8, Kd.int IntKind.i64, Kd.int IntKind.u8] a4 none))) []] => some (sEqual_l29_T.mk a0 a1 a2 a3 a4)
  | _ => none
def sEqual_l29_sum : V.Sum := loopS sEqual_l29_hd sEqual_l29_rd sEqual_l29_st 18446744073709551616 [X.e (0 : Nat), X.r] [0, 1, 4, 5, 10, 12, 13, 14, 24] [0, 1, 4, 12, 13] [] [] [] 0
theorem sEqual_l29_E : ∀ v, bodyF Try.prog tabFb (ntOf Try.prog 119) [0, 1, 4, 5, 10, 12, 13, 14, 24] [0, 1, 4, 12, 13] [] 2000 [] [] sEqual_l29_code 116 (sEqual_l29_hd v) = some ((sEqual_l29_st v).1, (sEqual_l29_st v).2.map fun q => (q.1, q.2.1, sEqual_l29_hd q.2.2)) := fun v => by kernel_rfl
set_option maxHeartbeats 2000000 in
theorem sEqual_l29_R : ∀ h v, sEqual_l29_rd h = some v → h = sEqual_l29_hd v := by
  intro h v e
  unfold sEqual_l29_rd at e
  split at e
  · simp only [Option.some.injEq] at e; subst e; rfl
  · cases e
set_option maxRecDepth 100000 in
theorem sEqual_l29_sok : SumOK Try.prog (ntOf Try.prog 119) [0, 1, 4, 5, 10, 12, 13, 14, 24] (.block (blockOf (subs (bodyOf Try.prog 119) 1 29)) (.loop sEqual_l29_code)) sEqual_l29_sum := loopS_ok tabFb_ok follows sEqual_l29_E sEqual_l29_R (fun v => by kernel_rfl) (LOK_of _ _ (LOK_nil'))
def sEqual_s0 (l : List (List Int)) (m : List (List Int)) : Bool := Int.ofNat (List.length l) != Int.ofNat (List.length m)
def sEqual_s1 (l : List (List Int)) (m : List (List Int)) : Option (X × sEqual_l29_T) := lrun sEqual_l29_st (18446744073709551616 : Nat) (sEqual_l29_T.mk false (Int.ofNat (List.length l)) (0 : Int) l m)
def sEqual_0 (l : List (List Int)) (m : List (List Int)) : Bool := bif sEqual_s0 l m then false else bif isX X.r (sEqual_s1 l m) then sEqual_l29_T.a0 (V.valOf (sEqual_s1 l m)) else true
def sEqual_o (r0 : Bool) (l : List (List Int)) (r1 : Bool) (m : List (List Int)) : List Prop := [(!sEqual_s0 l m) = true → lok sEqual_l29_st (18446744073709551616 : Nat) (sEqual_l29_T.mk false (Int.ofNat (List.length l)) (0 : Int) l m)]
theorem sEqual_p (r0 : Bool) (l : List (List Int)) (r1 : Bool) (m : List (List Int)) : evG Try.prog tabFb 2000 119 [0, 1, 4, 5, 10, 12, 13, 14, 24] [(29, sEqual_l29_sum)] [] [.a (.vec 0 0 6), .a (.vec 1 0 6)] [⟨⟨0, 0, r0, some ⟨0, [.int .u8, .int .u8, .int .u8, .int .u8, .int .i64, .int .u8], l, none⟩⟩, []⟩, ⟨⟨0, 0, r1, some ⟨0, [.int .u8, .int .u8, .int .u8, .int .u8, .int .i64, .int .u8], m, none⟩⟩, []⟩] = some (sEqual_o r0 l r1 m, LV.a (At.bool true (sEqual_0 l m)), [none, none]) := by kernel_rfl
def sEqual_c : Con
  | [.a (.vec 0 0 6), .a (.vec 1 0 6)], [⟨⟨0, 0, r0, some ⟨0, [.int .u8, .int .u8, .int .u8, .int .u8, .int .i64, .int .u8], l, none⟩⟩, []⟩, ⟨⟨0, 0, r1, some ⟨0, [.int .u8, .int .u8, .int .u8, .int .u8, .int .i64, .int .u8], m, none⟩⟩, []⟩] => some (sEqual_o r0 l r1 m, LV.a (At.bool true (sEqual_0 l m)), [none, none])
  | _, _ => none
theorem sEqual_ok : ConOK Try.prog 119 (normC sEqual_c) := normC_ok (by
  intro args bs obs lv out h ho φ vs w may ha hM
  unfold sEqual_c at h
  split at h
  · simp only [Option.some.injEq, Prod.mk.injEq] at h
    obtain ⟨rfl, rfl, rfl⟩ := h
    rename_i r0 l r1 m
    exact evG_okL' tabFb_ok follows (LOK_cons (show subs (bodyOf Try.prog 119) 1 29 = [.block (blockOf (subs (bodyOf Try.prog 119) 1 29)) (.loop sEqual_l29_code)] from by kernel_rfl) sEqual_l29_sok (LOK_nil')) _ _ _ _ _ (sEqual_p r0 l r1 m) ho φ vs w may ha hM
  · cases h)
theorem sEqual_en : Enters Try.prog 119 := fun args => by kernel_rfl
-- 1151 22 8 ms

/-! (azulejo/frame.Frame).Check -/
noncomputable def fChk_l29_code : Go.Code := loopOf (subs (bodyOf Try.prog 40) 1 29)
structure fChk_l29_T where
  a0 : Int
  a1 : Int
  a2 : Int
  a3 : List (List Int)
  deriving Inhabited
def fChk_l29_hd (v : fChk_l29_T) : HS := HS.mk [(nat_lit 2, LV.a (At.int true IntKind.i64 (fChk_l29_T.a0 v))), (nat_lit 41, LV.a (At.vec (nat_lit 0) (nat_lit 0) (nat_lit 6))), (nat_lit 42, LV.a (At.int true IntKind.i64 (fChk_l29_T.a1 v))), (nat_lit 43, LV.a (At.int true IntKind.i64 (fChk_l29_T.a2 v)))] [BC.mk (Hd.mk (nat_lit 0) (nat_lit 0) true (some (Rw.mk (nat_lit 0) [Kd.int IntKind.u8, Kd.int IntKind.u8, Kd.int IntKind.u8, Kd.int IntKind.u8, Kd.int IntKind.i64, Kd.int IntKind.u8] (fChk_l29_T.a3 v) none))) []]
def fChk_l29_s0 (v : fChk_l29_T) : Bool := decide (fChk_l29_T.a2 v < fChk_l29_T.a1 v)
def fChk_l29_s1 (v : fChk_l29_T) : Int := rget (Rw.l (Rw.mk (nat_lit 0) [Kd.int IntKind.u8, Kd.int IntKind.u8, Kd.int IntKind.u8, Kd.int IntKind.u8, Kd.int IntKind.i64, Kd.int IntKind.u8] (fChk_l29_T.a3 v) none)) (Int.toNat (fChk_l29_T.a2 v)) ((0 : Nat) + (1 : Nat) + (1 : Nat) + (1 : Nat) + (1 : Nat))
def fChk_l29_s2 (v : fChk_l29_T) : Bool := bif decide (rget (fChk_l29_T.a3 v) (Int.toNat (fChk_l29_T.a2 v)) (4 : Nat) < (0 : Int)) then true else decide ((65535 : Int) < rget (fChk_l29_T.a3 v) (Int.toNat (fChk_l29_T.a2 v)) (4 : Nat))
def fChk_l29_st (v : fChk_l29_T) : List Prop × List (X × Bool × fChk_l29_T) := ([fChk_l29_s0 v = true → (0 : Int) ≤ fChk_l29_T.a2 v ∧ fChk_l29_T.a2 v < Int.ofNat (List.length (fChk_l29_T.a3 v))], [(X.e (0 : Nat), !fChk_l29_s0 v, fChk_l29_T.mk (fChk_l29_T.a0 v) (fChk_l29_T.a1 v) (fChk_l29_T.a2 v) (fChk_l29_T.a3 v)), (X.r, fChk_l29_s0 v && fChk_l29_s2 v, fChk_l29_T.mk ((2 : Int)) (fChk_l29_T.a1 v) (fChk_l29_T.a2 v) (fChk_l29_T.a3 v)), (X.n, fChk_l29_s0 v && !fChk_l29_s2 v, fChk_l29_T.mk (fChk_l29_T.a0 v) (fChk_l29_T.a1 v) (IntKind.wrap IntKind.i64 (fChk_l29_T.a2 v + (1 : Int))) (fChk_l29_T.a3 v))])
def fChk_l29_rd : HS → Option fChk_l29_T
  | HS.mk [(2, LV.a (At.int true IntKind.i64 a0)), (41, LV.a (At.vec 0 0 6)), (42, LV.a (At.int true IntKind.i64 a1)), (43, LV.a (At.int true IntKind.i64 a2))] [BC.mk (Hd.mk 0 0 true (some (Rw.mk 0 [Kd.int IntKind.u8, Kd.int IntKind.u8, Kd.int IntKind.u8, Kd.int IntKind.u8, Kd.int IntKind.i64, Kd.int IntKind.u8] a3 none))) []] => some (fChk_l29_T.mk a0 a1 a2 a3)
  | _ => none
def fChk_l29_sum : V.Sum := loopS fChk_l29_hd fChk_l29_rd fChk_l29_st 18446744073709551616 [X.e (0 : Nat), X.r] [0, 1, 2, 4, 39, 41, 42, 43, 44, 54] [2, 41, 42, 43] [] [] [] 0
theorem fChk_l29_E : ∀ v, bodyF Try.prog tabFb (ntOf Try.prog 40) [0, 1, 2, 4, 39, 41, 42, 43, 44, 54] [2, 41, 42, 43] [] 2000 [] [] fChk_l29_code 116 (fChk_l29_hd v) = some ((fChk_l29_st v).1, (fChk_l29_st v).2.map fun q => (q.1, q.2.1, fChk_l29_hd q.2.2)) := fun v => by kernel_rfl
set_option maxHeartbeats 2000000 in
theorem fChk_l29_R : ∀ h v, fChk_l29_rd h = some v → h = fChk_l29_hd v := by
  intro h v e
  unfold fChk_l29_rd at e
  split at e
  · simp only [Option.some.injEq] at e; subst e; rfl
  · cases e
set_option maxRecDepth 100000 in
theorem fChk_l29_sok : SumOK Try.prog (ntOf Try.prog 40) [0, 1, 2, 4, 39, 41, 42, 43, 44, 54] (.block (blockOf (subs (bodyOf Try.prog 40) 1 29)) (.loop fChk_l29_code)) fChk_l29_sum := loopS_ok tabFb_ok follows fChk_l29_E fChk_l29_R (fun v => by kernel_rfl) (LOK_of _ _ (LOK_nil'))
def fChk_s0 (w0 : Int) (h0 : Int) (l : List (List Int)) : Bool := bif decide (w0 < (1 : Int)) then true else bif decide ((64 : Int) < w0) then true else bif decide (h0 < (1 : Int)) then true else bif decide ((64 : Int) < h0) then true else Int.ofNat (List.length l) != IntKind.wrap IntKind.i64 (w0 * h0)
def fChk_s1 (l : List (List Int)) : Option (X × fChk_l29_T) := lrun fChk_l29_st (18446744073709551616 : Nat) (fChk_l29_T.mk (0 : Int) (Int.ofNat (List.length l)) (0 : Int) l)
def fChk_0 (w0 : Int) (h0 : Int) (l : List (List Int)) : Int := bif fChk_s0 w0 h0 l then (6 : Int) else bif isX X.r (fChk_s1 l) then fChk_l29_T.a0 (V.valOf (fChk_s1 l)) else (0 : Int)
def fChk_o (w0 : Int) (h0 : Int) (r0 : Bool) (l : List (List Int)) : List Prop := [(!fChk_s0 w0 h0 l) = true → lok fChk_l29_st (18446744073709551616 : Nat) (fChk_l29_T.mk (0 : Int) (Int.ofNat (List.length l)) (0 : Int) l)]
theorem fChk_p (w0 : Int) (h0 : Int) (r0 : Bool) (l : List (List Int)) : evG Try.prog tabFb 2000 40 [0, 1, 2, 4, 39, 41, 42, 43, 44, 54] [(29, fChk_l29_sum)] [] [.g [.int true .i64 w0, .int true .i64 h0, .vec 0 0 6]] [⟨⟨0, 0, r0, some ⟨0, [.int .u8, .int .u8, .int .u8, .int .u8, .int .i64, .int .u8], l, none⟩⟩, []⟩] = some (fChk_o w0 h0 r0 l, LV.a (At.int true IntKind.i64 (fChk_0 w0 h0 l)), [none]) := by kernel_rfl
def fChk_c : Con
  | [.g [.int true .i64 w0, .int true .i64 h0, .vec 0 0 6]], [⟨⟨0, 0, r0, some ⟨0, [.int .u8, .int .u8, .int .u8, .int .u8, .int .i64, .int .u8], l, none⟩⟩, []⟩] => some (fChk_o w0 h0 r0 l, LV.a (At.int true IntKind.i64 (fChk_0 w0 h0 l)), [none])
  | _, _ => none
theorem fChk_ok : ConOK Try.prog 40 (normC fChk_c) := normC_ok (by
  intro args bs obs lv out h ho φ vs w may ha hM
  unfold fChk_c at h
  split at h
  · simp only [Option.some.injEq, Prod.mk.injEq] at h
    obtain ⟨rfl, rfl, rfl⟩ := h
    rename_i w0 h0 r0 l
    exact evG_okL' tabFb_ok follows (LOK_cons (show subs (bodyOf Try.prog 40) 1 29 = [.block (blockOf (subs (bodyOf Try.prog 40) 1 29)) (.loop fChk_l29_code)] from by kernel_rfl) fChk_l29_sok (LOK_nil')) _ _ _ _ _ (fChk_p w0 h0 r0 l) ho φ vs w may ha hM
  · cases h)
theorem fChk_en : Enters Try.prog 40 := fun args => by kernel_rfl
-- 2352 77 8 ms

def tabFd1 : Tab := (38, normC fNew_c) :: (62, normC fAt_c) :: (68, normC fSet_c) :: (105, normC sClone_c) :: (119, normC sEqual_c) :: (40, normC fChk_c) :: tabFb
theorem tabFd1_ok : TOK Try.prog tabFd1 := TOK.cons fNew_en fNew_ok (TOK.cons fAt_en fAt_ok (TOK.cons fSet_en fSet_ok (TOK.cons sClone_en sClone_ok (TOK.cons sEqual_en sEqual_ok (TOK.cons fChk_en fChk_ok (tabFb_ok))))))

end Go.Proofs.Ytcdejlgophpdjaa
