/-
  Contracts of functions of the program, each run on the local memory (printed by a program of this session's own: wip/tools).
-/
import Derived.Test.YtcdejlgophpdjaaFd1
namespace Go.Proofs.Ytcdejlgophpdjaa
open Go Go.RowKit Go.Proofs.Ytcdejlgophpdjaa.V
set_option linter.unusedVariables false

/-! (azulejo/frame.Frame).Clone -/
def fClone_o (w0 : Int) (h0 : Int) (r0 : Bool) (l : List (List Int)) : List Prop := [List.length l ≠ (0 : Nat), List.length (sClone_s0 l) * (24 : Nat) ≤ (70368744177664 : Nat)]
theorem fClone_p (w0 : Int) (h0 : Int) (r0 : Bool) (l : List (List Int)) : evG Try.prog tabFd1 2000 41 [0, 1, 2] [] [] [.g [.int true .i64 w0, .int true .i64 h0, .vec 0 0 6]] [⟨⟨0, 0, r0, some ⟨0, [.int .u8, .int .u8, .int .u8, .int .u8, .int .i64, .int .u8], l, none⟩⟩, []⟩] = some (fClone_o w0 h0 r0 l, LV.g [At.int true IntKind.i64 w0, At.int true IntKind.i64 h0, At.vec (nat_lit 1) (nat_lit 1) (nat_lit 6)], [none, some (BC.mk (Hd.mk (nat_lit 1) (nat_lit 0) false (some (Rw.mk (nat_lit 0) [Kd.int IntKind.u8, Kd.int IntKind.u8, Kd.int IntKind.u8, Kd.int IntKind.u8, Kd.int IntKind.i64, Kd.int IntKind.u8] (sClone_s0 l) none))) [])]) := by kernel_rfl
def fClone_c : Con
  | [.g [.int true .i64 w0, .int true .i64 h0, .vec 0 0 6]], [⟨⟨0, 0, r0, some ⟨0, [.int .u8, .int .u8, .int .u8, .int .u8, .int .i64, .int .u8], l, none⟩⟩, []⟩] => some (fClone_o w0 h0 r0 l, LV.g [At.int true IntKind.i64 w0, At.int true IntKind.i64 h0, At.vec (nat_lit 1) (nat_lit 1) (nat_lit 6)], [none, some (BC.mk (Hd.mk (nat_lit 1) (nat_lit 0) false (some (Rw.mk (nat_lit 0) [Kd.int IntKind.u8, Kd.int IntKind.u8, Kd.int IntKind.u8, Kd.int IntKind.u8, Kd.int IntKind.i64, Kd.int IntKind.u8] (sClone_s0 l) none))) [])])
  | _, _ => none
theorem fClone_ok : ConOK Try.prog 41 (normC fClone_c) := normC_ok (by
  intro args bs obs lv out h ho φ vs w may ha hM
  unfold fClone_c at h
  split at h
  · simp only [Option.some.injEq, Prod.mk.injEq] at h
    obtain ⟨rfl, rfl, rfl⟩ := h
    rename_i w0 h0 r0 l
    exact evG_ok tabFd1_ok follows _ _ _ _ _ (fClone_p w0 h0 r0 l) ho φ vs w may ha hM
  · cases h)
theorem fClone_en : Enters Try.prog 41 := fun args => by kernel_rfl
-- 173 6 0 ms

/-! (azulejo/frame.Frame).Text -/
noncomputable def fText_l31333_code : Go.Code := loopOf (subs (bodyOf Try.prog 42) 1 31333)
structure fText_l31333_T where
  a0 : ByteArray
  a1 : Int
  a2 : Int
  a3 : Int
  a4 : Bool
  a5 : Int
  a6 : Int
  a7 : Int
  a8 : Int
  a9 : List (List Int)
  a10 : List (List Int)
  deriving Inhabited
def fText_l31333_hd (v : fText_l31333_T) : HS := HS.mk [(nat_lit 1, LV.a (At.ptr (nat_lit 0) (nat_lit 0))), (nat_lit 2, LV.a (At.str true (fText_l31333_T.a0 v))), (nat_lit 3, LV.a (At.vec (nat_lit 2) (nat_lit 0) (nat_lit 1))), (nat_lit 4, LV.a (At.int true IntKind.i64 (fText_l31333_T.a1 v))), (nat_lit 12, LV.a (At.int true IntKind.i64 (fText_l31333_T.a2 v))), (nat_lit 13, LV.a (At.int true IntKind.i64 (fText_l31333_T.a3 v))), (nat_lit 14, LV.a (At.bool true (fText_l31333_T.a4 v))), (nat_lit 18, LV.a (At.int true IntKind.i64 (fText_l31333_T.a5 v))), (nat_lit 19, LV.a (At.int true IntKind.i64 (fText_l31333_T.a6 v)))] [BC.mk (Hd.mk (nat_lit 0) (nat_lit 3) true none) [some (At.int true IntKind.i64 (fText_l31333_T.a7 v)), some (At.int true IntKind.i64 (fText_l31333_T.a8 v)), some (At.vec (nat_lit 1) (nat_lit 0) (nat_lit 6))], BC.mk (Hd.mk (nat_lit 0) (nat_lit 0) true (some (Rw.mk (nat_lit 0) [Kd.int IntKind.u8, Kd.int IntKind.u8, Kd.int IntKind.u8, Kd.int IntKind.u8, Kd.int IntKind.i64, Kd.int IntKind.u8] (fText_l31333_T.a9 v) none))) [], BC.mk (Hd.mk (nat_lit 0) (nat_lit 0) false (some (Rw.mk (nat_lit 0) [Kd.int IntKind.u8] (fText_l31333_T.a10 v) none))) []]
def fText_l31333_s0 (v : fText_l31333_T) : Bool := decide (fText_l31333_T.a6 v < fText_l31333_T.a5 v)
def fText_l31333_s1 (v : fText_l31333_T) : Int := IntKind.wrap IntKind.i64 (Int.tdiv (IntKind.wrap IntKind.i64 (IntKind.wrap IntKind.i64 (IntKind.wrap IntKind.i64 (IntKind.wrap IntKind.i64 (fAt_0 (fText_l31333_T.a7 v) (fText_l31333_T.a8 v) (fText_l31333_T.a6 v) (fText_l31333_T.a1 v) (fText_l31333_T.a9 v)) + IntKind.wrap IntKind.i64 (fAt_1 (fText_l31333_T.a7 v) (fText_l31333_T.a8 v) (fText_l31333_T.a6 v) (fText_l31333_T.a1 v) (fText_l31333_T.a9 v))) + IntKind.wrap IntKind.i64 (fAt_2 (fText_l31333_T.a7 v) (fText_l31333_T.a8 v) (fText_l31333_T.a6 v) (fText_l31333_T.a1 v) (fText_l31333_T.a9 v))) * (10 : Int))) (766 : Int))
def fText_l31333_s2 : ByteArray := ByteArray.mk (Array.mk [(32 : UInt8), (46 : UInt8), (58 : UInt8), (45 : UInt8), (61 : UInt8), (43 : UInt8), (42 : UInt8), (35 : UInt8), (37 : UInt8), (64 : UInt8)])
def fText_l31333_s3 (v : fText_l31333_T) : List (List Int) := fText_l31333_T.a10 v ++ [[byteAt fText_l31333_s2 (Int.toNat (fText_l31333_s1 v))]]
def fText_l31333_st (v : fText_l31333_T) : List Prop × List (X × Bool × fText_l31333_T) := ([fText_l31333_s0 v = true → (!fAt_s1 (fText_l31333_T.a7 v) (fText_l31333_T.a8 v) (fText_l31333_T.a6 v) (fText_l31333_T.a1 v) (fText_l31333_T.a9 v)) = true → (0 : Int) ≤ fAt_s0 (fText_l31333_T.a7 v) (fText_l31333_T.a6 v) (fText_l31333_T.a1 v) ∧ fAt_s0 (fText_l31333_T.a7 v) (fText_l31333_T.a6 v) (fText_l31333_T.a1 v) < Int.ofNat (List.length (fText_l31333_T.a9 v)), fText_l31333_s0 v = true → (0 : Int) ≤ fText_l31333_s1 v ∧ fText_l31333_s1 v < Int.ofNat (ByteArray.size fText_l31333_s2), fText_l31333_s0 v = true → List.length (fText_l31333_s3 v) * (1 : Nat) ≤ (70368744177664 : Nat)], [(X.e (2 : Nat), !fText_l31333_s0 v, fText_l31333_T.mk (fText_l31333_T.a0 v) (fText_l31333_T.a1 v) (fText_l31333_T.a2 v) (fText_l31333_T.a3 v) (fText_l31333_T.a4 v) (fText_l31333_T.a5 v) (fText_l31333_T.a6 v) (fText_l31333_T.a7 v) (fText_l31333_T.a8 v) (fText_l31333_T.a9 v) (fText_l31333_T.a10 v)), (X.n, fText_l31333_s0 v, fText_l31333_T.mk (fText_l31333_T.a0 v) (fText_l31333_T.a1 v) (fText_l31333_T.a2 v) (fText_l31333_T.a3 v) (fText_l31333_T.a4 v) (fText_l31333_T.a5 v) (IntKind.wrap IntKind.i64 (fText_l31333_T.a6 v + (1 : Int))) (fText_l31333_T.a7 v) (fText_l31333_T.a8 v) (fText_l31333_T.a9 v) (fText_l31333_s3 v))])
def fText_l31333_rd : HS → Option fText_l31333_T
  | HS.mk [(1, LV.a (At.ptr 0 0)), (2, LV.a (At.str true a0)), (3, LV.a (At.vec 2 0 1)), (4, LV.a (At.int true IntKind.i64 a1)), (12, LV.a (At.int true IntKind.i64 a2)), (13, LV.a (At.int true IntKind.i64 a3)), (14, LV.a (At.bool true a4)), (18, LV.a (At.int true IntKind.i64 a5)), (19, LV.a (At.int true IntKind.i64 a6))] [BC.mk (Hd.mk 0 3 true none) [some (At.int true IntKind.i64 a7), some (At.int true IntKind.i64 a8), some (At.vec 1 0 6)], BC.mk (Hd.mk 0 0 true (some (Rw.mk 0 [Kd.int IntKind.u8, Kd.int IntKind.u8, Kd.int IntKind.u8, Kd.int IntKind.u8, Kd.int IntKind.i64, Kd.int IntKind.u8] a9 none))) [], BC.mk (Hd.mk 0 0 false (some (Rw.mk 0 [Kd.int IntKind.u8] a10 none))) []] => some (fText_l31333_T.mk a0 a1 a2 a3 a4 a5 a6 a7 a8 a9 a10)
  | _ => none
def fText_l31333_sum : V.Sum := loopS fText_l31333_hd fText_l31333_rd fText_l31333_st 18446744073709551616 [X.e (2 : Nat)] [0, 1, 2, 3, 4, 5, 6, 9, 12, 13, 14, 18, 19, 20] [1, 2, 3, 4, 12, 13, 14, 18, 19] [2] [2] [] 2
theorem fText_l31333_E : ∀ v, bodyF Try.prog tabFd1 (ntOf Try.prog 42) [0, 1, 2, 3, 4, 5, 6, 9, 12, 13, 14, 18, 19, 20] [1, 2, 3, 4, 12, 13, 14, 18, 19] [] 2000 [2] [2] fText_l31333_code 125332 (fText_l31333_hd v) = some ((fText_l31333_st v).1, (fText_l31333_st v).2.map fun q => (q.1, q.2.1, fText_l31333_hd q.2.2)) := fun v => by kernel_rfl
set_option maxHeartbeats 2000000 in
theorem fText_l31333_R : ∀ h v, fText_l31333_rd h = some v → h = fText_l31333_hd v := by
  intro h v e
  unfold fText_l31333_rd at e
  split at e
  · simp only [Option.some.injEq] at e; subst e; rfl
  · cases e
set_option maxRecDepth 100000 in
theorem fText_l31333_sok : SumOK Try.prog (ntOf Try.prog 42) [0, 1, 2, 3, 4, 5, 6, 9, 12, 13, 14, 18, 19, 20] (.block (blockOf (subs (bodyOf Try.prog 42) 1 31333)) (.loop fText_l31333_code)) fText_l31333_sum := loopS_ok tabFd1_ok follows fText_l31333_E fText_l31333_R (fun v => by kernel_rfl) (LOK_of _ _ (LOK_nil'))
noncomputable def fText_l61_code : Go.Code := loopOf (subs (bodyOf Try.prog 42) 1 61)
structure fText_l61_T where
  a0 : ByteArray
  a1 : Int
  a2 : Int
  a3 : Int
  a4 : Int
  a5 : List (List Int)
  a6 : List (List Int)
  deriving Inhabited
def fText_l61_hd (v : fText_l61_T) : HS := HS.mk [(nat_lit 1, LV.a (At.ptr (nat_lit 0) (nat_lit 0))), (nat_lit 2, LV.a (At.str true (fText_l61_T.a0 v))), (nat_lit 3, LV.a (At.vec (nat_lit 2) (nat_lit 0) (nat_lit 1))), (nat_lit 12, LV.a (At.int true IntKind.i64 (fText_l61_T.a1 v))), (nat_lit 13, LV.a (At.int true IntKind.i64 (fText_l61_T.a2 v)))] [BC.mk (Hd.mk (nat_lit 0) (nat_lit 3) true none) [some (At.int true IntKind.i64 (fText_l61_T.a3 v)), some (At.int true IntKind.i64 (fText_l61_T.a4 v)), some (At.vec (nat_lit 1) (nat_lit 0) (nat_lit 6))], BC.mk (Hd.mk (nat_lit 0) (nat_lit 0) true (some (Rw.mk (nat_lit 0) [Kd.int IntKind.u8, Kd.int IntKind.u8, Kd.int IntKind.u8, Kd.int IntKind.u8, Kd.int IntKind.i64, Kd.int IntKind.u8] (fText_l61_T.a5 v) none))) [], BC.mk (Hd.mk (nat_lit 0) (nat_lit 0) false (some (Rw.mk (nat_lit 0) [Kd.int IntKind.u8] (fText_l61_T.a6 v) none))) []]
def fText_l61_s0 (v : fText_l61_T) : Bool := decide (fText_l61_T.a2 v < fText_l61_T.a1 v)
def fText_l61_s1 (v : fText_l61_T) : Option (X × fText_l31333_T) := lrun fText_l31333_st (18446744073709551616 : Nat) (fText_l31333_T.mk (fText_l61_T.a0 v) (fText_l61_T.a2 v) (fText_l61_T.a1 v) (fText_l61_T.a2 v) (fText_l61_s0 v) (fText_l61_T.a3 v) (0 : Int) (fText_l61_T.a3 v) (fText_l61_T.a4 v) (fText_l61_T.a5 v) (fText_l61_T.a6 v))
def fText_l61_s2 (v : fText_l61_T) : List (List Int) := fText_l31333_T.a10 (V.valOf (fText_l61_s1 v)) ++ [[(10 : Int)]]
def fText_l61_st (v : fText_l61_T) : List Prop × List (X × Bool × fText_l61_T) := ([fText_l61_s0 v = true → lok fText_l31333_st (18446744073709551616 : Nat) (fText_l31333_T.mk (fText_l61_T.a0 v) (fText_l61_T.a2 v) (fText_l61_T.a1 v) (fText_l61_T.a2 v) (fText_l61_s0 v) (fText_l61_T.a3 v) (0 : Int) (fText_l61_T.a3 v) (fText_l61_T.a4 v) (fText_l61_T.a5 v) (fText_l61_T.a6 v)), fText_l61_s0 v = true → isX (X.e (2 : Nat)) (fText_l61_s1 v) = true → List.length (fText_l61_s2 v) * (1 : Nat) ≤ (70368744177664 : Nat)], [(X.e (0 : Nat), !fText_l61_s0 v, fText_l61_T.mk (fText_l61_T.a0 v) (fText_l61_T.a1 v) (fText_l61_T.a2 v) (fText_l61_T.a3 v) (fText_l61_T.a4 v) (fText_l61_T.a5 v) (fText_l61_T.a6 v)), (X.n, fText_l61_s0 v && isX (X.e (2 : Nat)) (fText_l61_s1 v), fText_l61_T.mk (fText_l31333_T.a0 (V.valOf (fText_l61_s1 v))) (fText_l31333_T.a2 (V.valOf (fText_l61_s1 v))) (IntKind.wrap IntKind.i64 (fText_l31333_T.a3 (V.valOf (fText_l61_s1 v)) + (1 : Int))) (fText_l61_T.a3 v) (fText_l61_T.a4 v) (fText_l61_T.a5 v) (fText_l61_s2 v))])
def fText_l61_rd : HS → Option fText_l61_T
  | HS.mk [(1, LV.a (At.ptr 0 0)), (2, LV.a (At.str true a0)), (3, LV.a (At.vec 2 0 1)), (12, LV.a (At.int true IntKind.i64 a1)), (13, LV.a (At.int true IntKind.i64 a2))] [BC.mk (Hd.mk 0 3 true none) [some (At.int true IntKind.i64 a3), some (At.int true IntKind.i64 a4), some (At.vec 1 0 6)], BC.mk (Hd.mk 0 0 true (some (Rw.mk 0 [Kd.int IntKind.u8, Kd.int IntKind.u8, Kd.int IntKind.u8, Kd.int IntKind.u8, Kd.int IntKind.i64, Kd.int IntKind.u8] a5 none))) [], BC.mk (Hd.mk 0 0 false (some (Rw.mk 0 [Kd.int IntKind.u8] a6 none))) []] => some (fText_l61_T.mk a0 a1 a2 a3 a4 a5 a6)
  | _ => none
def fText_l61_sum : V.Sum := loopS fText_l61_hd fText_l61_rd fText_l61_st 18446744073709551616 [X.e (0 : Nat)] [0, 1, 2, 3, 4, 5, 6, 9, 12, 13, 14, 18, 19, 20] [1, 2, 3, 12, 13] [2] [2] [(3, [.int .u8])] 0
theorem fText_l61_E : ∀ v, bodyF Try.prog tabFd1 (ntOf Try.prog 42) [0, 1, 2, 3, 4, 5, 6, 9, 12, 13, 14, 18, 19, 20] [1, 2, 3, 12, 13] [(31333, fText_l31333_sum)] 2000 [2] [2] fText_l61_code 244 (fText_l61_hd v) = some ((fText_l61_st v).1, (fText_l61_st v).2.map fun q => (q.1, q.2.1, fText_l61_hd q.2.2)) := fun v => by kernel_rfl
set_option maxHeartbeats 2000000 in
theorem fText_l61_R : ∀ h v, fText_l61_rd h = some v → h = fText_l61_hd v := by
  intro h v e
  unfold fText_l61_rd at e
  split at e
  · simp only [Option.some.injEq] at e; subst e; rfl
  · cases e
set_option maxRecDepth 100000 in
theorem fText_l61_sok : SumOK Try.prog (ntOf Try.prog 42) [0, 1, 2, 3, 4, 5, 6, 9, 12, 13, 14, 18, 19, 20] (.block (blockOf (subs (bodyOf Try.prog 42) 1 61)) (.loop fText_l61_code)) fText_l61_sum := loopS_ok tabFd1_ok follows fText_l61_E fText_l61_R (fun v => by kernel_rfl) (LOK_of _ _ (LOK_cons (show subs fText_l61_code 244 31333 = [.block (blockOf (subs (bodyOf Try.prog 42) 1 31333)) (.loop fText_l31333_code)] from by kernel_rfl) fText_l31333_sok (LOK_nil')))
def fText_s0 (w0 : Int) (h0 : Int) (l : List (List Int)) : Bool := fChk_0 w0 h0 l != (0 : Int)
def fText_0 (w0 : Int) (h0 : Int) (l : List (List Int)) : ByteArray := bif fText_s0 w0 h0 l then ByteArray.mk (Array.mk []) else bytesOf (fText_l61_T.a6 (V.valOf (lrun fText_l61_st (18446744073709551616 : Nat) (fText_l61_T.mk (ByteArray.mk (Array.mk [])) h0 (0 : Int) w0 h0 l []))))
def fText_o (w0 : Int) (h0 : Int) (r0 : Bool) (l : List (List Int)) : List Prop := [(!fChk_s0 w0 h0 l) = true → lok fChk_l29_st (18446744073709551616 : Nat) (fChk_l29_T.mk (0 : Int) (Int.ofNat (List.length l)) (0 : Int) l), (!fText_s0 w0 h0 l) = true → lok fText_l61_st (18446744073709551616 : Nat) (fText_l61_T.mk (ByteArray.mk (Array.mk [])) h0 (0 : Int) w0 h0 l [])]
theorem fText_p (w0 : Int) (h0 : Int) (r0 : Bool) (l : List (List Int)) : evG Try.prog tabFd1 2000 42 [0, 1, 2, 3, 4, 5, 6, 9, 12, 13, 14, 18, 19, 20] [(61, fText_l61_sum), (31333, fText_l31333_sum)] [] [.g [.int true .i64 w0, .int true .i64 h0, .vec 0 0 6]] [⟨⟨0, 0, r0, some ⟨0, [.int .u8, .int .u8, .int .u8, .int .u8, .int .i64, .int .u8], l, none⟩⟩, []⟩] = some (fText_o w0 h0 r0 l, LV.a (At.str true (fText_0 w0 h0 l)), [none]) := by kernel_rfl
def fText_c : Con
  | [.g [.int true .i64 w0, .int true .i64 h0, .vec 0 0 6]], [⟨⟨0, 0, r0, some ⟨0, [.int .u8, .int .u8, .int .u8, .int .u8, .int .i64, .int .u8], l, none⟩⟩, []⟩] => some (fText_o w0 h0 r0 l, LV.a (At.str true (fText_0 w0 h0 l)), [none])
  | _, _ => none
theorem fText_ok : ConOK Try.prog 42 (normC fText_c) := normC_ok (by
  intro args bs obs lv out h ho φ vs w may ha hM
  unfold fText_c at h
  split at h
  · simp only [Option.some.injEq, Prod.mk.injEq] at h
    obtain ⟨rfl, rfl, rfl⟩ := h
    rename_i w0 h0 r0 l
    exact evG_okL' tabFd1_ok follows (LOK_cons (show subs (bodyOf Try.prog 42) 1 61 = [.block (blockOf (subs (bodyOf Try.prog 42) 1 61)) (.loop fText_l61_code)] from by kernel_rfl) fText_l61_sok (LOK_cons (show subs (bodyOf Try.prog 42) 1 31333 = [.block (blockOf (subs (bodyOf Try.prog 42) 1 31333)) (.loop fText_l31333_code)] from by kernel_rfl) fText_l31333_sok (LOK_nil'))) _ _ _ _ _ (fText_p w0 h0 r0 l) ho φ vs w may ha hM
  · cases h)
theorem fText_en : Enters Try.prog 42 := fun args => by kernel_rfl
-- 2552 37 6 ms

/-! (azulejo/frame.Frame).Check -/
noncomputable def fChkS_l29_code : Go.Code := loopOf (subs (bodyOf Try.prog 40) 1 29)
structure fChkS_l29_T where
  a0 : Int
  a1 : Nat
  a2 : Nat
  a3 : Int
  a4 : Int
  a5 : List (List Int)
  deriving Inhabited
def fChkS_l29_hd (v : fChkS_l29_T) : HS := HS.mk [(nat_lit 2, LV.a (At.int true IntKind.i64 (fChkS_l29_T.a0 v))), (nat_lit 41, LV.a (At.slc true (nat_lit 0) (nat_lit 0) (nat_lit 0) (nat_lit 6) (fChkS_l29_T.a1 v) (fChkS_l29_T.a2 v))), (nat_lit 42, LV.a (At.int true IntKind.i64 (fChkS_l29_T.a3 v))), (nat_lit 43, LV.a (At.int true IntKind.i64 (fChkS_l29_T.a4 v)))] [BC.mk (Hd.mk (nat_lit 0) (nat_lit 0) true (some (Rw.mk (nat_lit 0) [Kd.int IntKind.u8, Kd.int IntKind.u8, Kd.int IntKind.u8, Kd.int IntKind.u8, Kd.int IntKind.i64, Kd.int IntKind.u8] (fChkS_l29_T.a5 v) none))) []]
def fChkS_l29_s0 (v : fChkS_l29_T) : Bool := decide (fChkS_l29_T.a4 v < fChkS_l29_T.a3 v)
def fChkS_l29_s1 (v : fChkS_l29_T) : Nat := fChkS_l29_T.a1 v + Int.toNat (fChkS_l29_T.a4 v)
def fChkS_l29_s2 (v : fChkS_l29_T) : Int := rget (Rw.l (Rw.mk (nat_lit 0) [Kd.int IntKind.u8, Kd.int IntKind.u8, Kd.int IntKind.u8, Kd.int IntKind.u8, Kd.int IntKind.i64, Kd.int IntKind.u8] (fChkS_l29_T.a5 v) none)) (fChkS_l29_s1 v) ((0 : Nat) + (1 : Nat) + (1 : Nat) + (1 : Nat) + (1 : Nat))
def fChkS_l29_s3 (v : fChkS_l29_T) : Bool := bif decide (rget (fChkS_l29_T.a5 v) (fChkS_l29_s1 v) (4 : Nat) < (0 : Int)) then true else decide ((65535 : Int) < rget (fChkS_l29_T.a5 v) (fChkS_l29_s1 v) (4 : Nat))
def fChkS_l29_st (v : fChkS_l29_T) : List Prop × List (X × Bool × fChkS_l29_T) := ([fChkS_l29_s0 v = true → (0 : Int) ≤ fChkS_l29_T.a4 v ∧ fChkS_l29_T.a4 v < Int.ofNat (fChkS_l29_T.a2 v)], [(X.e (0 : Nat), !fChkS_l29_s0 v, fChkS_l29_T.mk (fChkS_l29_T.a0 v) (fChkS_l29_T.a1 v) (fChkS_l29_T.a2 v) (fChkS_l29_T.a3 v) (fChkS_l29_T.a4 v) (fChkS_l29_T.a5 v)), (X.r, fChkS_l29_s0 v && fChkS_l29_s3 v, fChkS_l29_T.mk ((2 : Int)) (fChkS_l29_T.a1 v) (fChkS_l29_T.a2 v) (fChkS_l29_T.a3 v) (fChkS_l29_T.a4 v) (fChkS_l29_T.a5 v)), (X.n, fChkS_l29_s0 v && !fChkS_l29_s3 v, fChkS_l29_T.mk (fChkS_l29_T.a0 v) (fChkS_l29_T.a1 v) (fChkS_l29_T.a2 v) (fChkS_l29_T.a3 v) (IntKind.wrap IntKind.i64 (fChkS_l29_T.a4 v + (1 : Int))) (fChkS_l29_T.a5 v))])
def fChkS_l29_rd : HS → Option fChkS_l29_T
  | HS.mk [(2, LV.a (At.int true IntKind.i64 a0)), (41, LV.a (At.slc true 0 0 0 6 a1 a2)), (42, LV.a (At.int true IntKind.i64 a3)), (43, LV.a (At.int true IntKind.i64 a4))] [BC.mk (Hd.mk 0 0 true (some (Rw.mk 0 [Kd.int IntKind.u8, Kd.int IntKind.u8, Kd.int IntKind.u8, Kd.int IntKind.u8, Kd.int IntKind.i64, Kd.int IntKind.u8] a5 none))) []] => some (fChkS_l29_T.mk a0 a1 a2 a3 a4 a5)
  | _ => none
def fChkS_l29_sum : V.Sum := loopS fChkS_l29_hd fChkS_l29_rd fChkS_l29_st 18446744073709551616 [X.e (0 : Nat), X.r] [0, 1, 2, 4, 39, 41, 42, 43, 44, 54] [2, 41, 42, 43] [] [] [] 0
theorem fChkS_l29_E : ∀ v, bodyF Try.prog tabFd1 (ntOf Try.prog 40) [0, 1, 2, 4, 39, 41, 42, 43, 44, 54] [2, 41, 42, 43] [] 2000 [] [] fChkS_l29_code 116 (fChkS_l29_hd v) = some ((fChkS_l29_st v).1, (fChkS_l29_st v).2.map fun q => (q.1, q.2.1, fChkS_l29_hd q.2.2)) := fun v => by kernel_rfl
set_option maxHeartbeats 2000000 in
theorem fChkS_l29_R : ∀ h v, fChkS_l29_rd h = some v → h = fChkS_l29_hd v := by
  intro h v e
  unfold fChkS_l29_rd at e
  split at e
  · simp only [Option.some.injEq] at e; subst e; rfl
  · cases e
set_option maxRecDepth 100000 in
theorem fChkS_l29_sok : SumOK Try.prog (ntOf Try.prog 40) [0, 1, 2, 4, 39, 41, 42, 43, 44, 54] (.block (blockOf (subs (bodyOf Try.prog 40) 1 29)) (.loop fChkS_l29_code)) fChkS_l29_sum := loopS_ok tabFd1_ok follows fChkS_l29_E fChkS_l29_R (fun v => by kernel_rfl) (LOK_of _ _ (LOK_nil'))
def fChkS_s0 (w0 : Int) (h0 : Int) (n0 : Nat) : Bool := bif decide (w0 < (1 : Int)) then true else bif decide ((64 : Int) < w0) then true else bif decide (h0 < (1 : Int)) then true else bif decide ((64 : Int) < h0) then true else Int.ofNat n0 != IntKind.wrap IntKind.i64 (w0 * h0)
def fChkS_s1 (o0 : Nat) (n0 : Nat) (l : List (List Int)) : Option (X × fChkS_l29_T) := lrun fChkS_l29_st (18446744073709551616 : Nat) (fChkS_l29_T.mk (0 : Int) o0 n0 (Int.ofNat n0) (0 : Int) l)
def fChkS_0 (w0 : Int) (h0 : Int) (o0 : Nat) (n0 : Nat) (l : List (List Int)) : Int := bif fChkS_s0 w0 h0 n0 then (6 : Int) else bif isX X.r (fChkS_s1 o0 n0 l) then fChkS_l29_T.a0 (V.valOf (fChkS_s1 o0 n0 l)) else (0 : Int)
def fChkS_o (w0 : Int) (h0 : Int) (o0 : Nat) (n0 : Nat) (r0 : Bool) (l : List (List Int)) : List Prop := [(!fChkS_s0 w0 h0 n0) = true → lok fChkS_l29_st (18446744073709551616 : Nat) (fChkS_l29_T.mk (0 : Int) o0 n0 (Int.ofNat n0) (0 : Int) l)]
theorem fChkS_p (w0 : Int) (h0 : Int) (o0 : Nat) (n0 : Nat) (r0 : Bool) (l : List (List Int)) : evG Try.prog tabFd1 2000 40 [0, 1, 2, 4, 39, 41, 42, 43, 44, 54] [(29, fChkS_l29_sum)] [] [.g [.int true .i64 w0, .int true .i64 h0, .slc true 0 0 0 6 o0 n0]] [⟨⟨0, 0, r0, some ⟨0, [.int .u8, .int .u8, .int .u8, .int .u8, .int .i64, .int .u8], l, none⟩⟩, []⟩] = some (fChkS_o w0 h0 o0 n0 r0 l, LV.a (At.int true IntKind.i64 (fChkS_0 w0 h0 o0 n0 l)), [none]) := by kernel_rfl
def fChkS_c : Con
  | [.g [.int true .i64 w0, .int true .i64 h0, .slc true 0 0 0 6 o0 n0]], [⟨⟨0, 0, r0, some ⟨0, [.int .u8, .int .u8, .int .u8, .int .u8, .int .i64, .int .u8], l, none⟩⟩, []⟩] => some (fChkS_o w0 h0 o0 n0 r0 l, LV.a (At.int true IntKind.i64 (fChkS_0 w0 h0 o0 n0 l)), [none])
  | _, _ => none
theorem fChkS_ok : ConOK Try.prog 40 (normC fChkS_c) := normC_ok (by
  intro args bs obs lv out h ho φ vs w may ha hM
  unfold fChkS_c at h
  split at h
  · simp only [Option.some.injEq, Prod.mk.injEq] at h
    obtain ⟨rfl, rfl, rfl⟩ := h
    rename_i w0 h0 o0 n0 r0 l
    exact evG_okL' tabFd1_ok follows (LOK_cons (show subs (bodyOf Try.prog 40) 1 29 = [.block (blockOf (subs (bodyOf Try.prog 40) 1 29)) (.loop fChkS_l29_code)] from by kernel_rfl) fChkS_l29_sok (LOK_nil')) _ _ _ _ _ (fChkS_p w0 h0 o0 n0 r0 l) ho φ vs w may ha hM
  · cases h)
theorem fChkS_en : Enters Try.prog 40 := fun args => by kernel_rfl
-- 2738 82 9 ms

def tabFd2 : Tab := (41, normC fClone_c) :: (42, normC fText_c) :: (40, normC fChkS_c) :: tabFd1
theorem tabFd2_ok : TOK Try.prog tabFd2 := TOK.cons fClone_en fClone_ok (TOK.cons fText_en fText_ok (TOK.cons fChkS_en fChkS_ok (tabFd1_ok)))

end Go.Proofs.Ytcdejlgophpdjaa
