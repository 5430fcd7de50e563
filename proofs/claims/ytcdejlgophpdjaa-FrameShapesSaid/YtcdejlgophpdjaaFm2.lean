/-
  Contracts of functions of the program, each run on the local memory (printed by a program of this session's own: wip/tools).
-/
import Derived.Test.YtcdejlgophpdjaaFm1
namespace Go.Proofs.Ytcdejlgophpdjaa
open Go Go.RowKit Go.Proofs.Ytcdejlgophpdjaa.V
set_option linter.unusedVariables false

/-! (azulejo/frame.Frame).Sum -/
noncomputable def fSum_l29_code : Go.Code := loopOf (subs (bodyOf Try.prog 63) 1 29)
structure fSum_l29_T where
  a0 : Int
  a1 : Int
  a2 : Int
  a3 : List (List Int)
  a4 : List (List Int)
  deriving Inhabited
def fSum_l29_hd (v : fSum_l29_T) : HS := HS.mk [(nat_lit 2, LV.a (At.int true IntKind.u32 (fSum_l29_T.a0 v))), (nat_lit 3, LV.a (At.vec (nat_lit 1) (nat_lit 0) (nat_lit 1))), (nat_lit 7, LV.a (At.vec (nat_lit 0) (nat_lit 0) (nat_lit 6))), (nat_lit 8, LV.a (At.int true IntKind.i64 (fSum_l29_T.a1 v))), (nat_lit 9, LV.a (At.int true IntKind.i64 (fSum_l29_T.a2 v)))] [BC.mk (Hd.mk (nat_lit 0) (nat_lit 0) true (some (Rw.mk (nat_lit 0) [Kd.int IntKind.u8, Kd.int IntKind.u8, Kd.int IntKind.u8, Kd.int IntKind.u8, Kd.int IntKind.i64, Kd.int IntKind.u8] (fSum_l29_T.a3 v) none))) [], BC.mk (Hd.mk (nat_lit 0) (nat_lit 0) false (some (Rw.mk (nat_lit 0) [Kd.int IntKind.u8] (fSum_l29_T.a4 v) none))) []]
def fSum_l29_s0 (v : fSum_l29_T) : Bool := decide (fSum_l29_T.a2 v < fSum_l29_T.a1 v)
def fSum_l29_s1 (v : fSum_l29_T) : List (List Int) := fSum_l29_T.a4 v ++ [[rget (fSum_l29_T.a3 v) (Int.toNat (fSum_l29_T.a2 v)) (0 : Nat)], [rget (fSum_l29_T.a3 v) (Int.toNat (fSum_l29_T.a2 v)) (1 : Nat)], [rget (fSum_l29_T.a3 v) (Int.toNat (fSum_l29_T.a2 v)) (2 : Nat)], [rget (fSum_l29_T.a3 v) (Int.toNat (fSum_l29_T.a2 v)) (3 : Nat)]]
def fSum_l29_s2 (v : fSum_l29_T) : List (List Int) := fSum_l29_s1 v ++ [[IntKind.wrap IntKind.u8 (Int.fdiv (rget (fSum_l29_T.a3 v) (Int.toNat (fSum_l29_T.a2 v)) (4 : Nat)) ((2 : Int) ^ min (Int.toNat (8 : Int)) (IntKind.bits IntKind.i64)))], [IntKind.wrap IntKind.u8 (rget (fSum_l29_T.a3 v) (Int.toNat (fSum_l29_T.a2 v)) (4 : Nat))], [rget (fSum_l29_T.a3 v) (Int.toNat (fSum_l29_T.a2 v)) (5 : Nat)]]
def fSum_l29_st (v : fSum_l29_T) : List Prop × List (X × Bool × fSum_l29_T) := ([fSum_l29_s0 v = true → (0 : Int) ≤ fSum_l29_T.a2 v ∧ fSum_l29_T.a2 v < Int.ofNat (List.length (fSum_l29_T.a3 v)), fSum_l29_s0 v = true → List.length (fSum_l29_s1 v) * (1 : Nat) ≤ (70368744177664 : Nat), fSum_l29_s0 v = true → List.length (fSum_l29_s2 v) * (1 : Nat) ≤ (70368744177664 : Nat)], [(X.e (0 : Nat), !fSum_l29_s0 v, fSum_l29_T.mk (fSum_l29_T.a0 v) (fSum_l29_T.a1 v) (fSum_l29_T.a2 v) (fSum_l29_T.a3 v) (fSum_l29_T.a4 v)), (X.n, fSum_l29_s0 v, fSum_l29_T.mk (fSum_l29_T.a0 v) (fSum_l29_T.a1 v) (IntKind.wrap IntKind.i64 (fSum_l29_T.a2 v + (1 : Int))) (fSum_l29_T.a3 v) (fSum_l29_s2 v))])
def fSum_l29_rd : HS → Option fSum_l29_T
  | HS.mk [(2, LV.a (At.int true IntKind.u32 a0)), (3, LV.a (At.vec 1 0 1)), (7, LV.a (At.vec 0 0 6)), (8, LV.a (At.int true IntKind.i64 a1)), (9, LV.a (At.int true IntKind.i64 a2))] [BC.mk (Hd.mk 0 0 true (some (Rw.mk 0 [Kd.int IntKind.u8, Kd.int IntKind.u8, Kd.int IntKind.u8, Kd.int IntKind.u8, Kd.int IntKind.i64, Kd.int IntKind.u8] a3 none))) [], BC.mk (Hd.mk 0 0 false (some (Rw.mk 0 [Kd.int IntKind.u8] a4 none))) []] => some (fSum_l29_T.mk a0 a1 a2 a3 a4)
  | _ => none
def fSum_l29_sum : V.Sum := loopS fSum_l29_hd fSum_l29_rd fSum_l29_st 18446744073709551616 [X.e (0 : Nat)] [0, 1, 2, 3, 5, 7, 8, 9, 10] [2, 3, 7, 8, 9] [1] [1] [(3, [.int .u8])] 0
theorem fSum_l29_E : ∀ v, bodyF Try.prog tabFm1 (ntOf Try.prog 63) [0, 1, 2, 3, 5, 7, 8, 9, 10] [2, 3, 7, 8, 9] [] 2000 [1] [1] fSum_l29_code 116 (fSum_l29_hd v) = some ((fSum_l29_st v).1, (fSum_l29_st v).2.map fun q => (q.1, q.2.1, fSum_l29_hd q.2.2)) := fun v => by kernel_rfl
set_option maxHeartbeats 2000000 in
theorem fSum_l29_R : ∀ h v, fSum_l29_rd h = some v → h = fSum_l29_hd v := by
  intro h v e
  unfold fSum_l29_rd at e
  split at e
  · simp only [Option.some.injEq] at e; subst e; rfl
  · cases e
set_option maxRecDepth 100000 in
theorem fSum_l29_sok : SumOK Try.prog (ntOf Try.prog 63) [0, 1, 2, 3, 5, 7, 8, 9, 10] (.block (blockOf (subs (bodyOf Try.prog 63) 1 29)) (.loop fSum_l29_code)) fSum_l29_sum := loopS_ok tabFm1_ok follows fSum_l29_E fSum_l29_R (fun v => by kernel_rfl) (LOK_of _ _ (LOK_nil'))
def fSum_s0 (l : List (List Int)) : Option (X × fSum_l29_T) := lrun fSum_l29_st (18446744073709551616 : Nat) (fSum_l29_T.mk (0 : Int) (Int.ofNat (List.length l)) (0 : Int) l [])
def fSum_0 (l : List (List Int)) : Int := cSum_0 (fSum_l29_T.a4 (V.valOf (fSum_s0 l)))
def fSum_o (w0 : Int) (h0 : Int) (r0 : Bool) (l : List (List Int)) : List Prop := [lok fSum_l29_st (18446744073709551616 : Nat) (fSum_l29_T.mk (0 : Int) (Int.ofNat (List.length l)) (0 : Int) l []), isX (X.e (0 : Nat)) (fSum_s0 l) = true → lok cSum_l29_st (18446744073709551616 : Nat) (cSum_l29_T.mk (0 : Int) (4294967295 : Int) (Int.ofNat (List.length (fSum_l29_T.a4 (V.valOf (fSum_s0 l))))) (0 : Int) (fSum_l29_T.a4 (V.valOf (fSum_s0 l))))]
theorem fSum_p (w0 : Int) (h0 : Int) (r0 : Bool) (l : List (List Int)) : evG Try.prog tabFm1 2000 63 [0, 1, 2, 3, 5, 7, 8, 9, 10] [(29, fSum_l29_sum)] [] [.g [.int true .i64 w0, .int true .i64 h0, .vec 0 0 6]] [⟨⟨0, 0, r0, some ⟨0, [.int .u8, .int .u8, .int .u8, .int .u8, .int .i64, .int .u8], l, none⟩⟩, []⟩] = some (fSum_o w0 h0 r0 l, LV.a (At.int true IntKind.u32 (fSum_0 l)), [none]) := by kernel_rfl
def fSum_c : Con
  | [.g [.int true .i64 w0, .int true .i64 h0, .vec 0 0 6]], [⟨⟨0, 0, r0, some ⟨0, [.int .u8, .int .u8, .int .u8, .int .u8, .int .i64, .int .u8], l, none⟩⟩, []⟩] => some (fSum_o w0 h0 r0 l, LV.a (At.int true IntKind.u32 (fSum_0 l)), [none])
  | _, _ => none
theorem fSum_ok : ConOK Try.prog 63 (normC fSum_c) := normC_ok (by
  intro args bs obs lv out h ho φ vs w may ha hM
  unfold fSum_c at h
  split at h
  · simp only [Option.some.injEq, Prod.mk.injEq] at h
    obtain ⟨rfl, rfl, rfl⟩ := h
    rename_i w0 h0 r0 l
    exact evG_okL' tabFm1_ok follows (LOK_cons (show subs (bodyOf Try.prog 63) 1 29 = [.block (blockOf (subs (bodyOf Try.prog 63) 1 29)) (.loop fSum_l29_code)] from by kernel_rfl) fSum_l29_sok (LOK_nil')) _ _ _ _ _ (fSum_p w0 h0 r0 l) ho φ vs w may ha hM
  · cases h)
theorem fSum_en : Enters Try.prog 63 := fun args => by kernel_rfl
-- 1239 1 6 ms

def tabFm2 : Tab := (63, normC fSum_c) :: tabFm1
theorem tabFm2_ok : TOK Try.prog tabFm2 := TOK.cons fSum_en fSum_ok (tabFm1_ok)

end Go.Proofs.Ytcdejlgophpdjaa
