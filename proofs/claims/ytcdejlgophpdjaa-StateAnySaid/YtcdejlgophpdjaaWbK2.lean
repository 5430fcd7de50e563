/-
  Contracts of functions of the program, each run on the local memory (printed by a program of this session's own: wip/tools).
-/
import Derived.Test.YtcdejlgophpdjaaWbK1
namespace Go.Proofs.Ytcdejlgophpdjaa
open Go Go.RowKit Go.Proofs.Ytcdejlgophpdjaa.V
set_option linter.unusedVariables false

/-! azulejo/state.Take -/
def stTakeK_s0 : List (List Int) := List.replicate (Int.toNat (15 : Int)) [(0 : Int)]
def stTakeK_s1 (xa : Int) (l : List (List Int)) : List (List Int) := rBytesK_1 (15 : Int) xa l ++ stTakeK_s0
def stTakeK_s2 (xa : Int) (l : List (List Int)) : Int := rget (stTakeK_s1 xa l) (Int.toNat (1 : Int)) (0 : Nat)
def stTakeK_s3 (xa : Int) (l : List (List Int)) : Bool := decide ((1 : Int) < stTakeK_s2 xa l)
def stTakeK_s4 (xa : Int) (l : List (List Int)) : Int := rget (stTakeK_s1 xa l) (Int.toNat (0 : Int)) (0 : Nat)
def stTakeK_s5 (xa : Int) (l : List (List Int)) : Int := rget (stTakeK_s1 xa l) (Int.toNat (2 : Int)) (0 : Nat)
def stTakeK_s6 (xa : Int) (l : List (List Int)) : Int := rget (stTakeK_s1 xa l) (Int.toNat (5 : Int)) (0 : Nat)
def stTakeK_s7 (xa : Int) (l : List (List Int)) : Int := rget (stTakeK_s1 xa l) (Int.toNat (6 : Int)) (0 : Nat)
def stTakeK_s8 (xa : Int) (l : List (List Int)) : Int := rget (stTakeK_s1 xa l) (Int.toNat (7 : Int)) (0 : Nat)
def stTakeK_s9 (xa : Int) (l : List (List Int)) : Int := rget (stTakeK_s1 xa l) (Int.toNat (8 : Int)) (0 : Nat)
def stTakeK_s10 (xa : Int) (l : List (List Int)) : Int := rget (stTakeK_s1 xa l) (Int.toNat (9 : Int)) (0 : Nat)
def stTakeK_s11 (xa : Int) (l : List (List Int)) : Int := rget (stTakeK_s1 xa l) (Int.toNat (10 : Int)) (0 : Nat)
def stTakeK_s12 (xa : Int) (l : List (List Int)) : Int := IntKind.wrap IntKind.i64 (rget (stTakeK_s1 xa l) (Int.toNat (11 : Int)) (0 : Nat))
def stTakeK_s13 (xa : Int) (l : List (List Int)) : Int := IntKind.wrap IntKind.i64 (rget (stTakeK_s1 xa l) (Int.toNat (12 : Int)) (0 : Nat))
def stTakeK_s14 (xa : Int) (l : List (List Int)) : Int := IntKind.wrap IntKind.i64 (rget (stTakeK_s1 xa l) (Int.toNat (13 : Int)) (0 : Nat))
def stTakeK_s15 (xa : Int) (l : List (List Int)) : Int := IntKind.wrap IntKind.i64 (rget (stTakeK_s1 xa l) (Int.toNat (14 : Int)) (0 : Nat))
def stTakeK_s16 (xa : Int) (l : List (List Int)) : Int := sChk_0 (stTakeK_s4 xa l) (stTakeK_s5 xa l) (stTakeK_s6 xa l) (stTakeK_s7 xa l) (stTakeK_s8 xa l) (stTakeK_s9 xa l) (stTakeK_s10 xa l) (stTakeK_s11 xa l) (stTakeK_s12 xa l) (stTakeK_s13 xa l) (stTakeK_s14 xa l) (stTakeK_s15 xa l)
def stTakeK_s17 (xa : Int) (l : List (List Int)) : Bool := stTakeK_s16 xa l != (0 : Int)
def stTakeK_s18 (xa : Int) (xe : Int) (l : List (List Int)) : Int := bif xe == (0 : Int) then bif stTakeK_s3 xa l then wFail_0 (4 : Int) xe else bif stTakeK_s17 xa l then wFail_0 (stTakeK_s16 xa l) xe else xe else xe
def stTakeK_s19 (xa : Int) (xe : Int) (l : List (List Int)) : Bool := stTakeK_s18 xa xe l != (0 : Int)
def stTakeK_0 (xa : Int) (xe : Int) (l : List (List Int)) : Int := bif stTakeK_s19 xa xe l then (0 : Int) else stTakeK_s4 xa l
def stTakeK_1 (xa : Int) (xe : Int) (l : List (List Int)) : Bool := bif stTakeK_s19 xa xe l then false else stTakeK_s2 xa l == (1 : Int)
def stTakeK_2 (xa : Int) (xe : Int) (l : List (List Int)) : Int := bif stTakeK_s19 xa xe l then (0 : Int) else stTakeK_s5 xa l
def stTakeK_3 (xa : Int) (xe : Int) (l : List (List Int)) : Int := bif stTakeK_s19 xa xe l then (0 : Int) else rget (stTakeK_s1 xa l) (Int.toNat (3 : Int)) (0 : Nat)
def stTakeK_4 (xa : Int) (xe : Int) (l : List (List Int)) : Int := bif stTakeK_s19 xa xe l then (0 : Int) else rget (stTakeK_s1 xa l) (Int.toNat (4 : Int)) (0 : Nat)
def stTakeK_5 (xa : Int) (xe : Int) (l : List (List Int)) : Int := bif stTakeK_s19 xa xe l then (0 : Int) else stTakeK_s6 xa l
def stTakeK_6 (xa : Int) (xe : Int) (l : List (List Int)) : Int := bif stTakeK_s19 xa xe l then (0 : Int) else stTakeK_s7 xa l
def stTakeK_7 (xa : Int) (xe : Int) (l : List (List Int)) : Int := bif stTakeK_s19 xa xe l then (0 : Int) else stTakeK_s8 xa l
def stTakeK_8 (xa : Int) (xe : Int) (l : List (List Int)) : Int := bif stTakeK_s19 xa xe l then (0 : Int) else stTakeK_s9 xa l
def stTakeK_9 (xa : Int) (xe : Int) (l : List (List Int)) : Int := bif stTakeK_s19 xa xe l then (0 : Int) else stTakeK_s10 xa l
def stTakeK_10 (xa : Int) (xe : Int) (l : List (List Int)) : Int := bif stTakeK_s19 xa xe l then (0 : Int) else stTakeK_s11 xa l
def stTakeK_11 (xa : Int) (xe : Int) (l : List (List Int)) : Int := bif stTakeK_s19 xa xe l then (0 : Int) else stTakeK_s12 xa l
def stTakeK_12 (xa : Int) (xe : Int) (l : List (List Int)) : Int := bif stTakeK_s19 xa xe l then (0 : Int) else stTakeK_s13 xa l
def stTakeK_13 (xa : Int) (xe : Int) (l : List (List Int)) : Int := bif stTakeK_s19 xa xe l then (0 : Int) else stTakeK_s14 xa l
def stTakeK_14 (xa : Int) (xe : Int) (l : List (List Int)) : Int := bif stTakeK_s19 xa xe l then (0 : Int) else stTakeK_s15 xa l
def stTakeK_15 (xa : Int) (xe : Int) (l : List (List Int)) : Int := bif xe == (0 : Int) then bif stTakeK_s3 xa l then rBytesK_0 (15 : Int) xa else bif stTakeK_s17 xa l then rBytesK_0 (15 : Int) xa else rBytesK_0 (15 : Int) xa else rBytesK_0 (15 : Int) xa
def stTakeK_16 (xa : Int) (xe : Int) (l : List (List Int)) : Int := stTakeK_s18 xa xe l
def stTakeK_s20 (xa : Int) : Int := IntKind.wrap IntKind.i64 (xa + (15 : Int))
def stTakeK_o (xa : Int) (xe : Int) (r1 : Bool) (l : List (List Int)) : List Prop := [(bif decide ((15 : Int) < (0 : Int)) then true else decide (wLeft_0 xa xe l < (15 : Int))) = false, ((15 : Int) == (0 : Int)) = false, (0 : Int) ≤ rBytesK_s0 (15 : Int) xa ∧ rBytesK_s0 (15 : Int) xa ≤ stTakeK_s20 xa ∧ stTakeK_s20 xa ≤ Int.ofNat (List.length l), List.length (rBytesK_s1 (15 : Int) xa l) * (1 : Nat) ≤ (70368744177664 : Nat), (0 : Int) ≤ (15 : Int), List.length (stTakeK_s1 xa l) * (1 : Nat) ≤ (70368744177664 : Nat), (0 : Int) ≤ (0 : Int) ∧ (0 : Int) < Int.ofNat (List.length (stTakeK_s1 xa l)), (0 : Int) ≤ (1 : Int) ∧ (1 : Int) < Int.ofNat (List.length (stTakeK_s1 xa l)), (0 : Int) ≤ (2 : Int) ∧ (2 : Int) < Int.ofNat (List.length (stTakeK_s1 xa l)), (0 : Int) ≤ (3 : Int) ∧ (3 : Int) < Int.ofNat (List.length (stTakeK_s1 xa l)), (0 : Int) ≤ (4 : Int) ∧ (4 : Int) < Int.ofNat (List.length (stTakeK_s1 xa l)), (0 : Int) ≤ (5 : Int) ∧ (5 : Int) < Int.ofNat (List.length (stTakeK_s1 xa l)), (0 : Int) ≤ (6 : Int) ∧ (6 : Int) < Int.ofNat (List.length (stTakeK_s1 xa l)), (0 : Int) ≤ (7 : Int) ∧ (7 : Int) < Int.ofNat (List.length (stTakeK_s1 xa l)), (0 : Int) ≤ (8 : Int) ∧ (8 : Int) < Int.ofNat (List.length (stTakeK_s1 xa l)), (0 : Int) ≤ (9 : Int) ∧ (9 : Int) < Int.ofNat (List.length (stTakeK_s1 xa l)), (0 : Int) ≤ (10 : Int) ∧ (10 : Int) < Int.ofNat (List.length (stTakeK_s1 xa l)), (0 : Int) ≤ (11 : Int) ∧ (11 : Int) < Int.ofNat (List.length (stTakeK_s1 xa l)), (0 : Int) ≤ (12 : Int) ∧ (12 : Int) < Int.ofNat (List.length (stTakeK_s1 xa l)), (0 : Int) ≤ (13 : Int) ∧ (13 : Int) < Int.ofNat (List.length (stTakeK_s1 xa l)), (0 : Int) ≤ (14 : Int) ∧ (14 : Int) < Int.ofNat (List.length (stTakeK_s1 xa l)), (xe == (0 : Int)) = true → (0 : Int) ≤ (1 : Int) ∧ (1 : Int) < Int.ofNat (List.length (stTakeK_s1 xa l))]
theorem stTakeK_p (xa : Int) (xe : Int) (r1 : Bool) (l : List (List Int)) : evG Try.prog tabWbK1 2000 58 [0, 2, 3, 4, 5, 63, 67, 73, 79] [] [0] [.a (.ptr 0 0)] [⟨⟨0, 3, false, none⟩, [some (.vec 1 0 1), some (.int true .i64 xa), some (.int true .i64 xe)]⟩, ⟨⟨0, 0, r1, some ⟨0, [.int .u8], l, none⟩⟩, []⟩] = some (stTakeK_o xa xe r1 l, LV.g [At.int true IntKind.u8 (stTakeK_0 xa xe l), At.bool true (stTakeK_1 xa xe l), At.int true IntKind.u8 (stTakeK_2 xa xe l), At.int true IntKind.u8 (stTakeK_3 xa xe l), At.int true IntKind.u8 (stTakeK_4 xa xe l), At.int true IntKind.u8 (stTakeK_5 xa xe l), At.int true IntKind.u8 (stTakeK_6 xa xe l), At.int true IntKind.u8 (stTakeK_7 xa xe l), At.int true IntKind.u8 (stTakeK_8 xa xe l), At.int true IntKind.u8 (stTakeK_9 xa xe l), At.int true IntKind.u8 (stTakeK_10 xa xe l), At.int true IntKind.i64 (stTakeK_11 xa xe l), At.int true IntKind.i64 (stTakeK_12 xa xe l), At.int true IntKind.i64 (stTakeK_13 xa xe l), At.int true IntKind.i64 (stTakeK_14 xa xe l)], [some (BC.mk (Hd.mk (nat_lit 0) (nat_lit 3) false none) [some (At.vec (nat_lit 1) (nat_lit 0) (nat_lit 1)), some (At.int true IntKind.i64 (stTakeK_15 xa xe l)), some (At.int true IntKind.i64 (stTakeK_16 xa xe l))]), none]) := by kernel_rfl
def stTakeK_c : Con
  | [.a (.ptr 0 0)], [⟨⟨0, 3, false, none⟩, [some (.vec 1 0 1), some (.int true .i64 xa), some (.int true .i64 xe)]⟩, ⟨⟨0, 0, r1, some ⟨0, [.int .u8], l, none⟩⟩, []⟩] => some (stTakeK_o xa xe r1 l, LV.g [At.int true IntKind.u8 (stTakeK_0 xa xe l), At.bool true (stTakeK_1 xa xe l), At.int true IntKind.u8 (stTakeK_2 xa xe l), At.int true IntKind.u8 (stTakeK_3 xa xe l), At.int true IntKind.u8 (stTakeK_4 xa xe l), At.int true IntKind.u8 (stTakeK_5 xa xe l), At.int true IntKind.u8 (stTakeK_6 xa xe l), At.int true IntKind.u8 (stTakeK_7 xa xe l), At.int true IntKind.u8 (stTakeK_8 xa xe l), At.int true IntKind.u8 (stTakeK_9 xa xe l), At.int true IntKind.u8 (stTakeK_10 xa xe l), At.int true IntKind.i64 (stTakeK_11 xa xe l), At.int true IntKind.i64 (stTakeK_12 xa xe l), At.int true IntKind.i64 (stTakeK_13 xa xe l), At.int true IntKind.i64 (stTakeK_14 xa xe l)], [some (BC.mk (Hd.mk (nat_lit 0) (nat_lit 3) false none) [some (At.vec (nat_lit 1) (nat_lit 0) (nat_lit 1)), some (At.int true IntKind.i64 (stTakeK_15 xa xe l)), some (At.int true IntKind.i64 (stTakeK_16 xa xe l))]), none])
  | _, _ => none
theorem stTakeK_ok : ConOK Try.prog 58 (normC stTakeK_c) := normC_ok (by
  intro args bs obs lv out h ho φ vs w may ha hM
  unfold stTakeK_c at h
  split at h
  · simp only [Option.some.injEq, Prod.mk.injEq] at h
    obtain ⟨rfl, rfl, rfl⟩ := h
    rename_i xa xe r1 l
    exact evG_ok tabWbK1_ok follows _ _ _ _ _ (stTakeK_p xa xe r1 l) ho φ vs w may ha hM
  · cases h)
theorem stTakeK_en : Enters Try.prog 58 := fun args => by kernel_rfl
-- 2237 2124 43 ms

def tabWbK2 : Tab := (58, normC stTakeK_c) :: tabWbK1
theorem tabWbK2_ok : TOK Try.prog tabWbK2 := TOK.cons stTakeK_en stTakeK_ok (tabWbK1_ok)

end Go.Proofs.Ytcdejlgophpdjaa
