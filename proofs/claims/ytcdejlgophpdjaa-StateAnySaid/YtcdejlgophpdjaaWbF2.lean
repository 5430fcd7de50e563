/-
  Contracts of functions of the program, each run on the local memory (printed by a program of this session's own: wip/tools).
-/
import Derived.Test.YtcdejlgophpdjaaWbF1
namespace Go.Proofs.Ytcdejlgophpdjaa
open Go Go.RowKit Go.Proofs.Ytcdejlgophpdjaa.V
set_option linter.unusedVariables false

/-! azulejo/state.Take -/
def stTakeF_s0 (xe : Int) : Bool := rBytesF_0 xe == (0 : Int)
def stTakeF_s1 : List (List Int) := List.replicate (Int.toNat (15 : Int)) [(0 : Int)]
def stTakeF_s2 : Int := rget stTakeF_s1 (Int.toNat (1 : Int)) (0 : Nat)
def stTakeF_s3 : Bool := decide ((1 : Int) < stTakeF_s2)
def stTakeF_s4 : Int := rget stTakeF_s1 (Int.toNat (0 : Int)) (0 : Nat)
def stTakeF_s5 : Int := rget stTakeF_s1 (Int.toNat (2 : Int)) (0 : Nat)
def stTakeF_s6 : Int := rget stTakeF_s1 (Int.toNat (5 : Int)) (0 : Nat)
def stTakeF_s7 : Int := rget stTakeF_s1 (Int.toNat (6 : Int)) (0 : Nat)
def stTakeF_s8 : Int := rget stTakeF_s1 (Int.toNat (7 : Int)) (0 : Nat)
def stTakeF_s9 : Int := rget stTakeF_s1 (Int.toNat (8 : Int)) (0 : Nat)
def stTakeF_s10 : Int := rget stTakeF_s1 (Int.toNat (9 : Int)) (0 : Nat)
def stTakeF_s11 : Int := rget stTakeF_s1 (Int.toNat (10 : Int)) (0 : Nat)
def stTakeF_s12 : Int := IntKind.wrap IntKind.i64 (rget stTakeF_s1 (Int.toNat (11 : Int)) (0 : Nat))
def stTakeF_s13 : Int := IntKind.wrap IntKind.i64 (rget stTakeF_s1 (Int.toNat (12 : Int)) (0 : Nat))
def stTakeF_s14 : Int := IntKind.wrap IntKind.i64 (rget stTakeF_s1 (Int.toNat (13 : Int)) (0 : Nat))
def stTakeF_s15 : Int := IntKind.wrap IntKind.i64 (rget stTakeF_s1 (Int.toNat (14 : Int)) (0 : Nat))
def stTakeF_s16 : Int := sChk_0 stTakeF_s4 stTakeF_s5 stTakeF_s6 stTakeF_s7 stTakeF_s8 stTakeF_s9 stTakeF_s10 stTakeF_s11 stTakeF_s12 stTakeF_s13 stTakeF_s14 stTakeF_s15
def stTakeF_s17 (xe : Int) : Int := bif stTakeF_s0 xe then bif stTakeF_s3 then wFail_0 (4 : Int) (rBytesF_0 xe) else bif stTakeF_s16 != (0 : Int) then wFail_0 stTakeF_s16 (rBytesF_0 xe) else rBytesF_0 xe else rBytesF_0 xe
def stTakeF_s18 (xe : Int) : Bool := stTakeF_s17 xe != (0 : Int)
def stTakeF_0 (xe : Int) : Int := bif stTakeF_s18 xe then (0 : Int) else stTakeF_s4
def stTakeF_1 (xe : Int) : Bool := bif stTakeF_s18 xe then false else stTakeF_s2 == (1 : Int)
def stTakeF_2 (xe : Int) : Int := bif stTakeF_s18 xe then (0 : Int) else stTakeF_s5
def stTakeF_3 (xe : Int) : Int := bif stTakeF_s18 xe then (0 : Int) else rget stTakeF_s1 (Int.toNat (3 : Int)) (0 : Nat)
def stTakeF_4 (xe : Int) : Int := bif stTakeF_s18 xe then (0 : Int) else rget stTakeF_s1 (Int.toNat (4 : Int)) (0 : Nat)
def stTakeF_5 (xe : Int) : Int := bif stTakeF_s18 xe then (0 : Int) else stTakeF_s6
def stTakeF_6 (xe : Int) : Int := bif stTakeF_s18 xe then (0 : Int) else stTakeF_s7
def stTakeF_7 (xe : Int) : Int := bif stTakeF_s18 xe then (0 : Int) else stTakeF_s8
def stTakeF_8 (xe : Int) : Int := bif stTakeF_s18 xe then (0 : Int) else stTakeF_s9
def stTakeF_9 (xe : Int) : Int := bif stTakeF_s18 xe then (0 : Int) else stTakeF_s10
def stTakeF_10 (xe : Int) : Int := bif stTakeF_s18 xe then (0 : Int) else stTakeF_s11
def stTakeF_11 (xe : Int) : Int := bif stTakeF_s18 xe then (0 : Int) else stTakeF_s12
def stTakeF_12 (xe : Int) : Int := bif stTakeF_s18 xe then (0 : Int) else stTakeF_s13
def stTakeF_13 (xe : Int) : Int := bif stTakeF_s18 xe then (0 : Int) else stTakeF_s14
def stTakeF_14 (xe : Int) : Int := bif stTakeF_s18 xe then (0 : Int) else stTakeF_s15
def stTakeF_15 (xa : Int) (xe : Int) : Int := bif stTakeF_s0 xe then bif stTakeF_s3 then xa else bif stTakeF_s16 != (0 : Int) then xa else xa else xa
def stTakeF_o (xa : Int) (xe : Int) (r1 : Bool) (l : List (List Int)) : List Prop := [(bif decide ((15 : Int) < (0 : Int)) then true else decide (wLeft_0 xa xe l < (15 : Int))) = true, (0 : Int) ≤ (15 : Int), (15 : Nat) ≤ (70368744177664 : Nat), (0 : Int) ≤ (0 : Int) ∧ (0 : Int) < Int.ofNat (15 : Nat), (0 : Int) ≤ (1 : Int) ∧ (1 : Int) < Int.ofNat (15 : Nat), (0 : Int) ≤ (2 : Int) ∧ (2 : Int) < Int.ofNat (15 : Nat), (0 : Int) ≤ (3 : Int) ∧ (3 : Int) < Int.ofNat (15 : Nat), (0 : Int) ≤ (4 : Int) ∧ (4 : Int) < Int.ofNat (15 : Nat), (0 : Int) ≤ (5 : Int) ∧ (5 : Int) < Int.ofNat (15 : Nat), (0 : Int) ≤ (6 : Int) ∧ (6 : Int) < Int.ofNat (15 : Nat), (0 : Int) ≤ (7 : Int) ∧ (7 : Int) < Int.ofNat (15 : Nat), (0 : Int) ≤ (8 : Int) ∧ (8 : Int) < Int.ofNat (15 : Nat), (0 : Int) ≤ (9 : Int) ∧ (9 : Int) < Int.ofNat (15 : Nat), (0 : Int) ≤ (10 : Int) ∧ (10 : Int) < Int.ofNat (15 : Nat), (0 : Int) ≤ (11 : Int) ∧ (11 : Int) < Int.ofNat (15 : Nat), (0 : Int) ≤ (12 : Int) ∧ (12 : Int) < Int.ofNat (15 : Nat), (0 : Int) ≤ (13 : Int) ∧ (13 : Int) < Int.ofNat (15 : Nat), (0 : Int) ≤ (14 : Int) ∧ (14 : Int) < Int.ofNat (15 : Nat), stTakeF_s0 xe = true → (0 : Int) ≤ (1 : Int) ∧ (1 : Int) < Int.ofNat (15 : Nat)]
theorem stTakeF_p (xa : Int) (xe : Int) (r1 : Bool) (l : List (List Int)) : evG Try.prog tabWbF1 2000 58 [0, 2, 3, 4, 5, 63, 67, 73, 79] [] [0] [.a (.ptr 0 0)] [⟨⟨0, 3, false, none⟩, [some (.vec 1 0 1), some (.int true .i64 xa), some (.int true .i64 xe)]⟩, ⟨⟨0, 0, r1, some ⟨0, [.int .u8], l, none⟩⟩, []⟩] = some (stTakeF_o xa xe r1 l, LV.g [At.int true IntKind.u8 (stTakeF_0 xe), At.bool true (stTakeF_1 xe), At.int true IntKind.u8 (stTakeF_2 xe), At.int true IntKind.u8 (stTakeF_3 xe), At.int true IntKind.u8 (stTakeF_4 xe), At.int true IntKind.u8 (stTakeF_5 xe), At.int true IntKind.u8 (stTakeF_6 xe), At.int true IntKind.u8 (stTakeF_7 xe), At.int true IntKind.u8 (stTakeF_8 xe), At.int true IntKind.u8 (stTakeF_9 xe), At.int true IntKind.u8 (stTakeF_10 xe), At.int true IntKind.i64 (stTakeF_11 xe), At.int true IntKind.i64 (stTakeF_12 xe), At.int true IntKind.i64 (stTakeF_13 xe), At.int true IntKind.i64 (stTakeF_14 xe)], [some (BC.mk (Hd.mk (nat_lit 0) (nat_lit 3) false none) [some (At.vec (nat_lit 1) (nat_lit 0) (nat_lit 1)), some (At.int true IntKind.i64 (stTakeF_15 xa xe)), some (At.int true IntKind.i64 (stTakeF_s17 xe))]), none]) := by kernel_rfl
def stTakeF_c : Con
  | [.a (.ptr 0 0)], [⟨⟨0, 3, false, none⟩, [some (.vec 1 0 1), some (.int true .i64 xa), some (.int true .i64 xe)]⟩, ⟨⟨0, 0, r1, some ⟨0, [.int .u8], l, none⟩⟩, []⟩] => some (stTakeF_o xa xe r1 l, LV.g [At.int true IntKind.u8 (stTakeF_0 xe), At.bool true (stTakeF_1 xe), At.int true IntKind.u8 (stTakeF_2 xe), At.int true IntKind.u8 (stTakeF_3 xe), At.int true IntKind.u8 (stTakeF_4 xe), At.int true IntKind.u8 (stTakeF_5 xe), At.int true IntKind.u8 (stTakeF_6 xe), At.int true IntKind.u8 (stTakeF_7 xe), At.int true IntKind.u8 (stTakeF_8 xe), At.int true IntKind.u8 (stTakeF_9 xe), At.int true IntKind.u8 (stTakeF_10 xe), At.int true IntKind.i64 (stTakeF_11 xe), At.int true IntKind.i64 (stTakeF_12 xe), At.int true IntKind.i64 (stTakeF_13 xe), At.int true IntKind.i64 (stTakeF_14 xe)], [some (BC.mk (Hd.mk (nat_lit 0) (nat_lit 3) false none) [some (At.vec (nat_lit 1) (nat_lit 0) (nat_lit 1)), some (At.int true IntKind.i64 (stTakeF_15 xa xe)), some (At.int true IntKind.i64 (stTakeF_s17 xe))]), none])
  | _, _ => none
theorem stTakeF_ok : ConOK Try.prog 58 (normC stTakeF_c) := normC_ok (by
  intro args bs obs lv out h ho φ vs w may ha hM
  unfold stTakeF_c at h
  split at h
  · simp only [Option.some.injEq, Prod.mk.injEq] at h
    obtain ⟨rfl, rfl, rfl⟩ := h
    rename_i xa xe r1 l
    exact evG_ok tabWbF1_ok follows _ _ _ _ _ (stTakeF_p xa xe r1 l) ho φ vs w may ha hM
  · cases h)
theorem stTakeF_en : Enters Try.prog 58 := fun args => by kernel_rfl
-- 1917 1805 27 ms

def tabWbF2 : Tab := (58, normC stTakeF_c) :: tabWbF1
theorem tabWbF2_ok : TOK Try.prog tabWbF2 := TOK.cons stTakeF_en stTakeF_ok (tabWbF1_ok)

end Go.Proofs.Ytcdejlgophpdjaa
