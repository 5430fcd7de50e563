/-
  Contracts of functions of the program, each run on the local memory (printed by a program of this session's own: wip/tools).
-/
import Derived.Test.YtcdejlgophpdjaaFa4
namespace Go.Proofs.Ytcdejlgophpdjaa
open Go Go.RowKit Go.Proofs.Ytcdejlgophpdjaa.V
set_option linter.unusedVariables false

def sRep_D : Tab := (2, decC [(13, false), (61, false)]) :: tabFa4
theorem sRep_D_ok : TOK Try.prog sRep_D := TOK.cons (fun args => by kernel_rfl) (fun _ _ _ _ _ h ho => (decC_ok h ho).elim) tabFa4_ok
/-! slices.Repeat[[]azulejo/pixel.Pixel,azulejo/pixel.Pixel] -/
noncomputable def sRep_l254_code : Go.Code := loopOf (subs (bodyOf Try.prog 104) 1 254)
structure sRep_l254_T where
  a0 : Int
  a1 : List (List Int)
  deriving Inhabited
def sRep_l254_hd (v : sRep_l254_T) : HS := HS.mk [(nat_lit 4, LV.a At.nils), (nat_lit 7, LV.a (At.vec (nat_lit 0) (nat_lit 0) (nat_lit 6))), (nat_lit 8, LV.a (At.int true IntKind.i64 (sRep_l254_T.a0 v)))] [BC.mk (Hd.mk (nat_lit 0) (nat_lit 0) false (some (Rw.mk (nat_lit 0) [Kd.int IntKind.u8, Kd.int IntKind.u8, Kd.int IntKind.u8, Kd.int IntKind.u8, Kd.int IntKind.i64, Kd.int IntKind.u8] (sRep_l254_T.a1 v) none))) []]
def sRep_l254_s0 (v : sRep_l254_T) : Bool := decide (sRep_l254_T.a0 v < Int.ofNat (List.length (sRep_l254_T.a1 v)))
def sRep_l254_s1 (v : sRep_l254_T) : List (List Int) := List.take (Int.toNat (sRep_l254_T.a0 v) - Int.toNat (Int.ofNat (0 : Nat))) (List.drop (Int.toNat (Int.ofNat (0 : Nat))) (sRep_l254_T.a1 v))
def sRep_l254_s2 (v : sRep_l254_T) : Nat := Int.toNat (Int.ofNat (List.length (sRep_l254_T.a1 v))) - Int.toNat (sRep_l254_T.a0 v)
def sRep_l254_st (v : sRep_l254_T) : List Prop × List (X × Bool × sRep_l254_T) := ([sRep_l254_s0 v = true → (0 : Int) ≤ sRep_l254_T.a0 v ∧ sRep_l254_T.a0 v ≤ Int.ofNat (List.length (sRep_l254_T.a1 v)) ∧ Int.ofNat (List.length (sRep_l254_T.a1 v)) ≤ Int.ofNat (List.length (sRep_l254_T.a1 v)), sRep_l254_s0 v = true → (0 : Int) ≤ Int.ofNat (0 : Nat) ∧ Int.ofNat (0 : Nat) ≤ sRep_l254_T.a0 v ∧ sRep_l254_T.a0 v ≤ Int.ofNat (List.length (sRep_l254_T.a1 v))], [(X.e (0 : Nat), !sRep_l254_s0 v, sRep_l254_T.mk (sRep_l254_T.a0 v) (sRep_l254_T.a1 v)), (X.n, sRep_l254_s0 v, sRep_l254_T.mk (IntKind.wrap IntKind.i64 (sRep_l254_T.a0 v + Int.ofNat (Nat.min (List.length (sRep_l254_s1 v)) (sRep_l254_s2 v)))) (List.take (Int.toNat (sRep_l254_T.a0 v)) (sRep_l254_T.a1 v) ++ List.take (sRep_l254_s2 v) (sRep_l254_s1 v) ++ List.drop (Int.toNat (sRep_l254_T.a0 v) + Nat.min (List.length (sRep_l254_s1 v)) (sRep_l254_s2 v)) (sRep_l254_T.a1 v)))])
def sRep_l254_rd : HS → Option sRep_l254_T
  | HS.mk [(4, LV.a At.nils), (7, LV.a (At.vec 0 0 6)), (8, LV.a (At.int true IntKind.i64 a0))] [BC.mk (Hd.mk 0 0 false (some (Rw.mk 0 [Kd.int IntKind.u8, Kd.int IntKind.u8, Kd.int IntKind.u8, Kd.int IntKind.u8, Kd.int IntKind.i64, Kd.int IntKind.u8] a1 none))) []] => some (sRep_l254_T.mk a0 a1)
  | _ => none
def sRep_l254_sum : V.Sum := loopS sRep_l254_hd sRep_l254_rd sRep_l254_st 18446744073709551616 [X.e (0 : Nat)] [0, 1, 4, 5, 6, 7, 8, 10, 26, 37] [4, 7, 8] [0] [0] [] 0
theorem sRep_l254_E : ∀ v, bodyF Try.prog sRep_D (ntOf Try.prog 104) [0, 1, 4, 5, 6, 7, 8, 10, 26, 37] [4, 7, 8] [] 2000 [0] [0] sRep_l254_code 1016 (sRep_l254_hd v) = some ((sRep_l254_st v).1, (sRep_l254_st v).2.map fun q => (q.1, q.2.1, sRep_l254_hd q.2.2)) := fun v => by kernel_rfl
set_option maxHeartbeats 2000000 in
theorem sRep_l254_R : ∀ h v, sRep_l254_rd h = some v → h = sRep_l254_hd v := by
  intro h v e
  unfold sRep_l254_rd at e
  split at e
  · simp only [Option.some.injEq] at e; subst e; rfl
  · cases e
set_option maxRecDepth 100000 in
theorem sRep_l254_sok : SumOK Try.prog (ntOf Try.prog 104) [0, 1, 4, 5, 6, 7, 8, 10, 26, 37] (.block (blockOf (subs (bodyOf Try.prog 104) 1 254)) (.loop sRep_l254_code)) sRep_l254_sum := loopS_ok sRep_D_ok follows sRep_l254_E sRep_l254_R (fun v => by kernel_rfl) (LOK_of _ _ (LOK_nil'))
def sRep_s0 (p0 : Int) (p1 : Int) (p2 : Int) (p3 : Int) (p4 : Int) (p5 : Int) : List (List Int) := [[p0, p1, p2, p3, p4, p5]]
def sRep_s1 (x1 : Int) : Int := bMul64_1 (IntKind.wrap IntKind.u64 (Int.ofNat (1 : Nat))) (IntKind.wrap IntKind.u64 x1)
def sRep_s2 (x1 : Int) : List (List Int) := List.replicate (Int.toNat (IntKind.wrap IntKind.i64 (sRep_s1 x1))) [(0 : Int), (0 : Int), (0 : Int), (0 : Int), (0 : Int), (0 : Int)]
def sRep_s3 (x1 : Int) (p0 : Int) (p1 : Int) (p2 : Int) (p3 : Int) (p4 : Int) (p5 : Int) : Nat := Nat.min (List.length (sRep_s0 p0 p1 p2 p3 p4 p5)) (List.length (sRep_s2 x1))
def sRep_0 (x1 : Int) (p0 : Int) (p1 : Int) (p2 : Int) (p3 : Int) (p4 : Int) (p5 : Int) : List (List Int) := sRep_l254_T.a1 (V.valOf (lrun sRep_l254_st (18446744073709551616 : Nat) (sRep_l254_T.mk (Int.ofNat (sRep_s3 x1 p0 p1 p2 p3 p4 p5)) (List.take (0 : Nat) (sRep_s2 x1) ++ List.take (List.length (sRep_s2 x1)) (sRep_s0 p0 p1 p2 p3 p4 p5) ++ List.drop ((0 : Nat) + sRep_s3 x1 p0 p1 p2 p3 p4 p5) (sRep_s2 x1)))))
def sRep_o (x1 : Int) (r0 : Bool) (p0 : Int) (p1 : Int) (p2 : Int) (p3 : Int) (p4 : Int) (p5 : Int) : List Prop := [decide (x1 < (0 : Int)) = false, (bif decide ((0 : Int) < bMul64_0 (IntKind.wrap IntKind.u64 (Int.ofNat (1 : Nat))) (IntKind.wrap IntKind.u64 x1)) then true else decide ((9223372036854775807 : Int) < sRep_s1 x1)) = false, (0 : Int) ≤ IntKind.wrap IntKind.i64 (sRep_s1 x1) ∧ IntKind.wrap IntKind.i64 (sRep_s1 x1) = IntKind.wrap IntKind.i64 (sRep_s1 x1) ∧ IntKind.wrap IntKind.i64 (sRep_s1 x1) * Int.ofNat (24 : Nat) ≤ (70368744177664 : Int), lok sRep_l254_st (18446744073709551616 : Nat) (sRep_l254_T.mk (Int.ofNat (sRep_s3 x1 p0 p1 p2 p3 p4 p5)) (List.take (0 : Nat) (sRep_s2 x1) ++ List.take (List.length (sRep_s2 x1)) (sRep_s0 p0 p1 p2 p3 p4 p5) ++ List.drop ((0 : Nat) + sRep_s3 x1 p0 p1 p2 p3 p4 p5) (sRep_s2 x1)))]
theorem sRep_p (x1 : Int) (r0 : Bool) (p0 : Int) (p1 : Int) (p2 : Int) (p3 : Int) (p4 : Int) (p5 : Int) : evG Try.prog sRep_D 2000 104 [0, 1, 4, 5, 6, 7, 8, 10, 26, 37] [(254, sRep_l254_sum)] [] [.a (.slc false 0 0 0 6 0 1), .a (.int true .i64 x1)] [⟨⟨0, 6, r0, none⟩, [some (.int true .u8 p0), some (.int true .u8 p1), some (.int true .u8 p2), some (.int true .u8 p3), some (.int true .i64 p4), some (.int true .u8 p5)]⟩] = some (sRep_o x1 r0 p0 p1 p2 p3 p4 p5, LV.a (At.vec (nat_lit 1) (nat_lit 1) (nat_lit 6)), [none, some (BC.mk (Hd.mk (nat_lit 1) (nat_lit 0) false (some (Rw.mk (nat_lit 0) [Kd.int IntKind.u8, Kd.int IntKind.u8, Kd.int IntKind.u8, Kd.int IntKind.u8, Kd.int IntKind.i64, Kd.int IntKind.u8] (sRep_0 x1 p0 p1 p2 p3 p4 p5) none))) [])]) := by kernel_rfl
def sRep_c : Con
  | [.a (.slc false 0 0 0 6 0 1), .a (.int true .i64 x1)], [⟨⟨0, 6, r0, none⟩, [some (.int true .u8 p0), some (.int true .u8 p1), some (.int true .u8 p2), some (.int true .u8 p3), some (.int true .i64 p4), some (.int true .u8 p5)]⟩] => some (sRep_o x1 r0 p0 p1 p2 p3 p4 p5, LV.a (At.vec (nat_lit 1) (nat_lit 1) (nat_lit 6)), [none, some (BC.mk (Hd.mk (nat_lit 1) (nat_lit 0) false (some (Rw.mk (nat_lit 0) [Kd.int IntKind.u8, Kd.int IntKind.u8, Kd.int IntKind.u8, Kd.int IntKind.u8, Kd.int IntKind.i64, Kd.int IntKind.u8] (sRep_0 x1 p0 p1 p2 p3 p4 p5) none))) [])])
  | _, _ => none
theorem sRep_ok : ConOK Try.prog 104 (normC sRep_c) := normC_ok (by
  intro args bs obs lv out h ho φ vs w may ha hM
  unfold sRep_c at h
  split at h
  · simp only [Option.some.injEq, Prod.mk.injEq] at h
    obtain ⟨rfl, rfl, rfl⟩ := h
    rename_i x1 r0 p0 p1 p2 p3 p4 p5
    exact evG_okL' sRep_D_ok follows (LOK_cons (show subs (bodyOf Try.prog 104) 1 254 = [.block (blockOf (subs (bodyOf Try.prog 104) 1 254)) (.loop sRep_l254_code)] from by kernel_rfl) sRep_l254_sok (LOK_nil')) _ _ _ _ _ (sRep_p x1 r0 p0 p1 p2 p3 p4 p5) ho φ vs w may ha hM
  · cases h)
theorem sRep_en : Enters Try.prog 104 := fun args => by kernel_rfl
-- 1748 36 11 ms

def tabFb : Tab := (104, normC sRep_c) :: tabFa4
theorem tabFb_ok : TOK Try.prog tabFb := TOK.cons sRep_en sRep_ok (tabFa4_ok)

end Go.Proofs.Ytcdejlgophpdjaa
