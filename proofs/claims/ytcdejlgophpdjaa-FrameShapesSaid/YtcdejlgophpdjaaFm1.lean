/-
  Contracts of functions of the program, each run on the local memory (printed by a program of this session's own: wip/tools).
-/
import Derived.Test.YtcdejlgophpdjaaFgl
namespace Go.Proofs.Ytcdejlgophpdjaa
open Go Go.RowKit Go.Proofs.Ytcdejlgophpdjaa.V
set_option linter.unusedVariables false

/-! azulejo/crc.Sum -/
noncomputable def cSum_l14951_code : Go.Code := loopOf (subs (bodyOf Try.prog 118) 1 14951)
structure cSum_l14951_T where
  a0 : Int
  a1 : Int
  a2 : Int
  a3 : Int
  a4 : Int
  a5 : Bool
  a6 : Int
  a7 : List (List Int)
  deriving Inhabited
def cSum_l14951_hd (v : cSum_l14951_T) : HS := HS.mk [(nat_lit 2, LV.a (At.int true IntKind.u32 (cSum_l14951_T.a0 v))), (nat_lit 3, LV.a (At.int true IntKind.u32 (cSum_l14951_T.a1 v))), (nat_lit 5, LV.a (At.int true IntKind.u8 (cSum_l14951_T.a2 v))), (nat_lit 6, LV.a (At.vec (nat_lit 0) (nat_lit 0) (nat_lit 1))), (nat_lit 7, LV.a (At.int true IntKind.i64 (cSum_l14951_T.a3 v))), (nat_lit 8, LV.a (At.int true IntKind.i64 (cSum_l14951_T.a4 v))), (nat_lit 9, LV.a (At.bool true (cSum_l14951_T.a5 v))), (nat_lit 17, LV.a (At.int true IntKind.i64 (cSum_l14951_T.a6 v)))] [BC.mk (Hd.mk (nat_lit 0) (nat_lit 0) true (some (Rw.mk (nat_lit 0) [Kd.int IntKind.u8] (cSum_l14951_T.a7 v) none))) []]
def cSum_l14951_s0 (v : cSum_l14951_T) : Bool := decide (cSum_l14951_T.a6 v < (8 : Int))
def cSum_l14951_s1 (v : cSum_l14951_T) : Int := IntKind.wrap IntKind.u32 (cSum_l14951_T.a1 v * (2 : Int) ^ min (Int.toNat (1 : Int)) (IntKind.bits IntKind.u32))
def cSum_l14951_s2 : Int := Int.ofNat ((2 : Nat) ^ IntKind.bits IntKind.u32)
def cSum_l14951_st (v : cSum_l14951_T) : List Prop × List (X × Bool × cSum_l14951_T) := ([], [(X.e (2 : Nat), !cSum_l14951_s0 v, cSum_l14951_T.mk (cSum_l14951_T.a0 v) (cSum_l14951_T.a1 v) (cSum_l14951_T.a2 v) (cSum_l14951_T.a3 v) (cSum_l14951_T.a4 v) (cSum_l14951_T.a5 v) (cSum_l14951_T.a6 v) (cSum_l14951_T.a7 v)), (X.n, cSum_l14951_s0 v, cSum_l14951_T.mk (cSum_l14951_T.a0 v) (bif Int.fdiv (cSum_l14951_T.a1 v) ((2 : Int) ^ min (Int.toNat (31 : Int)) (IntKind.bits IntKind.u32)) == (1 : Int) then IntKind.wrap IntKind.u32 (Int.ofNat (Int.toNat (cSum_l14951_s1 v % cSum_l14951_s2) ^^^ Int.toNat ((79764919 : Int) % cSum_l14951_s2))) else cSum_l14951_s1 v) (cSum_l14951_T.a2 v) (cSum_l14951_T.a3 v) (cSum_l14951_T.a4 v) (cSum_l14951_T.a5 v) (IntKind.wrap IntKind.i64 (cSum_l14951_T.a6 v + (1 : Int))) (cSum_l14951_T.a7 v))])
def cSum_l14951_rd : HS → Option cSum_l14951_T
  | HS.mk [(2, LV.a (At.int true IntKind.u32 a0)), (3, LV.a (At.int true IntKind.u32 a1)), (5, LV.a (At.int true IntKind.u8 a2)), (6, LV.a (At.vec 0 0 1)), (7, LV.a (At.int true IntKind.i64 a3)), (8, LV.a (At.int true IntKind.i64 a4)), (9, LV.a (At.bool true a5)), (17, LV.a (At.int true IntKind.i64 a6))] [BC.mk (Hd.mk 0 0 true (some (Rw.mk 0 [Kd.int IntKind.u8] a7 none))) []] => some (cSum_l14951_T.mk a0 a1 a2 a3 a4 a5 a6 a7)
  | _ => none
def cSum_l14951_sum : V.Sum := loopS cSum_l14951_hd cSum_l14951_rd cSum_l14951_st 18446744073709551616 [X.e (2 : Nat)] [0, 2, 3, 5, 6, 7, 8, 9, 17, 18, 21] [2, 3, 5, 6, 7, 8, 9, 17] [] [] [] 2
theorem cSum_l14951_E : ∀ v, bodyF Try.prog tabFgl (ntOf Try.prog 118) [0, 2, 3, 5, 6, 7, 8, 9, 17, 18, 21] [2, 3, 5, 6, 7, 8, 9, 17] [] 2000 [] [] cSum_l14951_code 59804 (cSum_l14951_hd v) = some ((cSum_l14951_st v).1, (cSum_l14951_st v).2.map fun q => (q.1, q.2.1, cSum_l14951_hd q.2.2)) := fun v => by kernel_rfl
set_option maxHeartbeats 2000000 in
theorem cSum_l14951_R : ∀ h v, cSum_l14951_rd h = some v → h = cSum_l14951_hd v := by
  intro h v e
  unfold cSum_l14951_rd at e
  split at e
  · simp only [Option.some.injEq] at e; subst e; rfl
  · cases e
set_option maxRecDepth 100000 in
theorem cSum_l14951_sok : SumOK Try.prog (ntOf Try.prog 118) [0, 2, 3, 5, 6, 7, 8, 9, 17, 18, 21] (.block (blockOf (subs (bodyOf Try.prog 118) 1 14951)) (.loop cSum_l14951_code)) cSum_l14951_sum := loopS_ok tabFgl_ok follows cSum_l14951_E cSum_l14951_R (fun v => by kernel_rfl) (LOK_of _ _ (LOK_nil'))
noncomputable def cSum_l29_code : Go.Code := loopOf (subs (bodyOf Try.prog 118) 1 29)
structure cSum_l29_T where
  a0 : Int
  a1 : Int
  a2 : Int
  a3 : Int
  a4 : List (List Int)
  deriving Inhabited
def cSum_l29_hd (v : cSum_l29_T) : HS := HS.mk [(nat_lit 2, LV.a (At.int true IntKind.u32 (cSum_l29_T.a0 v))), (nat_lit 3, LV.a (At.int true IntKind.u32 (cSum_l29_T.a1 v))), (nat_lit 6, LV.a (At.vec (nat_lit 0) (nat_lit 0) (nat_lit 1))), (nat_lit 7, LV.a (At.int true IntKind.i64 (cSum_l29_T.a2 v))), (nat_lit 8, LV.a (At.int true IntKind.i64 (cSum_l29_T.a3 v)))] [BC.mk (Hd.mk (nat_lit 0) (nat_lit 0) true (some (Rw.mk (nat_lit 0) [Kd.int IntKind.u8] (cSum_l29_T.a4 v) none))) []]
def cSum_l29_s0 (v : cSum_l29_T) : Bool := decide (cSum_l29_T.a3 v < cSum_l29_T.a2 v)
def cSum_l29_s1 : Int := Int.ofNat ((2 : Nat) ^ IntKind.bits IntKind.u32)
def cSum_l29_s2 (v : cSum_l29_T) : Option (X × cSum_l14951_T) := lrun cSum_l14951_st (18446744073709551616 : Nat) (cSum_l14951_T.mk (cSum_l29_T.a0 v) (IntKind.wrap IntKind.u32 (Int.ofNat (Int.toNat (cSum_l29_T.a1 v % cSum_l29_s1) ^^^ Int.toNat (IntKind.wrap IntKind.u32 (IntKind.wrap IntKind.u32 (rget (cSum_l29_T.a4 v) (Int.toNat (cSum_l29_T.a3 v)) (0 : Nat)) * (2 : Int) ^ min (Int.toNat (24 : Int)) (IntKind.bits IntKind.u32)) % cSum_l29_s1)))) (rget (cSum_l29_T.a4 v) (Int.toNat (cSum_l29_T.a3 v)) (0 : Nat)) (cSum_l29_T.a2 v) (cSum_l29_T.a3 v) (cSum_l29_s0 v) (0 : Int) (cSum_l29_T.a4 v))
def cSum_l29_st (v : cSum_l29_T) : List Prop × List (X × Bool × cSum_l29_T) := ([cSum_l29_s0 v = true → (0 : Int) ≤ cSum_l29_T.a3 v ∧ cSum_l29_T.a3 v < Int.ofNat (List.length (cSum_l29_T.a4 v)), cSum_l29_s0 v = true → lok cSum_l14951_st (18446744073709551616 : Nat) (cSum_l14951_T.mk (cSum_l29_T.a0 v) (IntKind.wrap IntKind.u32 (Int.ofNat (Int.toNat (cSum_l29_T.a1 v % cSum_l29_s1) ^^^ Int.toNat (IntKind.wrap IntKind.u32 (IntKind.wrap IntKind.u32 (rget (cSum_l29_T.a4 v) (Int.toNat (cSum_l29_T.a3 v)) (0 : Nat)) * (2 : Int) ^ min (Int.toNat (24 : Int)) (IntKind.bits IntKind.u32)) % cSum_l29_s1)))) (rget (cSum_l29_T.a4 v) (Int.toNat (cSum_l29_T.a3 v)) (0 : Nat)) (cSum_l29_T.a2 v) (cSum_l29_T.a3 v) (cSum_l29_s0 v) (0 : Int) (cSum_l29_T.a4 v))], [(X.e (0 : Nat), !cSum_l29_s0 v, cSum_l29_T.mk (cSum_l29_T.a0 v) (cSum_l29_T.a1 v) (cSum_l29_T.a2 v) (cSum_l29_T.a3 v) (cSum_l29_T.a4 v)), (X.n, cSum_l29_s0 v && isX (X.e (2 : Nat)) (cSum_l29_s2 v), cSum_l29_T.mk (cSum_l14951_T.a0 (V.valOf (cSum_l29_s2 v))) (cSum_l14951_T.a1 (V.valOf (cSum_l29_s2 v))) (cSum_l14951_T.a3 (V.valOf (cSum_l29_s2 v))) (IntKind.wrap IntKind.i64 (cSum_l14951_T.a4 (V.valOf (cSum_l29_s2 v)) + (1 : Int))) (cSum_l29_T.a4 v))])
def cSum_l29_rd : HS → Option cSum_l29_T
  | HS.mk [(2, LV.a (At.int true IntKind.u32 a0)), (3, LV.a (At.int true IntKind.u32 a1)), (6, LV.a (At.vec 0 0 1)), (7, LV.a (At.int true IntKind.i64 a2)), (8, LV.a (At.int true IntKind.i64 a3))] [BC.mk (Hd.mk 0 0 true (some (Rw.mk 0 [Kd.int IntKind.u8] a4 none))) []] => some (cSum_l29_T.mk a0 a1 a2 a3 a4)
  | _ => none
def cSum_l29_sum : V.Sum := loopS cSum_l29_hd cSum_l29_rd cSum_l29_st 18446744073709551616 [X.e (0 : Nat)] [0, 2, 3, 5, 6, 7, 8, 9, 17, 18, 21] [2, 3, 6, 7, 8] [] [] [] 0
theorem cSum_l29_E : ∀ v, bodyF Try.prog tabFgl (ntOf Try.prog 118) [0, 2, 3, 5, 6, 7, 8, 9, 17, 18, 21] [2, 3, 6, 7, 8] [(14951, cSum_l14951_sum)] 2000 [] [] cSum_l29_code 116 (cSum_l29_hd v) = some ((cSum_l29_st v).1, (cSum_l29_st v).2.map fun q => (q.1, q.2.1, cSum_l29_hd q.2.2)) := fun v => by kernel_rfl
set_option maxHeartbeats 2000000 in
theorem cSum_l29_R : ∀ h v, cSum_l29_rd h = some v → h = cSum_l29_hd v := by
  intro h v e
  unfold cSum_l29_rd at e
  split at e
  · simp only [Option.some.injEq] at e; subst e; rfl
  · cases e
set_option maxRecDepth 100000 in
theorem cSum_l29_sok : SumOK Try.prog (ntOf Try.prog 118) [0, 2, 3, 5, 6, 7, 8, 9, 17, 18, 21] (.block (blockOf (subs (bodyOf Try.prog 118) 1 29)) (.loop cSum_l29_code)) cSum_l29_sum := loopS_ok tabFgl_ok follows cSum_l29_E cSum_l29_R (fun v => by kernel_rfl) (LOK_of _ _ (LOK_cons (show subs cSum_l29_code 116 14951 = [.block (blockOf (subs (bodyOf Try.prog 118) 1 14951)) (.loop cSum_l14951_code)] from by kernel_rfl) cSum_l14951_sok (LOK_nil')))
def cSum_s0 : Int := Int.ofNat ((2 : Nat) ^ IntKind.bits IntKind.u32)
def cSum_0 (l : List (List Int)) : Int := IntKind.wrap IntKind.u32 (Int.ofNat (Int.toNat ((if false = true then (-1 : Int) else if false = true then (2 : Int) ^ (31 : Nat) - (1 : Int) else (2 : Int) ^ IntKind.bits IntKind.u32 - (1 : Int)) % cSum_s0) ^^^ Int.toNat (cSum_l29_T.a1 (V.valOf (lrun cSum_l29_st (18446744073709551616 : Nat) (cSum_l29_T.mk (0 : Int) (4294967295 : Int) (Int.ofNat (List.length l)) (0 : Int) l))) % cSum_s0)))
def cSum_o (r0 : Bool) (l : List (List Int)) : List Prop := [lok cSum_l29_st (18446744073709551616 : Nat) (cSum_l29_T.mk (0 : Int) (4294967295 : Int) (Int.ofNat (List.length l)) (0 : Int) l)]
theorem cSum_p (r0 : Bool) (l : List (List Int)) : evG Try.prog tabFgl 2000 118 [0, 2, 3, 5, 6, 7, 8, 9, 17, 18, 21] [(29, cSum_l29_sum), (14951, cSum_l14951_sum)] [] [.a (.vec 0 0 1)] [⟨⟨0, 0, r0, some ⟨0, [.int .u8], l, none⟩⟩, []⟩] = some (cSum_o r0 l, LV.a (At.int true IntKind.u32 (cSum_0 l)), [none]) := by kernel_rfl
def cSum_c : Con
  | [.a (.vec 0 0 1)], [⟨⟨0, 0, r0, some ⟨0, [.int .u8], l, none⟩⟩, []⟩] => some (cSum_o r0 l, LV.a (At.int true IntKind.u32 (cSum_0 l)), [none])
  | _, _ => none
theorem cSum_ok : ConOK Try.prog 118 (normC cSum_c) := normC_ok (by
  intro args bs obs lv out h ho φ vs w may ha hM
  unfold cSum_c at h
  split at h
  · simp only [Option.some.injEq, Prod.mk.injEq] at h
    obtain ⟨rfl, rfl, rfl⟩ := h
    rename_i r0 l
    exact evG_okL' tabFgl_ok follows (LOK_cons (show subs (bodyOf Try.prog 118) 1 29 = [.block (blockOf (subs (bodyOf Try.prog 118) 1 29)) (.loop cSum_l29_code)] from by kernel_rfl) cSum_l29_sok (LOK_cons (show subs (bodyOf Try.prog 118) 1 14951 = [.block (blockOf (subs (bodyOf Try.prog 118) 1 14951)) (.loop cSum_l14951_code)] from by kernel_rfl) cSum_l14951_sok (LOK_nil'))) _ _ _ _ _ (cSum_p r0 l) ho φ vs w may ha hM
  · cases h)
theorem cSum_en : Enters Try.prog 118 := fun args => by kernel_rfl
-- 2205 2 8 ms

def tabFm1 : Tab := (118, normC cSum_c) :: tabFgl
theorem tabFm1_ok : TOK Try.prog tabFm1 := TOK.cons cSum_en cSum_ok (tabFgl_ok)

end Go.Proofs.Ytcdejlgophpdjaa
