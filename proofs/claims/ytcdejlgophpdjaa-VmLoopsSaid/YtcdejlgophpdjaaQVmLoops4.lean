/-
  The seat's program: what the evaluator asks of it; the empty table.
-/
import Derived.Test.YtcdejlgophpdjaaRows
import Derived.Test.YtcdejlgophpdjaaQVmLoops3
section
namespace Go.Proofs.Ytcdejlgophpdjaa
open Go Go.RowKit Go.Proofs.Ytcdejlgophpdjaa.V

theorem follows : Try.prog.follows .mixedOrders = true := by kernel_rfl

def tabVL : Tab := []
theorem tabVL_ok : TOK Try.prog tabVL := TOK.nil

end Go.Proofs.Ytcdejlgophpdjaa
end

section
namespace Go.Proofs.Ytcdejlgophpdjaa
open Go Go.RowKit Go.Proofs.Ytcdejlgophpdjaa.V

namespace V
/-- A long row of numbers, handed over as a value. -/
def gZ (z : List At) (j : Nat) : Int := match z[j]? with
  | some (.int _ _ n) => n
  | _ => 0
def rdI : List At → Nat → Bool
  | [], 0 => true
  | .int true .i64 _ :: z, k + 1 => rdI z k
  | _, _ => false
def mkZ (z : List At) : Nat → Nat → List At
  | 0, _ => []
  | k + 1, j => .int true .i64 (gZ z j) :: mkZ z k (j + 1)
theorem rdI_go (z : List At) : ∀ (k j : Nat) (l : List At), rdI l k = true → (∀ i x, l[i]? = some x → z[j + i]? = some x) → l = mkZ z k j
  | 0, j, [], _, _ => rfl
  | 0, j, _ :: _, h, _ => by simp [rdI] at h
  | k + 1, j, [], h, _ => by simp [rdI] at h
  | k + 1, j, x :: l, h, hz => by
    have hx := hz 0 x rfl
    unfold rdI at h
    split at h
    · rename_i e; cases e
    · rename_i e1 e2
      rename_i n m
      simp only [List.cons.injEq] at e1
      obtain ⟨rfl, rfl⟩ := e1
      first | (simp only [Nat.add_right_cancel_iff] at e2; subst e2) | (obtain rfl := Nat.succ.inj e2) | skip
      rw [mkZ, ← rdI_go z _ (j + 1) _ h (fun i x hi => by rw [Nat.add_right_comm]; exact hz (i + 1) x hi)]
      congr 1
      unfold gZ
      rw [Nat.add_zero] at hx
      rw [hx]
    · cases h
theorem rdI_ok {z : List At} {k : Nat} (h : rdI z k = true) : z = mkZ z k 0 := rdI_go z k 0 z h fun i x hi => by rw [Nat.zero_add]; exact hi
end V

/-- It asks for what isn't. -/
def dumI_c : Con
  | [.a (.int _ .i64 _), .a (.int _ .i64 _)], [] => some ([False], .a (.int true .i64 0), [])
  | _, _ => none
theorem dumI_ok {f : Nat} : ConOK Try.prog f (normC dumI_c) := normC_ok (by
  intro args bs obs lv out h ho φ vs w may ha hM
  unfold dumI_c at h
  split at h
  · simp only [Option.some.injEq, Prod.mk.injEq] at h
    obtain ⟨rfl, rfl, rfl⟩ := h
    exact ho.1.elim
  · cases h)
theorem dumI_en : Enters Try.prog 141 := fun args => by kernel_rfl
theorem rowU_en : Enters Try.prog 2 := fun args => by kernel_rfl
def tabUa0 : Tab := (2, rowC [(232, (0, 4, 12)), (166, (0, 4, 12))]) :: (141, normC dumI_c) :: tabVL
theorem tabUa0_ok : TOK Try.prog tabUa0 := TOK.cons rowU_en rowC_con (TOK.cons dumI_en dumI_ok tabVL_ok)

end Go.Proofs.Ytcdejlgophpdjaa
end

section
namespace Go.Proofs.Ytcdejlgophpdjaa
open Go Go.RowKit Go.Proofs.Ytcdejlgophpdjaa.V
set_option linter.unusedVariables false

/-! azulejo/fix.Within -/
def fWi_s0 (x0 x1 : Int) : Int := if x1 < x0 then x1 else x0
def fWi_s1 (x1 : Int) : Int := IntKind.wrap IntKind.i64 ((0 : Int) - x1)
def fWi_0 (x0 x1 : Int) : Int := if fWi_s0 x0 x1 < fWi_s1 x1 then fWi_s1 x1 else fWi_s0 x0 x1
theorem fWi_p (x0 x1 : Int) : evG Try.prog tabUa0 2000 109 [0, 1, 4] [] [] [.a (.int true .i64 x0), .a (.int true .i64 x1)] [] = some ([], LV.a (At.int true IntKind.i64 (fWi_0 x0 x1)), []) := by kernel_rfl
def fWi_c : Con
  | [.a (.int true .i64 x0), .a (.int true .i64 x1)], [] => some ([], LV.a (At.int true IntKind.i64 (fWi_0 x0 x1)), [])
  | _, _ => none
theorem fWi_ok : ConOK Try.prog 109 (normC fWi_c) := normC_ok (by
  intro args bs obs lv out h ho φ vs w may ha hM
  unfold fWi_c at h
  split at h
  · simp only [Option.some.injEq, Prod.mk.injEq] at h
    obtain ⟨rfl, rfl, rfl⟩ := h
    rename_i x0 x1
    exact evG_ok tabUa0_ok follows _ _ _ _ _ (fWi_p x0 x1) ho φ vs w may ha hM
  · cases h)
theorem fWi_en : Enters Try.prog 109 := fun args => by kernel_rfl
-- 62 4 5 ms

/-! azulejo/vm.all -/
theorem vAll_p (x0 : Int) : evG Try.prog tabUa0 2000 142 [0, 2] [] [] [.a (.int true .i64 x0)] [] = some ([], LV.g [At.int true IntKind.i64 x0, At.int true IntKind.i64 x0, At.int true IntKind.i64 x0, At.int true IntKind.i64 x0], []) := by kernel_rfl
def vAll_c : Con
  | [.a (.int true .i64 x0)], [] => some ([], LV.g [At.int true IntKind.i64 x0, At.int true IntKind.i64 x0, At.int true IntKind.i64 x0, At.int true IntKind.i64 x0], [])
  | _, _ => none
theorem vAll_ok : ConOK Try.prog 142 (normC vAll_c) := normC_ok (by
  intro args bs obs lv out h ho φ vs w may ha hM
  unfold vAll_c at h
  split at h
  · simp only [Option.some.injEq, Prod.mk.injEq] at h
    obtain ⟨rfl, rfl, rfl⟩ := h
    rename_i x0
    exact evG_ok tabUa0_ok follows _ _ _ _ _ (vAll_p x0) ho φ vs w may ha hM
  · cases h)
theorem vAll_en : Enters Try.prog 142 := fun args => by kernel_rfl
-- 97 0 0 ms

/-! azulejo/azulejoref01.Clamp -/
def rCl_0 (x0 : Int) : Int := bif decide ((2147483647 : Int) < x0) then (2147483647 : Int) else bif decide (x0 < (-2147483647 : Int)) then (-2147483647 : Int) else x0
theorem rCl_p (x0 : Int) : evG Try.prog tabUa0 2000 124 [0, 2, 4, 6] [] [] [.a (.int true .i64 x0)] [] = some ([], LV.a (At.int true IntKind.i64 (rCl_0 x0)), []) := by kernel_rfl
def rCl_c : Con
  | [.a (.int true .i64 x0)], [] => some ([], LV.a (At.int true IntKind.i64 (rCl_0 x0)), [])
  | _, _ => none
theorem rCl_ok : ConOK Try.prog 124 (normC rCl_c) := normC_ok (by
  intro args bs obs lv out h ho φ vs w may ha hM
  unfold rCl_c at h
  split at h
  · simp only [Option.some.injEq, Prod.mk.injEq] at h
    obtain ⟨rfl, rfl, rfl⟩ := h
    rename_i x0
    exact evG_ok tabUa0_ok follows _ _ _ _ _ (rCl_p x0) ho φ vs w may ha hM
  · cases h)
theorem rCl_en : Enters Try.prog 124 := fun args => by kernel_rfl
-- 73 9 3 ms

/-! azulejo/vm.Colour -/
def vCol_s0 (x0_0 : Int) : Int := if x0_0 < (0 : Int) then (0 : Int) else x0_0
def vCol_0 (x0_0 : Int) : Int := if (65536 : Int) < vCol_s0 x0_0 then (65536 : Int) else vCol_s0 x0_0
def vCol_s1 (x0_1 : Int) : Int := if x0_1 < (0 : Int) then (0 : Int) else x0_1
def vCol_1 (x0_1 : Int) : Int := if (65536 : Int) < vCol_s1 x0_1 then (65536 : Int) else vCol_s1 x0_1
def vCol_s2 (x0_2 : Int) : Int := if x0_2 < (0 : Int) then (0 : Int) else x0_2
def vCol_2 (x0_2 : Int) : Int := if (65536 : Int) < vCol_s2 x0_2 then (65536 : Int) else vCol_s2 x0_2
def vCol_s3 (x0_3 : Int) : Int := if x0_3 < (0 : Int) then (0 : Int) else x0_3
def vCol_3 (x0_3 : Int) : Int := if (65536 : Int) < vCol_s3 x0_3 then (65536 : Int) else vCol_s3 x0_3
theorem vCol_p (x0_0 x0_1 x0_2 x0_3 : Int) : evG Try.prog tabUa0 2000 94 [0, 1, 2, 3, 4, 5, 6, 7] [] [] [.g [.int true .i64 x0_0, .int true .i64 x0_1, .int true .i64 x0_2, .int true .i64 x0_3]] [] = some ([], LV.g [At.int true IntKind.i64 (vCol_0 x0_0), At.int true IntKind.i64 (vCol_1 x0_1), At.int true IntKind.i64 (vCol_2 x0_2), At.int true IntKind.i64 (vCol_3 x0_3)], []) := by kernel_rfl
def vCol_c : Con
  | [.g [.int true .i64 x0_0, .int true .i64 x0_1, .int true .i64 x0_2, .int true .i64 x0_3]], [] => some ([], LV.g [At.int true IntKind.i64 (vCol_0 x0_0), At.int true IntKind.i64 (vCol_1 x0_1), At.int true IntKind.i64 (vCol_2 x0_2), At.int true IntKind.i64 (vCol_3 x0_3)], [])
  | _, _ => none
theorem vCol_ok : ConOK Try.prog 94 (normC vCol_c) := normC_ok (by
  intro args bs obs lv out h ho φ vs w may ha hM
  unfold vCol_c at h
  split at h
  · simp only [Option.some.injEq, Prod.mk.injEq] at h
    obtain ⟨rfl, rfl, rfl⟩ := h
    rename_i x0_0 x0_1 x0_2 x0_3
    exact evG_ok tabUa0_ok follows _ _ _ _ _ (vCol_p x0_0 x0_1 x0_2 x0_3) ho φ vs w may ha hM
  · cases h)
theorem vCol_en : Enters Try.prog 94 := fun args => by kernel_rfl
-- 276 10 9 ms

/-! azulejo/azulejoref07.Within -/
def r7Wi_s0 (x0_0 x1 : Int) : Int := bif decide (x0_0 < x1) then x1 else x0_0
def r7Wi_0 (x0_0 x1 x2 : Int) : Int := bif decide (x2 < r7Wi_s0 x0_0 x1) then x2 else r7Wi_s0 x0_0 x1
def r7Wi_s1 (x0_1 x1 : Int) : Int := bif decide (x0_1 < x1) then x1 else x0_1
def r7Wi_1 (x0_1 x1 x2 : Int) : Int := bif decide (x2 < r7Wi_s1 x0_1 x1) then x2 else r7Wi_s1 x0_1 x1
def r7Wi_s2 (x0_2 x1 : Int) : Int := bif decide (x0_2 < x1) then x1 else x0_2
def r7Wi_2 (x0_2 x1 x2 : Int) : Int := bif decide (x2 < r7Wi_s2 x0_2 x1) then x2 else r7Wi_s2 x0_2 x1
def r7Wi_s3 (x0_3 x1 : Int) : Int := bif decide (x0_3 < x1) then x1 else x0_3
def r7Wi_3 (x0_3 x1 x2 : Int) : Int := bif decide (x2 < r7Wi_s3 x0_3 x1) then x2 else r7Wi_s3 x0_3 x1
theorem r7Wi_p (x0_0 x0_1 x0_2 x0_3 x1 x2 : Int) : evG Try.prog tabUa0 2000 95 [0, 1, 2, 3, 6, 7, 9, 16, 24] [] [] [.g [.int true .i64 x0_0, .int true .i64 x0_1, .int true .i64 x0_2, .int true .i64 x0_3], .a (.int true .i64 x1), .a (.int true .i64 x2)] [] = some ([], LV.g [At.int true IntKind.i64 (r7Wi_0 x0_0 x1 x2), At.int true IntKind.i64 (r7Wi_1 x0_1 x1 x2), At.int true IntKind.i64 (r7Wi_2 x0_2 x1 x2), At.int true IntKind.i64 (r7Wi_3 x0_3 x1 x2)], []) := by kernel_rfl
def r7Wi_c : Con
  | [.g [.int true .i64 x0_0, .int true .i64 x0_1, .int true .i64 x0_2, .int true .i64 x0_3], .a (.int true .i64 x1), .a (.int true .i64 x2)], [] => some ([], LV.g [At.int true IntKind.i64 (r7Wi_0 x0_0 x1 x2), At.int true IntKind.i64 (r7Wi_1 x0_1 x1 x2), At.int true IntKind.i64 (r7Wi_2 x0_2 x1 x2), At.int true IntKind.i64 (r7Wi_3 x0_3 x1 x2)], [])
  | _, _ => none
theorem r7Wi_ok : ConOK Try.prog 95 (normC r7Wi_c) := normC_ok (by
  intro args bs obs lv out h ho φ vs w may ha hM
  unfold r7Wi_c at h
  split at h
  · simp only [Option.some.injEq, Prod.mk.injEq] at h
    obtain ⟨rfl, rfl, rfl⟩ := h
    rename_i x0_0 x0_1 x0_2 x0_3 x1 x2
    exact evG_ok tabUa0_ok follows _ _ _ _ _ (r7Wi_p x0_0 x0_1 x0_2 x0_3 x1 x2) ho φ vs w may ha hM
  · cases h)
theorem r7Wi_en : Enters Try.prog 95 := fun args => by kernel_rfl
-- 380 153 9 ms

/-! azulejo/azulejoref01.Floor -/
def rFlo0_s0 (x1 : Int) : Bool := decide (x1 < (0 : Int))
def rFlo0_s1 (x0 : Int) : Bool := decide ((0 : Int) ≤ x0)
def rFlo0_0 (x0 x1 : Int) : Int := bif x1 == (0 : Int) then (0 : Int) else bif rFlo0_s0 x1 then (0 : Int) else bif rFlo0_s1 x0 then IntKind.wrap IntKind.i64 (Int.tdiv x0 x1) else IntKind.wrap IntKind.i64 ((0 : Int) - IntKind.wrap IntKind.i64 (Int.tdiv (IntKind.wrap IntKind.i64 (IntKind.wrap IntKind.i64 (x1 - (1 : Int)) - x0)) x1))
def rFlo0_o (x0 x1 : Int) : List Prop := [(!x1 == (0 : Int)) = true → rFlo0_s0 x1 = true → False, (!x1 == (0 : Int)) = true → (!rFlo0_s0 x1) = true → rFlo0_s1 x0 = true → x1 ≠ (0 : Int), (!x1 == (0 : Int)) = true → (!rFlo0_s0 x1) = true → (!rFlo0_s1 x0) = true → x1 ≠ (0 : Int)]
theorem rFlo0_p (x0 x1 : Int) : evG Try.prog tabUa0 2000 141 [0, 1, 4, 6, 8, 15] [] [] [.a (.int true .i64 x0), .a (.int true .i64 x1)] [] = some (rFlo0_o x0 x1, LV.a (At.int true IntKind.i64 (rFlo0_0 x0 x1)), []) := by kernel_rfl
def rFlo0_c : Con
  | [.a (.int true .i64 x0), .a (.int true .i64 x1)], [] => some (rFlo0_o x0 x1, LV.a (At.int true IntKind.i64 (rFlo0_0 x0 x1)), [])
  | _, _ => none
theorem rFlo0_ok : ConOK Try.prog 141 (normC rFlo0_c) := normC_ok (by
  intro args bs obs lv out h ho φ vs w may ha hM
  unfold rFlo0_c at h
  split at h
  · simp only [Option.some.injEq, Prod.mk.injEq] at h
    obtain ⟨rfl, rfl, rfl⟩ := h
    rename_i x0 x1
    exact evG_ok tabUa0_ok follows _ _ _ _ _ (rFlo0_p x0 x1) ho φ vs w may ha hM
  · cases h)
theorem rFlo0_en : Enters Try.prog 141 := fun args => by kernel_rfl
-- 147 21 6 ms

/-! (azulejo/isa.Program).Body -/
def pBo_s0 (x1 : Int) : Bool := decide (x1 < (0 : Int))
def pBo_s1 (x1 : Int) (p : List (List Int)) : Bool := decide (Int.ofNat (List.length p) ≤ x1)
def pBo_s2 (x1 : Int) (p : List (List Int)) : Bool := bif pBo_s0 x1 then true else bif pBo_s1 x1 p then true else rget p (Int.toNat x1) (0 : Nat) != (12 : Int)
def pBo_s3 (x1 : Int) : Int := IntKind.wrap IntKind.i64 (x1 + (1 : Int))
def pBo_0 (x1 : Int) (p : List (List Int)) : Int := bif pBo_s2 x1 p then (0 : Int) else pBo_s3 x1
def pBo_1 (x1 : Int) (p : List (List Int)) : Int := bif pBo_s2 x1 p then (0 : Int) else IntKind.wrap IntKind.i64 (pBo_s3 x1 + IntKind.wrap IntKind.i64 (rget p (Int.toNat x1) (3 : Nat)))
def pBo_2 (x1 : Int) (p : List (List Int)) : Bool := bif pBo_s2 x1 p then false else true
def pBo_o (x1 : Int) (r0 : Bool) (p : List (List Int)) : List Prop := [pBo_s0 x1 = false → pBo_s1 x1 p = false → (0 : Int) ≤ x1 ∧ x1 < Int.ofNat (List.length p), (!pBo_s2 x1 p) = true → (0 : Int) ≤ x1 ∧ x1 < Int.ofNat (List.length p)]
theorem pBo_p (x1 : Int) (r0 : Bool) (p : List (List Int)) : evG Try.prog tabUa0 2000 151 [0, 1, 4, 5, 6, 22] [] [] [.a (.vec 0 0 5), .a (.int true .i64 x1)] [⟨⟨0, 0, r0, some ⟨0, [.int .u8, .int .u8, .int .u8, .int .u8, .int .i16], p, none⟩⟩, []⟩] = some (pBo_o x1 r0 p, LV.t [LV.a (At.int true IntKind.i64 (pBo_0 x1 p)), LV.a (At.int true IntKind.i64 (pBo_1 x1 p)), LV.a (At.bool true (pBo_2 x1 p))], [none]) := by kernel_rfl
def pBo_c : Con
  | [.a (.vec 0 0 5), .a (.int true .i64 x1)], [⟨⟨0, 0, r0, some ⟨0, [.int .u8, .int .u8, .int .u8, .int .u8, .int .i16], p, none⟩⟩, []⟩] => some (pBo_o x1 r0 p, LV.t [LV.a (At.int true IntKind.i64 (pBo_0 x1 p)), LV.a (At.int true IntKind.i64 (pBo_1 x1 p)), LV.a (At.bool true (pBo_2 x1 p))], [none])
  | _, _ => none
theorem pBo_ok : ConOK Try.prog 151 (normC pBo_c) := normC_ok (by
  intro args bs obs lv out h ho φ vs w may ha hM
  unfold pBo_c at h
  split at h
  · simp only [Option.some.injEq, Prod.mk.injEq] at h
    obtain ⟨rfl, rfl, rfl⟩ := h
    rename_i x1 r0 p
    exact evG_ok tabUa0_ok follows _ _ _ _ _ (pBo_p x1 r0 p) ho φ vs w may ha hM
  · cases h)
theorem pBo_en : Enters Try.prog 151 := fun args => by kernel_rfl
-- 373 66 11 ms

/-! (azulejo/isa.Program).Fuel -/
noncomputable def pFu_l29_code : Go.Code := loopOf (subs (bodyOf Try.prog 87) 1 29)
structure pFu_l29_T where
  a0 : Int
  a1 : Int
  a2 : Int
  a3 : Int
  a4 : List (List Int)
  deriving Inhabited
def pFu_l29_hd (v : pFu_l29_T) : HS := HS.mk [(nat_lit 2, LV.a (At.int true IntKind.i64 (pFu_l29_T.a0 v))), (nat_lit 3, LV.a (At.int true IntKind.i64 (pFu_l29_T.a1 v))), (nat_lit 8, LV.a (At.vec (nat_lit 0) (nat_lit 0) (nat_lit 5))), (nat_lit 9, LV.a (At.int true IntKind.i64 (pFu_l29_T.a2 v))), (nat_lit 10, LV.a (At.int true IntKind.i64 (pFu_l29_T.a3 v)))] [BC.mk (Hd.mk (nat_lit 0) (nat_lit 0) true (some (Rw.mk (nat_lit 0) [Kd.int IntKind.u8, Kd.int IntKind.u8, Kd.int IntKind.u8, Kd.int IntKind.u8, Kd.int IntKind.i16] (pFu_l29_T.a4 v) none))) []]
def pFu_l29_s0 (v : pFu_l29_T) : Bool := decide (pFu_l29_T.a3 v < pFu_l29_T.a2 v)
def pFu_l29_s1 (v : pFu_l29_T) : Int := IntKind.wrap IntKind.i64 (rget (pFu_l29_T.a4 v) (Int.toNat (pFu_l29_T.a3 v)) (4 : Nat))
def pFu_l29_st (v : pFu_l29_T) : List Prop × List (X × Bool × pFu_l29_T) := ([pFu_l29_s0 v = true → (0 : Int) ≤ pFu_l29_T.a3 v ∧ pFu_l29_T.a3 v < Int.ofNat (List.length (pFu_l29_T.a4 v))], [(X.e (0 : Nat), !pFu_l29_s0 v, pFu_l29_T.mk (pFu_l29_T.a0 v) (pFu_l29_T.a1 v) (pFu_l29_T.a2 v) (pFu_l29_T.a3 v) (pFu_l29_T.a4 v)), (X.n, pFu_l29_s0 v, pFu_l29_T.mk (pFu_l29_T.a0 v) (bif rget (pFu_l29_T.a4 v) (Int.toNat (pFu_l29_T.a3 v)) (0 : Nat) == (12 : Int) then IntKind.wrap IntKind.i64 (pFu_l29_T.a1 v + IntKind.wrap IntKind.i64 (IntKind.wrap IntKind.i64 (rget (pFu_l29_T.a4 v) (Int.toNat (pFu_l29_T.a3 v)) (3 : Nat)) * IntKind.wrap IntKind.i64 ((if pFu_l29_s1 v < (1 : Int) then (1 : Int) else pFu_l29_s1 v) - (1 : Int)))) else pFu_l29_T.a1 v) (pFu_l29_T.a2 v) (IntKind.wrap IntKind.i64 (pFu_l29_T.a3 v + (1 : Int))) (pFu_l29_T.a4 v))])
def pFu_l29_rd : HS → Option pFu_l29_T := rdS [.i, .i, .i, .i, .r] (fun l => pFu_l29_T.mk (gI l 0) (gI l 1) (gI l 2) (gI l 3) (gR l 4)) pFu_l29_hd
def pFu_l29_sum : V.Sum := loopS pFu_l29_hd pFu_l29_rd pFu_l29_st 18446744073709551616 [X.e (0 : Nat)] [0, 2, 3, 5, 8, 9, 10, 11, 16] [2, 3, 8, 9, 10] [] [] [] 0
theorem pFu_l29_E : ∀ v, bodyF Try.prog tabUa0 (ntOf Try.prog 87) [0, 2, 3, 5, 8, 9, 10, 11, 16] [2, 3, 8, 9, 10] [] 2000 [] [] pFu_l29_code 116 (pFu_l29_hd v) = some ((pFu_l29_st v).1, (pFu_l29_st v).2.map fun q => (q.1, q.2.1, pFu_l29_hd q.2.2)) := fun v => by kernel_rfl
theorem pFu_l29_R : ∀ h v, pFu_l29_rd h = some v → h = pFu_l29_hd v := rdS_ok fun l => by kernel_rfl
set_option maxRecDepth 100000 in
theorem pFu_l29_sok : SumOK Try.prog (ntOf Try.prog 87) [0, 2, 3, 5, 8, 9, 10, 11, 16] (.block (blockOf (subs (bodyOf Try.prog 87) 1 29)) (.loop pFu_l29_code)) pFu_l29_sum := loopS_ok tabUa0_ok follows pFu_l29_E pFu_l29_R (fun v => by kernel_rfl) (LOK_of _ _ (LOK_nil'))
def pFu_0 (p : List (List Int)) : Int := pFu_l29_T.a1 (V.valOf (lrun pFu_l29_st (18446744073709551616 : Nat) (pFu_l29_T.mk (0 : Int) (Int.ofNat (List.length p)) (Int.ofNat (List.length p)) (0 : Int) p)))
def pFu_o (r0 : Bool) (p : List (List Int)) : List Prop := [lok pFu_l29_st (18446744073709551616 : Nat) (pFu_l29_T.mk (0 : Int) (Int.ofNat (List.length p)) (Int.ofNat (List.length p)) (0 : Int) p)]
theorem pFu_p (r0 : Bool) (p : List (List Int)) : evG Try.prog tabUa0 2000 87 [0, 2, 3, 5, 8, 9, 10, 11, 16] [(29, pFu_l29_sum)] [] [.a (.vec 0 0 5)] [⟨⟨0, 0, r0, some ⟨0, [.int .u8, .int .u8, .int .u8, .int .u8, .int .i16], p, none⟩⟩, []⟩] = some (pFu_o r0 p, LV.a (At.int true IntKind.i64 (pFu_0 p)), [none]) := by kernel_rfl
def pFu_c : Con
  | [.a (.vec 0 0 5)], [⟨⟨0, 0, r0, some ⟨0, [.int .u8, .int .u8, .int .u8, .int .u8, .int .i16], p, none⟩⟩, []⟩] => some (pFu_o r0 p, LV.a (At.int true IntKind.i64 (pFu_0 p)), [none])
  | _, _ => none
theorem pFu_ok : ConOK Try.prog 87 (normC pFu_c) := normC_ok (by
  intro args bs obs lv out h ho φ vs w may ha hM
  unfold pFu_c at h
  split at h
  · simp only [Option.some.injEq, Prod.mk.injEq] at h
    obtain ⟨rfl, rfl, rfl⟩ := h
    rename_i r0 p
    exact evG_okL' tabUa0_ok follows (LOK_cons (show subs (bodyOf Try.prog 87) 1 29 = [.block (blockOf (subs (bodyOf Try.prog 87) 1 29)) (.loop pFu_l29_code)] from by kernel_rfl) pFu_l29_sok (LOK_nil')) _ _ _ _ _ (pFu_p r0 p) ho φ vs w may ha hM
  · cases h)
theorem pFu_en : Enters Try.prog 87 := fun args => by kernel_rfl
-- 1280 32 3 ms

/-! (azulejo/isa.Program).Fuel -/
def pFuN_0 : Int := (0 : Int)
theorem pFuN_p  : evG Try.prog tabUa0 2000 87 [0, 2, 3, 5, 8, 9, 10, 11, 16] [] [] [.a .nils] [] = some ([], LV.a (At.int false IntKind.i64 pFuN_0), []) := by kernel_rfl
def pFuN_c : Con
  | [.a .nils], [] => some ([], LV.a (At.int false IntKind.i64 pFuN_0), [])
  | _, _ => none
theorem pFuN_ok : ConOK Try.prog 87 (normC pFuN_c) := normC_ok (by
  intro args bs obs lv out h ho φ vs w may ha hM
  unfold pFuN_c at h
  split at h
  · simp only [Option.some.injEq, Prod.mk.injEq] at h
    obtain ⟨rfl, rfl, rfl⟩ := h
    exact evG_ok tabUa0_ok follows _ _ _ _ _ (pFuN_p ) ho φ vs w may ha hM
  · cases h)
theorem pFuN_en : Enters Try.prog 87 := fun args => by kernel_rfl
-- 71 1 1 ms

def tabUa1 : Tab := (109, normC fWi_c) :: (142, normC vAll_c) :: (124, normC rCl_c) :: (94, normC vCol_c) :: (95, normC r7Wi_c) :: (141, normC rFlo0_c) :: (151, normC pBo_c) :: (87, normC pFu_c) :: (87, normC pFuN_c) :: tabUa0
theorem tabUa1_ok : TOK Try.prog tabUa1 := TOK.cons fWi_en fWi_ok (TOK.cons vAll_en vAll_ok (TOK.cons rCl_en rCl_ok (TOK.cons vCol_en vCol_ok (TOK.cons r7Wi_en r7Wi_ok (TOK.cons rFlo0_en rFlo0_ok (TOK.cons pBo_en pBo_ok (TOK.cons pFu_en pFu_ok (TOK.cons pFuN_en pFuN_ok (tabUa0_ok)))))))))

end Go.Proofs.Ytcdejlgophpdjaa
end

section
namespace Go.Proofs.Ytcdejlgophpdjaa
open Go Go.RowKit Go.Proofs.Ytcdejlgophpdjaa.V
set_option linter.unusedVariables false

/-! azulejo/fix.Clamp -/
def fCla_0 (x0 : Int) : Int := fWi_0 x0 (2147483647 : Int)
theorem fCla_p (x0 : Int) : evG Try.prog tabUa1 2000 137 [0, 2] [] [] [.a (.int true .i64 x0)] [] = some ([], LV.a (At.int true IntKind.i64 (fCla_0 x0)), []) := by kernel_rfl
def fCla_c : Con
  | [.a (.int true .i64 x0)], [] => some ([], LV.a (At.int true IntKind.i64 (fCla_0 x0)), [])
  | _, _ => none
theorem fCla_ok : ConOK Try.prog 137 (normC fCla_c) := normC_ok (by
  intro args bs obs lv out h ho φ vs w may ha hM
  unfold fCla_c at h
  split at h
  · simp only [Option.some.injEq, Prod.mk.injEq] at h
    obtain ⟨rfl, rfl, rfl⟩ := h
    rename_i x0
    exact evG_ok tabUa1_ok follows _ _ _ _ _ (fCla_p x0) ho φ vs w may ha hM
  · cases h)
theorem fCla_en : Enters Try.prog 137 := fun args => by kernel_rfl
-- 39 1 2 ms

/-! (azulejo/vec.Vec).Within -/
theorem vWi_p (x0_0 x0_1 x0_2 x0_3 x1 : Int) : evG Try.prog tabUa1 2000 90 [0, 1, 2, 4, 5, 6, 7, 8, 9] [] [] [.g [.int true .i64 x0_0, .int true .i64 x0_1, .int true .i64 x0_2, .int true .i64 x0_3], .a (.int true .i64 x1)] [] = some ([], LV.g [At.int true IntKind.i64 (fWi_0 x0_0 x1), At.int true IntKind.i64 (fWi_0 x0_1 x1), At.int true IntKind.i64 (fWi_0 x0_2 x1), At.int true IntKind.i64 (fWi_0 x0_3 x1)], []) := by kernel_rfl
def vWi_c : Con
  | [.g [.int true .i64 x0_0, .int true .i64 x0_1, .int true .i64 x0_2, .int true .i64 x0_3], .a (.int true .i64 x1)], [] => some ([], LV.g [At.int true IntKind.i64 (fWi_0 x0_0 x1), At.int true IntKind.i64 (fWi_0 x0_1 x1), At.int true IntKind.i64 (fWi_0 x0_2 x1), At.int true IntKind.i64 (fWi_0 x0_3 x1)], [])
  | _, _ => none
theorem vWi_ok : ConOK Try.prog 90 (normC vWi_c) := normC_ok (by
  intro args bs obs lv out h ho φ vs w may ha hM
  unfold vWi_c at h
  split at h
  · simp only [Option.some.injEq, Prod.mk.injEq] at h
    obtain ⟨rfl, rfl, rfl⟩ := h
    rename_i x0_0 x0_1 x0_2 x0_3 x1
    exact evG_ok tabUa1_ok follows _ _ _ _ _ (vWi_p x0_0 x0_1 x0_2 x0_3 x1) ho φ vs w may ha hM
  · cases h)
theorem vWi_en : Enters Try.prog 90 := fun args => by kernel_rfl
-- 195 2 0 ms

/-! azulejo/azulejoref01.Add -/
def rAd_0 (x0 x1 : Int) : Int := rCl_0 (IntKind.wrap IntKind.i64 (rCl_0 x0 + rCl_0 x1))
theorem rAd_p (x0 x1 : Int) : evG Try.prog tabUa1 2000 134 [0, 1, 4] [] [] [.a (.int true .i64 x0), .a (.int true .i64 x1)] [] = some ([], LV.a (At.int true IntKind.i64 (rAd_0 x0 x1)), []) := by kernel_rfl
def rAd_c : Con
  | [.a (.int true .i64 x0), .a (.int true .i64 x1)], [] => some ([], LV.a (At.int true IntKind.i64 (rAd_0 x0 x1)), [])
  | _, _ => none
theorem rAd_ok : ConOK Try.prog 134 (normC rAd_c) := normC_ok (by
  intro args bs obs lv out h ho φ vs w may ha hM
  unfold rAd_c at h
  split at h
  · simp only [Option.some.injEq, Prod.mk.injEq] at h
    obtain ⟨rfl, rfl, rfl⟩ := h
    rename_i x0 x1
    exact evG_ok tabUa1_ok follows _ _ _ _ _ (rAd_p x0 x1) ho φ vs w may ha hM
  · cases h)
theorem rAd_en : Enters Try.prog 134 := fun args => by kernel_rfl
-- 54 1 2 ms

/-! azulejo/azulejoref01.Floor -/
def rFlo_s0 (x1 : Int) : Bool := decide (x1 < (0 : Int))
def rFlo_s1 (x0 : Int) : Int := IntKind.wrap IntKind.i64 ((0 : Int) - x0)
def rFlo_s2 (x1 : Int) : Int := IntKind.wrap IntKind.i64 ((0 : Int) - x1)
def rFlo_s3 (x0 : Int) : Bool := decide ((0 : Int) ≤ x0)
def rFlo_0 (x0 x1 : Int) : Int := bif x1 == (0 : Int) then (0 : Int) else bif rFlo_s0 x1 then rFlo0_0 (rFlo_s1 x0) (rFlo_s2 x1) else bif rFlo_s3 x0 then IntKind.wrap IntKind.i64 (Int.tdiv x0 x1) else IntKind.wrap IntKind.i64 ((0 : Int) - IntKind.wrap IntKind.i64 (Int.tdiv (IntKind.wrap IntKind.i64 (IntKind.wrap IntKind.i64 (x1 - (1 : Int)) - x0)) x1))
def rFlo_o (x0 x1 : Int) : List Prop := [(!x1 == (0 : Int)) = true → rFlo_s0 x1 = true → (!rFlo_s2 x1 == (0 : Int)) = true → rFlo0_s0 (rFlo_s2 x1) = true → False, (!x1 == (0 : Int)) = true → rFlo_s0 x1 = true → (!rFlo_s2 x1 == (0 : Int)) = true → (!rFlo0_s0 (rFlo_s2 x1)) = true → rFlo0_s1 (rFlo_s1 x0) = true → rFlo_s2 x1 ≠ (0 : Int), (!x1 == (0 : Int)) = true → rFlo_s0 x1 = true → (!rFlo_s2 x1 == (0 : Int)) = true → (!rFlo0_s0 (rFlo_s2 x1)) = true → (!rFlo0_s1 (rFlo_s1 x0)) = true → rFlo_s2 x1 ≠ (0 : Int), (!x1 == (0 : Int)) = true → (!rFlo_s0 x1) = true → rFlo_s3 x0 = true → x1 ≠ (0 : Int), (!x1 == (0 : Int)) = true → (!rFlo_s0 x1) = true → (!rFlo_s3 x0) = true → x1 ≠ (0 : Int)]
theorem rFlo_p (x0 x1 : Int) : evG Try.prog tabUa1 2000 141 [0, 1, 4, 6, 8, 15] [] [] [.a (.int true .i64 x0), .a (.int true .i64 x1)] [] = some (rFlo_o x0 x1, LV.a (At.int true IntKind.i64 (rFlo_0 x0 x1)), []) := by kernel_rfl
def rFlo_c : Con
  | [.a (.int true .i64 x0), .a (.int true .i64 x1)], [] => some (rFlo_o x0 x1, LV.a (At.int true IntKind.i64 (rFlo_0 x0 x1)), [])
  | _, _ => none
theorem rFlo_ok : ConOK Try.prog 141 (normC rFlo_c) := normC_ok (by
  intro args bs obs lv out h ho φ vs w may ha hM
  unfold rFlo_c at h
  split at h
  · simp only [Option.some.injEq, Prod.mk.injEq] at h
    obtain ⟨rfl, rfl, rfl⟩ := h
    rename_i x0 x1
    exact evG_ok tabUa1_ok follows _ _ _ _ _ (rFlo_p x0 x1) ho φ vs w may ha hM
  · cases h)
theorem rFlo_en : Enters Try.prog 141 := fun args => by kernel_rfl
-- 136 19 8 ms

/-! (azulejo/isa.Program).within -/
noncomputable def pWi_l13_code : Go.Code := loopOf (subs (bodyOf Try.prog 138) 1 13)
structure pWi_l13_T where
  a0 : Int
  a1 : Int
  a2 : Int
  a3 : Bool
  a4 : Int
  a5 : Int
  a6 : List (List Int)
  deriving Inhabited
def pWi_l13_hd (v : pWi_l13_T) : HS := HS.mk [(nat_lit 0, LV.a (At.vec (nat_lit 0) (nat_lit 0) (nat_lit 5))), (nat_lit 1, LV.a (At.int true IntKind.i64 (pWi_l13_T.a0 v))), (nat_lit 4, LV.a (At.int true IntKind.i64 (pWi_l13_T.a1 v))), (nat_lit 5, LV.a (At.int true IntKind.i64 (pWi_l13_T.a2 v))), (nat_lit 6, LV.a (At.bool true (pWi_l13_T.a3 v))), (nat_lit 12, LV.a (At.int true IntKind.i64 (pWi_l13_T.a4 v))), (nat_lit 13, LV.a (At.int true IntKind.i64 (pWi_l13_T.a5 v)))] [BC.mk (Hd.mk (nat_lit 0) (nat_lit 0) true (some (Rw.mk (nat_lit 0) [Kd.int IntKind.u8, Kd.int IntKind.u8, Kd.int IntKind.u8, Kd.int IntKind.u8, Kd.int IntKind.i16] (pWi_l13_T.a6 v) none))) []]
def pWi_l13_s0 (v : pWi_l13_T) : Bool := decide (pWi_l13_T.a5 v < pWi_l13_T.a4 v)
def pWi_l13_s1 (v : pWi_l13_T) : Bool := bif pBo_2 (pWi_l13_T.a5 v) (pWi_l13_T.a6 v) then bif decide (pBo_0 (pWi_l13_T.a5 v) (pWi_l13_T.a6 v) ≤ pWi_l13_T.a0 v) then decide (pWi_l13_T.a0 v < pBo_1 (pWi_l13_T.a5 v) (pWi_l13_T.a6 v)) else false else false
def pWi_l13_st (v : pWi_l13_T) : List Prop × List (X × Bool × pWi_l13_T) := ([pWi_l13_s0 v = true → pBo_s0 (pWi_l13_T.a5 v) = false → pBo_s1 (pWi_l13_T.a5 v) (pWi_l13_T.a6 v) = false → (0 : Int) ≤ pWi_l13_T.a5 v ∧ pWi_l13_T.a5 v < Int.ofNat (List.length (pWi_l13_T.a6 v)), pWi_l13_s0 v = true → (!pBo_s2 (pWi_l13_T.a5 v) (pWi_l13_T.a6 v)) = true → (0 : Int) ≤ pWi_l13_T.a5 v ∧ pWi_l13_T.a5 v < Int.ofNat (List.length (pWi_l13_T.a6 v))], [(X.e (0 : Nat), !pWi_l13_s0 v, pWi_l13_T.mk (pWi_l13_T.a0 v) (pWi_l13_T.a1 v) (pWi_l13_T.a2 v) (pWi_l13_T.a3 v) (pWi_l13_T.a4 v) (pWi_l13_T.a5 v) (pWi_l13_T.a6 v)), (X.r, pWi_l13_s0 v && pWi_l13_s1 v, pWi_l13_T.mk (pWi_l13_T.a0 v) (pBo_0 (pWi_l13_T.a5 v) (pWi_l13_T.a6 v)) (pBo_1 (pWi_l13_T.a5 v) (pWi_l13_T.a6 v)) (true) (pWi_l13_T.a4 v) (pWi_l13_T.a5 v) (pWi_l13_T.a6 v)), (X.n, pWi_l13_s0 v && !pWi_l13_s1 v, pWi_l13_T.mk (pWi_l13_T.a0 v) (pWi_l13_T.a1 v) (pWi_l13_T.a2 v) (pWi_l13_T.a3 v) (pWi_l13_T.a4 v) (IntKind.wrap IntKind.i64 (pWi_l13_T.a5 v + (1 : Int))) (pWi_l13_T.a6 v))])
def pWi_l13_rd : HS → Option pWi_l13_T := rdS [.i, .i, .i, .b, .i, .i, .r] (fun l => pWi_l13_T.mk (gI l 0) (gI l 1) (gI l 2) (gB l 3) (gI l 4) (gI l 5) (gR l 6)) pWi_l13_hd
def pWi_l13_sum : V.Sum := loopS pWi_l13_hd pWi_l13_rd pWi_l13_st 18446744073709551616 [X.e (0 : Nat), X.r] [0, 1, 4, 5, 6, 7, 8, 9, 10, 12, 13, 14, 33] [0, 1, 4, 5, 6, 12, 13] [] [] [] 0
theorem pWi_l13_E : ∀ v, bodyF Try.prog tabUa1 (ntOf Try.prog 138) [0, 1, 4, 5, 6, 7, 8, 9, 10, 12, 13, 14, 33] [0, 1, 4, 5, 6, 12, 13] [] 2000 [] [] pWi_l13_code 52 (pWi_l13_hd v) = some ((pWi_l13_st v).1, (pWi_l13_st v).2.map fun q => (q.1, q.2.1, pWi_l13_hd q.2.2)) := fun v => by kernel_rfl
theorem pWi_l13_R : ∀ h v, pWi_l13_rd h = some v → h = pWi_l13_hd v := rdS_ok fun l => by kernel_rfl
set_option maxRecDepth 100000 in
theorem pWi_l13_sok : SumOK Try.prog (ntOf Try.prog 138) [0, 1, 4, 5, 6, 7, 8, 9, 10, 12, 13, 14, 33] (.block (blockOf (subs (bodyOf Try.prog 138) 1 13)) (.loop pWi_l13_code)) pWi_l13_sum := loopS_ok tabUa1_ok follows pWi_l13_E pWi_l13_R (fun v => by kernel_rfl) (LOK_of _ _ (LOK_nil'))
def pWi_s0 (x1 : Int) (p : List (List Int)) : Option (X × pWi_l13_T) := lrun pWi_l13_st (18446744073709551616 : Nat) (pWi_l13_T.mk x1 (0 : Int) (0 : Int) false (Int.ofNat (List.length p)) (0 : Int) p)
def pWi_0 (x1 : Int) (p : List (List Int)) : Int := bif isX X.r (pWi_s0 x1 p) then pWi_l13_T.a1 (V.valOf (pWi_s0 x1 p)) else (0 : Int)
def pWi_1 (x1 : Int) (p : List (List Int)) : Int := bif isX X.r (pWi_s0 x1 p) then pWi_l13_T.a2 (V.valOf (pWi_s0 x1 p)) else (0 : Int)
def pWi_2 (x1 : Int) (p : List (List Int)) : Bool := bif isX X.r (pWi_s0 x1 p) then pWi_l13_T.a3 (V.valOf (pWi_s0 x1 p)) else false
def pWi_o (x1 : Int) (r0 : Bool) (p : List (List Int)) : List Prop := [lok pWi_l13_st (18446744073709551616 : Nat) (pWi_l13_T.mk x1 (0 : Int) (0 : Int) false (Int.ofNat (List.length p)) (0 : Int) p)]
theorem pWi_p (x1 : Int) (r0 : Bool) (p : List (List Int)) : evG Try.prog tabUa1 2000 138 [0, 1, 4, 5, 6, 7, 8, 9, 10, 12, 13, 14, 33] [(13, pWi_l13_sum)] [] [.a (.vec 0 0 5), .a (.int true .i64 x1)] [⟨⟨0, 0, r0, some ⟨0, [.int .u8, .int .u8, .int .u8, .int .u8, .int .i16], p, none⟩⟩, []⟩] = some (pWi_o x1 r0 p, LV.t [LV.a (At.int true IntKind.i64 (pWi_0 x1 p)), LV.a (At.int true IntKind.i64 (pWi_1 x1 p)), LV.a (At.bool true (pWi_2 x1 p))], [none]) := by kernel_rfl
def pWi_c : Con
  | [.a (.vec 0 0 5), .a (.int true .i64 x1)], [⟨⟨0, 0, r0, some ⟨0, [.int .u8, .int .u8, .int .u8, .int .u8, .int .i16], p, none⟩⟩, []⟩] => some (pWi_o x1 r0 p, LV.t [LV.a (At.int true IntKind.i64 (pWi_0 x1 p)), LV.a (At.int true IntKind.i64 (pWi_1 x1 p)), LV.a (At.bool true (pWi_2 x1 p))], [none])
  | _, _ => none
theorem pWi_ok : ConOK Try.prog 138 (normC pWi_c) := normC_ok (by
  intro args bs obs lv out h ho φ vs w may ha hM
  unfold pWi_c at h
  split at h
  · simp only [Option.some.injEq, Prod.mk.injEq] at h
    obtain ⟨rfl, rfl, rfl⟩ := h
    rename_i x1 r0 p
    exact evG_okL' tabUa1_ok follows (LOK_cons (show subs (bodyOf Try.prog 138) 1 13 = [.block (blockOf (subs (bodyOf Try.prog 138) 1 13)) (.loop pWi_l13_code)] from by kernel_rfl) pWi_l13_sok (LOK_nil')) _ _ _ _ _ (pWi_p x1 r0 p) ho φ vs w may ha hM
  · cases h)
theorem pWi_en : Enters Try.prog 138 := fun args => by kernel_rfl
-- 1378 108 9 ms

/-! azulejo/azulejolaw07.Ref -/
noncomputable def pRef_l29_code : Go.Code := loopOf (subs (bodyOf Try.prog 84) 1 29)
structure pRef_l29_T where
  a0 : Int
  a1 : Int
  a2 : List (List Int)
  a3 : List (List Int)
  deriving Inhabited
def pRef_l29_hd (v : pRef_l29_T) : HS := HS.mk [(nat_lit 2, LV.a At.nils), (nat_lit 3, LV.a (At.vec (nat_lit 1) (nat_lit 0) (nat_lit 5))), (nat_lit 6, LV.a (At.vec (nat_lit 0) (nat_lit 0) (nat_lit 5))), (nat_lit 7, LV.a (At.int true IntKind.i64 (pRef_l29_T.a0 v))), (nat_lit 8, LV.a (At.int true IntKind.i64 (pRef_l29_T.a1 v)))] [BC.mk (Hd.mk (nat_lit 0) (nat_lit 0) true (some (Rw.mk (nat_lit 0) [Kd.int IntKind.u8, Kd.int IntKind.u8, Kd.int IntKind.u8, Kd.int IntKind.u8, Kd.int IntKind.i16] (pRef_l29_T.a2 v) none))) [], BC.mk (Hd.mk (nat_lit 0) (nat_lit 0) false (some (Rw.mk (nat_lit 0) [Kd.int IntKind.i64, Kd.int IntKind.i64, Kd.int IntKind.i64, Kd.int IntKind.i64, Kd.int IntKind.i64] (pRef_l29_T.a3 v) none))) []]
def pRef_l29_s0 (v : pRef_l29_T) : Bool := decide (pRef_l29_T.a1 v < pRef_l29_T.a0 v)
def pRef_l29_s1 (v : pRef_l29_T) : List (List Int) := pRef_l29_T.a3 v ++ [[IntKind.wrap IntKind.i64 (rget (pRef_l29_T.a2 v) (Int.toNat (pRef_l29_T.a1 v)) (0 : Nat)), IntKind.wrap IntKind.i64 (rget (pRef_l29_T.a2 v) (Int.toNat (pRef_l29_T.a1 v)) (1 : Nat)), IntKind.wrap IntKind.i64 (rget (pRef_l29_T.a2 v) (Int.toNat (pRef_l29_T.a1 v)) (2 : Nat)), IntKind.wrap IntKind.i64 (rget (pRef_l29_T.a2 v) (Int.toNat (pRef_l29_T.a1 v)) (3 : Nat)), IntKind.wrap IntKind.i64 (rget (pRef_l29_T.a2 v) (Int.toNat (pRef_l29_T.a1 v)) (4 : Nat))]]
def pRef_l29_st (v : pRef_l29_T) : List Prop × List (X × Bool × pRef_l29_T) := ([pRef_l29_s0 v = true → (0 : Int) ≤ pRef_l29_T.a1 v ∧ pRef_l29_T.a1 v < Int.ofNat (List.length (pRef_l29_T.a2 v)), pRef_l29_s0 v = true → List.length (pRef_l29_s1 v) * (40 : Nat) ≤ (70368744177664 : Nat)], [(X.e (0 : Nat), !pRef_l29_s0 v, pRef_l29_T.mk (pRef_l29_T.a0 v) (pRef_l29_T.a1 v) (pRef_l29_T.a2 v) (pRef_l29_T.a3 v)), (X.n, pRef_l29_s0 v, pRef_l29_T.mk (pRef_l29_T.a0 v) (IntKind.wrap IntKind.i64 (pRef_l29_T.a1 v + (1 : Int))) (pRef_l29_T.a2 v) (pRef_l29_s1 v))])
def pRef_l29_rd : HS → Option pRef_l29_T := rdS [.i, .i, .r, .r] (fun l => pRef_l29_T.mk (gI l 0) (gI l 1) (gR l 2) (gR l 3)) pRef_l29_hd
def pRef_l29_sum : V.Sum := loopS pRef_l29_hd pRef_l29_rd pRef_l29_st 18446744073709551616 [X.e (0 : Nat)] [0, 2, 3, 5, 6, 7, 8, 9] [2, 3, 6, 7, 8] [1] [1] [(3, [.int .i64, .int .i64, .int .i64, .int .i64, .int .i64])] 0
theorem pRef_l29_E : ∀ v, bodyF Try.prog tabUa1 (ntOf Try.prog 84) [0, 2, 3, 5, 6, 7, 8, 9] [2, 3, 6, 7, 8] [] 2000 [1] [1] pRef_l29_code 116 (pRef_l29_hd v) = some ((pRef_l29_st v).1, (pRef_l29_st v).2.map fun q => (q.1, q.2.1, pRef_l29_hd q.2.2)) := fun v => by kernel_rfl
theorem pRef_l29_R : ∀ h v, pRef_l29_rd h = some v → h = pRef_l29_hd v := rdS_ok fun l => by kernel_rfl
set_option maxRecDepth 100000 in
theorem pRef_l29_sok : SumOK Try.prog (ntOf Try.prog 84) [0, 2, 3, 5, 6, 7, 8, 9] (.block (blockOf (subs (bodyOf Try.prog 84) 1 29)) (.loop pRef_l29_code)) pRef_l29_sum := loopS_ok tabUa1_ok follows pRef_l29_E pRef_l29_R (fun v => by kernel_rfl) (LOK_of _ _ (LOK_nil'))
def pRef_0 (p : List (List Int)) : List (List Int) := pRef_l29_T.a3 (V.valOf (lrun pRef_l29_st (18446744073709551616 : Nat) (pRef_l29_T.mk (Int.ofNat (List.length p)) (0 : Int) p [])))
def pRef_o (r0 : Bool) (p : List (List Int)) : List Prop := [lok pRef_l29_st (18446744073709551616 : Nat) (pRef_l29_T.mk (Int.ofNat (List.length p)) (0 : Int) p [])]
theorem pRef_p (r0 : Bool) (p : List (List Int)) : evG Try.prog tabUa1 2000 84 [0, 2, 3, 5, 6, 7, 8, 9] [(29, pRef_l29_sum)] [] [.a (.vec 0 0 5)] [⟨⟨0, 0, r0, some ⟨0, [.int .u8, .int .u8, .int .u8, .int .u8, .int .i16], p, none⟩⟩, []⟩] = some (pRef_o r0 p, LV.a (At.vec (nat_lit 1) (nat_lit 1) (nat_lit 5)), [none, some (BC.mk (Hd.mk (nat_lit 1) (nat_lit 0) false (some (Rw.mk (nat_lit 0) [Kd.int IntKind.i64, Kd.int IntKind.i64, Kd.int IntKind.i64, Kd.int IntKind.i64, Kd.int IntKind.i64] (pRef_0 p) none))) [])]) := by kernel_rfl
def pRef_c : Con
  | [.a (.vec 0 0 5)], [⟨⟨0, 0, r0, some ⟨0, [.int .u8, .int .u8, .int .u8, .int .u8, .int .i16], p, none⟩⟩, []⟩] => some (pRef_o r0 p, LV.a (At.vec (nat_lit 1) (nat_lit 1) (nat_lit 5)), [none, some (BC.mk (Hd.mk (nat_lit 1) (nat_lit 0) false (some (Rw.mk (nat_lit 0) [Kd.int IntKind.i64, Kd.int IntKind.i64, Kd.int IntKind.i64, Kd.int IntKind.i64, Kd.int IntKind.i64] (pRef_0 p) none))) [])])
  | _, _ => none
theorem pRef_ok : ConOK Try.prog 84 (normC pRef_c) := normC_ok (by
  intro args bs obs lv out h ho φ vs w may ha hM
  unfold pRef_c at h
  split at h
  · simp only [Option.some.injEq, Prod.mk.injEq] at h
    obtain ⟨rfl, rfl, rfl⟩ := h
    rename_i r0 p
    exact evG_okL' tabUa1_ok follows (LOK_cons (show subs (bodyOf Try.prog 84) 1 29 = [.block (blockOf (subs (bodyOf Try.prog 84) 1 29)) (.loop pRef_l29_code)] from by kernel_rfl) pRef_l29_sok (LOK_nil')) _ _ _ _ _ (pRef_p r0 p) ho φ vs w may ha hM
  · cases h)
theorem pRef_en : Enters Try.prog 84 := fun args => by kernel_rfl
-- 1400 35 3 ms

def tabUa2 : Tab := (137, normC fCla_c) :: (90, normC vWi_c) :: (134, normC rAd_c) :: (141, normC rFlo_c) :: (138, normC pWi_c) :: (84, normC pRef_c) :: tabUa1
theorem tabUa2_ok : TOK Try.prog tabUa2 := TOK.cons fCla_en fCla_ok (TOK.cons vWi_en vWi_ok (TOK.cons rAd_en rAd_ok (TOK.cons rFlo_en rFlo_ok (TOK.cons pWi_en pWi_ok (TOK.cons pRef_en pRef_ok (tabUa1_ok))))))

end Go.Proofs.Ytcdejlgophpdjaa
end

section
namespace Go.Proofs.Ytcdejlgophpdjaa
open Go Go.RowKit Go.Proofs.Ytcdejlgophpdjaa.V
set_option linter.unusedVariables false

/-! azulejo/fix.Of -/
def fOf_0 (x0 : Int) : Int := fCla_0 (IntKind.wrap IntKind.i64 (fWi_0 x0 (65536 : Int) * (2 : Int) ^ min (Int.toNat (16 : Int)) (IntKind.bits IntKind.i64)))
theorem fOf_p (x0 : Int) : evG Try.prog tabUa2 2000 128 [0, 2] [] [] [.a (.int true .i64 x0)] [] = some ([], LV.a (At.int true IntKind.i64 (fOf_0 x0)), []) := by kernel_rfl
def fOf_c : Con
  | [.a (.int true .i64 x0)], [] => some ([], LV.a (At.int true IntKind.i64 (fOf_0 x0)), [])
  | _, _ => none
theorem fOf_ok : ConOK Try.prog 128 (normC fOf_c) := normC_ok (by
  intro args bs obs lv out h ho φ vs w may ha hM
  unfold fOf_c at h
  split at h
  · simp only [Option.some.injEq, Prod.mk.injEq] at h
    obtain ⟨rfl, rfl, rfl⟩ := h
    rename_i x0
    exact evG_ok tabUa2_ok follows _ _ _ _ _ (fOf_p x0) ho φ vs w may ha hM
  · cases h)
theorem fOf_en : Enters Try.prog 128 := fun args => by kernel_rfl
-- 56 2 3 ms

/-! azulejo/fix.Add -/
def fAd_0 (x0 x1 : Int) : Int := fCla_0 (IntKind.wrap IntKind.i64 (fCla_0 x0 + fCla_0 x1))
theorem fAd_p (x0 x1 : Int) : evG Try.prog tabUa2 2000 153 [0, 1, 4] [] [] [.a (.int true .i64 x0), .a (.int true .i64 x1)] [] = some ([], LV.a (At.int true IntKind.i64 (fAd_0 x0 x1)), []) := by kernel_rfl
def fAd_c : Con
  | [.a (.int true .i64 x0), .a (.int true .i64 x1)], [] => some ([], LV.a (At.int true IntKind.i64 (fAd_0 x0 x1)), [])
  | _, _ => none
theorem fAd_ok : ConOK Try.prog 153 (normC fAd_c) := normC_ok (by
  intro args bs obs lv out h ho φ vs w may ha hM
  unfold fAd_c at h
  split at h
  · simp only [Option.some.injEq, Prod.mk.injEq] at h
    obtain ⟨rfl, rfl, rfl⟩ := h
    rename_i x0 x1
    exact evG_ok tabUa2_ok follows _ _ _ _ _ (fAd_p x0 x1) ho φ vs w may ha hM
  · cases h)
theorem fAd_en : Enters Try.prog 153 := fun args => by kernel_rfl
-- 41 2 2 ms

/-! azulejo/fix.Sub -/
def fSu_0 (x0 x1 : Int) : Int := fCla_0 (IntKind.wrap IntKind.i64 (fCla_0 x0 - fCla_0 x1))
theorem fSu_p (x0 x1 : Int) : evG Try.prog tabUa2 2000 154 [0, 1, 4] [] [] [.a (.int true .i64 x0), .a (.int true .i64 x1)] [] = some ([], LV.a (At.int true IntKind.i64 (fSu_0 x0 x1)), []) := by kernel_rfl
def fSu_c : Con
  | [.a (.int true .i64 x0), .a (.int true .i64 x1)], [] => some ([], LV.a (At.int true IntKind.i64 (fSu_0 x0 x1)), [])
  | _, _ => none
theorem fSu_ok : ConOK Try.prog 154 (normC fSu_c) := normC_ok (by
  intro args bs obs lv out h ho φ vs w may ha hM
  unfold fSu_c at h
  split at h
  · simp only [Option.some.injEq, Prod.mk.injEq] at h
    obtain ⟨rfl, rfl, rfl⟩ := h
    rename_i x0 x1
    exact evG_ok tabUa2_ok follows _ _ _ _ _ (fSu_p x0 x1) ho φ vs w may ha hM
  · cases h)
theorem fSu_en : Enters Try.prog 154 := fun args => by kernel_rfl
-- 57 1 3 ms

/-! azulejo/fix.Mul -/
def fMu_0 (x0 x1 : Int) : Int := fCla_0 (Int.fdiv (IntKind.wrap IntKind.i64 (fCla_0 x0 * fCla_0 x1)) ((2 : Int) ^ min (Int.toNat (16 : Int)) (IntKind.bits IntKind.i64)))
theorem fMu_p (x0 x1 : Int) : evG Try.prog tabUa2 2000 155 [0, 1, 4] [] [] [.a (.int true .i64 x0), .a (.int true .i64 x1)] [] = some ([], LV.a (At.int true IntKind.i64 (fMu_0 x0 x1)), []) := by kernel_rfl
def fMu_c : Con
  | [.a (.int true .i64 x0), .a (.int true .i64 x1)], [] => some ([], LV.a (At.int true IntKind.i64 (fMu_0 x0 x1)), [])
  | _, _ => none
theorem fMu_ok : ConOK Try.prog 155 (normC fMu_c) := normC_ok (by
  intro args bs obs lv out h ho φ vs w may ha hM
  unfold fMu_c at h
  split at h
  · simp only [Option.some.injEq, Prod.mk.injEq] at h
    obtain ⟨rfl, rfl, rfl⟩ := h
    rename_i x0 x1
    exact evG_ok tabUa2_ok follows _ _ _ _ _ (fMu_p x0 x1) ho φ vs w may ha hM
  · cases h)
theorem fMu_en : Enters Try.prog 155 := fun args => by kernel_rfl
-- 45 2 3 ms

/-! (azulejo/vec.Vec).Min$1 -/
def vMi1_0 (x0 x1 : Int) : Int := if fCla_0 x1 < fCla_0 x0 then fCla_0 x1 else fCla_0 x0
theorem vMi1_p (x0 x1 : Int) : evG Try.prog tabUa2 2000 156 [0, 1, 4] [] [] [.a (.int true .i64 x0), .a (.int true .i64 x1)] [] = some ([], LV.a (At.int true IntKind.i64 (vMi1_0 x0 x1)), []) := by kernel_rfl
def vMi1_c : Con
  | [.a (.int true .i64 x0), .a (.int true .i64 x1)], [] => some ([], LV.a (At.int true IntKind.i64 (vMi1_0 x0 x1)), [])
  | _, _ => none
theorem vMi1_ok : ConOK Try.prog 156 (normC vMi1_c) := normC_ok (by
  intro args bs obs lv out h ho φ vs w may ha hM
  unfold vMi1_c at h
  split at h
  · simp only [Option.some.injEq, Prod.mk.injEq] at h
    obtain ⟨rfl, rfl, rfl⟩ := h
    rename_i x0 x1
    exact evG_ok tabUa2_ok follows _ _ _ _ _ (vMi1_p x0 x1) ho φ vs w may ha hM
  · cases h)
theorem vMi1_en : Enters Try.prog 156 := fun args => by kernel_rfl
-- 62 4 2 ms

/-! (azulejo/vec.Vec).Max$1 -/
def vMa1_0 (x0 x1 : Int) : Int := if fCla_0 x0 < fCla_0 x1 then fCla_0 x1 else fCla_0 x0
theorem vMa1_p (x0 x1 : Int) : evG Try.prog tabUa2 2000 157 [0, 1, 4] [] [] [.a (.int true .i64 x0), .a (.int true .i64 x1)] [] = some ([], LV.a (At.int true IntKind.i64 (vMa1_0 x0 x1)), []) := by kernel_rfl
def vMa1_c : Con
  | [.a (.int true .i64 x0), .a (.int true .i64 x1)], [] => some ([], LV.a (At.int true IntKind.i64 (vMa1_0 x0 x1)), [])
  | _, _ => none
theorem vMa1_ok : ConOK Try.prog 157 (normC vMa1_c) := normC_ok (by
  intro args bs obs lv out h ho φ vs w may ha hM
  unfold vMa1_c at h
  split at h
  · simp only [Option.some.injEq, Prod.mk.injEq] at h
    obtain ⟨rfl, rfl, rfl⟩ := h
    rename_i x0 x1
    exact evG_ok tabUa2_ok follows _ _ _ _ _ (vMa1_p x0 x1) ho φ vs w may ha hM
  · cases h)
theorem vMa1_en : Enters Try.prog 157 := fun args => by kernel_rfl
-- 61 3 3 ms

/-! azulejo/azulejoref01.Mul -/
def rMu_s0 (x0 x1 : Int) : Int := IntKind.wrap IntKind.i64 (rCl_0 x0 * rCl_0 x1)
def rMu_0 (x0 x1 : Int) : Int := rCl_0 (rFlo_0 (rMu_s0 x0 x1) (65536 : Int))
def rMu_o (x0 x1 : Int) : List Prop := [(!(65536 : Int) == (0 : Int)) = true → rFlo_s0 (65536 : Int) = true → (!rFlo_s2 (65536 : Int) == (0 : Int)) = true → rFlo0_s0 (rFlo_s2 (65536 : Int)) = true → False, (!(65536 : Int) == (0 : Int)) = true → rFlo_s0 (65536 : Int) = true → (!rFlo_s2 (65536 : Int) == (0 : Int)) = true → (!rFlo0_s0 (rFlo_s2 (65536 : Int))) = true → rFlo0_s1 (rFlo_s1 (rMu_s0 x0 x1)) = true → rFlo_s2 (65536 : Int) ≠ (0 : Int), (!(65536 : Int) == (0 : Int)) = true → rFlo_s0 (65536 : Int) = true → (!rFlo_s2 (65536 : Int) == (0 : Int)) = true → (!rFlo0_s0 (rFlo_s2 (65536 : Int))) = true → (!rFlo0_s1 (rFlo_s1 (rMu_s0 x0 x1))) = true → rFlo_s2 (65536 : Int) ≠ (0 : Int), (!(65536 : Int) == (0 : Int)) = true → (!rFlo_s0 (65536 : Int)) = true → rFlo_s3 (rMu_s0 x0 x1) = true → (65536 : Int) ≠ (0 : Int), (!(65536 : Int) == (0 : Int)) = true → (!rFlo_s0 (65536 : Int)) = true → (!rFlo_s3 (rMu_s0 x0 x1)) = true → (65536 : Int) ≠ (0 : Int)]
theorem rMu_ot (x0 x1 : Int) : Alls (rMu_o x0 x1) := by exact ⟨fun _ k => absurd k (by decide), fun _ k => absurd k (by decide), fun _ k => absurd k (by decide), fun _ _ _ => by decide, fun _ _ _ => by decide, trivial⟩
theorem rMu_p (x0 x1 : Int) : evG Try.prog tabUa2 2000 135 [0, 1, 4] [] [] [.a (.int true .i64 x0), .a (.int true .i64 x1)] [] = some (rMu_o x0 x1, LV.a (At.int true IntKind.i64 (rMu_0 x0 x1)), []) := by kernel_rfl
def rMu_c : Con
  | [.a (.int true .i64 x0), .a (.int true .i64 x1)], [] => some ([], LV.a (At.int true IntKind.i64 (rMu_0 x0 x1)), [])
  | _, _ => none
theorem rMu_ok : ConOK Try.prog 135 (normC rMu_c) := normC_ok (by
  intro args bs obs lv out h ho φ vs w may ha hM
  unfold rMu_c at h
  split at h
  · simp only [Option.some.injEq, Prod.mk.injEq] at h
    obtain ⟨rfl, rfl, rfl⟩ := h
    rename_i x0 x1
    exact evG_ok tabUa2_ok follows _ _ _ _ _ (rMu_p x0 x1) (rMu_ot x0 x1) φ vs w may ha hM
  · cases h)
theorem rMu_en : Enters Try.prog 135 := fun args => by kernel_rfl
-- 76 2 3 ms

/-! (azulejo/isa.Program).check -/
def pCk_s0 (x2_0 : Int) (x3 : Bool) : Bool := bif decide ((15 : Int) ≤ x2_0) then true else bif x2_0 == (13 : Int) then !x3 else false
def pCk_s1 (x2_0 x2_2 : Int) : Bool := bif x2_0 == (14 : Int) then decide ((8 : Int) < x2_2) else false
def pCk_s2 (x2_0 x2_1 x2_2 x2_3 : Int) : Bool := bif decide ((12 : Int) ≤ x2_1) then true else bif decide ((12 : Int) ≤ x2_2) then true else bif x2_0 != (12 : Int) then bif decide ((12 : Int) ≤ x2_3) then true else pCk_s1 x2_0 x2_2 else pCk_s1 x2_0 x2_2
def pCk_s3 (p : List (List Int)) : Int := ↑(List.length (Rw.l (Rw.mk (0 : Nat) [Kd.int IntKind.u8, Kd.int IntKind.u8, Kd.int IntKind.u8, Kd.int IntKind.u8, Kd.int IntKind.i16] p none)))
def pCk_s4 (x2_4 : Int) : Bool := decide (x2_4 < (1 : Int))
def pCk_s5 (x1 x2_0 x2_3 x2_4 : Int) (p : List (List Int)) : Bool := bif x2_0 == (12 : Int) then bif pWi_2 x1 p then true else bif decide (x2_3 < (1 : Int)) then true else bif decide (IntKind.wrap IntKind.i64 (IntKind.wrap IntKind.i64 (Int.ofNat (List.length p) - x1) - (1 : Int)) < IntKind.wrap IntKind.i64 x2_3) then true else bif pCk_s4 x2_4 then true else decide ((8 : Int) < x2_4) else false
def pCk_s6 (x1 x2_4 : Int) : Int := IntKind.wrap IntKind.i64 (IntKind.wrap IntKind.i64 (x1 + (1 : Int)) + IntKind.wrap IntKind.i64 x2_4)
def pCk_s7 (x1 x2_4 : Int) (p : List (List Int)) : Bool := bif pCk_s4 x2_4 then true else bif decide (Int.ofNat (List.length p) < pCk_s6 x1 x2_4) then true else bif pWi_2 x1 p then decide (pWi_1 x1 p < pCk_s6 x1 x2_4) else false
def pCk_0 (x1 x2_0 x2_1 x2_2 x2_3 x2_4 : Int) (x3 : Bool) (p : List (List Int)) : Int := bif bif pCk_s0 x2_0 x3 then true else bif pCk_s2 x2_0 x2_1 x2_2 x2_3 then true else pCk_s5 x1 x2_0 x2_3 x2_4 p then bif pCk_s0 x2_0 x3 then (5 : Int) else bif pCk_s2 x2_0 x2_1 x2_2 x2_3 then (2 : Int) else (12 : Int) else bif x2_0 != (11 : Int) then (0 : Int) else bif pCk_s7 x1 x2_4 p then (12 : Int) else bif bif pWi_2 (pCk_s6 x1 x2_4) p then bif pWi_2 x1 p then !pWi_0 (pCk_s6 x1 x2_4) p == pWi_0 x1 p else !false else false then (12 : Int) else (0 : Int)
def pCk_o (x1 x2_0 x2_1 x2_2 x2_3 x2_4 : Int) (x3 r0 : Bool) (p : List (List Int)) : List Prop := [lok pWi_l13_st (18446744073709551616 : Nat) (pWi_l13_T.mk x1 (0 : Int) (0 : Int) false (Int.ofNat (List.length p)) (0 : Int) p), (!pCk_s0 x2_0 x3 && (!pCk_s2 x2_0 x2_1 x2_2 x2_3 && !pCk_s5 x1 x2_0 x2_3 x2_4 p)) = true → (!x2_0 != (11 : Int)) = true → (!pCk_s7 x1 x2_4 p) = true → lok pWi_l13_st (18446744073709551616 : Nat) (pWi_l13_T.mk (pCk_s6 x1 x2_4) (0 : Int) (0 : Int) false (Int.ofNat (List.length p)) (0 : Int) p)]
theorem pCk_p (x1 x2_0 x2_1 x2_2 x2_3 x2_4 : Int) (x3 r0 : Bool) (p : List (List Int)) : evG Try.prog tabUa2 2000 129 [0, 1, 2, 3, 6, 8, 9, 10, 11, 12, 13, 15, 23, 36, 65, 100, 123, 140] [] [] [.a (.vec 0 0 5), .a (.int true .i64 x1), .g [.int true .u8 x2_0, .int true .u8 x2_1, .int true .u8 x2_2, .int true .u8 x2_3, .int true .i16 x2_4], .a (.bool true x3)] [⟨⟨0, 0, r0, some ⟨0, [.int .u8, .int .u8, .int .u8, .int .u8, .int .i16], p, none⟩⟩, []⟩] = some (pCk_o x1 x2_0 x2_1 x2_2 x2_3 x2_4 x3 r0 p, LV.a (At.int true IntKind.i64 (pCk_0 x1 x2_0 x2_1 x2_2 x2_3 x2_4 x3 p)), [none]) := by kernel_rfl
def pCk_c : Con
  | [.a (.vec 0 0 5), .a (.int true .i64 x1), .g [.int true .u8 x2_0, .int true .u8 x2_1, .int true .u8 x2_2, .int true .u8 x2_3, .int true .i16 x2_4], .a (.bool true x3)], [⟨⟨0, 0, r0, some ⟨0, [.int .u8, .int .u8, .int .u8, .int .u8, .int .i16], p, none⟩⟩, []⟩] => some (pCk_o x1 x2_0 x2_1 x2_2 x2_3 x2_4 x3 r0 p, LV.a (At.int true IntKind.i64 (pCk_0 x1 x2_0 x2_1 x2_2 x2_3 x2_4 x3 p)), [none])
  | _, _ => none
theorem pCk_ok : ConOK Try.prog 129 (normC pCk_c) := normC_ok (by
  intro args bs obs lv out h ho φ vs w may ha hM
  unfold pCk_c at h
  split at h
  · simp only [Option.some.injEq, Prod.mk.injEq] at h
    obtain ⟨rfl, rfl, rfl⟩ := h
    rename_i x1 x2_0 x2_1 x2_2 x2_3 x2_4 x3 r0 p
    exact evG_ok tabUa2_ok follows _ _ _ _ _ (pCk_p x1 x2_0 x2_1 x2_2 x2_3 x2_4 x3 r0 p) ho φ vs w may ha hM
  · cases h)
theorem pCk_en : Enters Try.prog 129 := fun args => by kernel_rfl
-- 1252 493 23 ms

def tabUa3 : Tab := (128, normC fOf_c) :: (153, normC fAd_c) :: (154, normC fSu_c) :: (155, normC fMu_c) :: (156, normC vMi1_c) :: (157, normC vMa1_c) :: (135, normC rMu_c) :: (129, normC pCk_c) :: tabUa2
theorem tabUa3_ok : TOK Try.prog tabUa3 := TOK.cons fOf_en fOf_ok (TOK.cons fAd_en fAd_ok (TOK.cons fSu_en fSu_ok (TOK.cons fMu_en fMu_ok (TOK.cons vMi1_en vMi1_ok (TOK.cons vMa1_en vMa1_ok (TOK.cons rMu_en rMu_ok (TOK.cons pCk_en pCk_ok (tabUa2_ok))))))))

end Go.Proofs.Ytcdejlgophpdjaa
end

section
namespace Go.Proofs.Ytcdejlgophpdjaa
open Go Go.RowKit Go.Proofs.Ytcdejlgophpdjaa.V
set_option linter.unusedVariables false

/-! azulejo/vec.each -/
theorem eAd_p (x0_0 x0_1 x0_2 x0_3 x1_0 x1_1 x1_2 x1_3 : Int) : evG Try.prog tabUa3 2000 152 [0, 1, 2, 3, 4, 6, 7, 8, 9, 10] [] [] [.g [.int true .i64 x0_0, .int true .i64 x0_1, .int true .i64 x0_2, .int true .i64 x0_3], .g [.int true .i64 x1_0, .int true .i64 x1_1, .int true .i64 x1_2, .int true .i64 x1_3], .a (.fn 153 [])] [] = some ([], LV.g [At.int true IntKind.i64 (fAd_0 x0_0 x1_0), At.int true IntKind.i64 (fAd_0 x0_1 x1_1), At.int true IntKind.i64 (fAd_0 x0_2 x1_2), At.int true IntKind.i64 (fAd_0 x0_3 x1_3)], []) := by kernel_rfl
def eAd_c : Con
  | [.g [.int true .i64 x0_0, .int true .i64 x0_1, .int true .i64 x0_2, .int true .i64 x0_3], .g [.int true .i64 x1_0, .int true .i64 x1_1, .int true .i64 x1_2, .int true .i64 x1_3], .a (.fn 153 [])], [] => some ([], LV.g [At.int true IntKind.i64 (fAd_0 x0_0 x1_0), At.int true IntKind.i64 (fAd_0 x0_1 x1_1), At.int true IntKind.i64 (fAd_0 x0_2 x1_2), At.int true IntKind.i64 (fAd_0 x0_3 x1_3)], [])
  | _, _ => none
theorem eAd_ok : ConOK Try.prog 152 (normC eAd_c) := normC_ok (by
  intro args bs obs lv out h ho φ vs w may ha hM
  unfold eAd_c at h
  split at h
  · simp only [Option.some.injEq, Prod.mk.injEq] at h
    obtain ⟨rfl, rfl, rfl⟩ := h
    rename_i x0_0 x0_1 x0_2 x0_3 x1_0 x1_1 x1_2 x1_3
    exact evG_ok tabUa3_ok follows _ _ _ _ _ (eAd_p x0_0 x0_1 x0_2 x0_3 x1_0 x1_1 x1_2 x1_3) ho φ vs w may ha hM
  · cases h)
theorem eAd_en : Enters Try.prog 152 := fun args => by kernel_rfl
-- 456 2 0 ms

/-! azulejo/vec.each -/
theorem eSu_p (x0_0 x0_1 x0_2 x0_3 x1_0 x1_1 x1_2 x1_3 : Int) : evG Try.prog tabUa3 2000 152 [0, 1, 2, 3, 4, 6, 7, 8, 9, 10] [] [] [.g [.int true .i64 x0_0, .int true .i64 x0_1, .int true .i64 x0_2, .int true .i64 x0_3], .g [.int true .i64 x1_0, .int true .i64 x1_1, .int true .i64 x1_2, .int true .i64 x1_3], .a (.fn 154 [])] [] = some ([], LV.g [At.int true IntKind.i64 (fSu_0 x0_0 x1_0), At.int true IntKind.i64 (fSu_0 x0_1 x1_1), At.int true IntKind.i64 (fSu_0 x0_2 x1_2), At.int true IntKind.i64 (fSu_0 x0_3 x1_3)], []) := by kernel_rfl
def eSu_c : Con
  | [.g [.int true .i64 x0_0, .int true .i64 x0_1, .int true .i64 x0_2, .int true .i64 x0_3], .g [.int true .i64 x1_0, .int true .i64 x1_1, .int true .i64 x1_2, .int true .i64 x1_3], .a (.fn 154 [])], [] => some ([], LV.g [At.int true IntKind.i64 (fSu_0 x0_0 x1_0), At.int true IntKind.i64 (fSu_0 x0_1 x1_1), At.int true IntKind.i64 (fSu_0 x0_2 x1_2), At.int true IntKind.i64 (fSu_0 x0_3 x1_3)], [])
  | _, _ => none
theorem eSu_ok : ConOK Try.prog 152 (normC eSu_c) := normC_ok (by
  intro args bs obs lv out h ho φ vs w may ha hM
  unfold eSu_c at h
  split at h
  · simp only [Option.some.injEq, Prod.mk.injEq] at h
    obtain ⟨rfl, rfl, rfl⟩ := h
    rename_i x0_0 x0_1 x0_2 x0_3 x1_0 x1_1 x1_2 x1_3
    exact evG_ok tabUa3_ok follows _ _ _ _ _ (eSu_p x0_0 x0_1 x0_2 x0_3 x1_0 x1_1 x1_2 x1_3) ho φ vs w may ha hM
  · cases h)
theorem eSu_en : Enters Try.prog 152 := fun args => by kernel_rfl
-- 454 3 0 ms

/-! azulejo/vec.each -/
theorem eMu_p (x0_0 x0_1 x0_2 x0_3 x1_0 x1_1 x1_2 x1_3 : Int) : evG Try.prog tabUa3 2000 152 [0, 1, 2, 3, 4, 6, 7, 8, 9, 10] [] [] [.g [.int true .i64 x0_0, .int true .i64 x0_1, .int true .i64 x0_2, .int true .i64 x0_3], .g [.int true .i64 x1_0, .int true .i64 x1_1, .int true .i64 x1_2, .int true .i64 x1_3], .a (.fn 155 [])] [] = some ([], LV.g [At.int true IntKind.i64 (fMu_0 x0_0 x1_0), At.int true IntKind.i64 (fMu_0 x0_1 x1_1), At.int true IntKind.i64 (fMu_0 x0_2 x1_2), At.int true IntKind.i64 (fMu_0 x0_3 x1_3)], []) := by kernel_rfl
def eMu_c : Con
  | [.g [.int true .i64 x0_0, .int true .i64 x0_1, .int true .i64 x0_2, .int true .i64 x0_3], .g [.int true .i64 x1_0, .int true .i64 x1_1, .int true .i64 x1_2, .int true .i64 x1_3], .a (.fn 155 [])], [] => some ([], LV.g [At.int true IntKind.i64 (fMu_0 x0_0 x1_0), At.int true IntKind.i64 (fMu_0 x0_1 x1_1), At.int true IntKind.i64 (fMu_0 x0_2 x1_2), At.int true IntKind.i64 (fMu_0 x0_3 x1_3)], [])
  | _, _ => none
theorem eMu_ok : ConOK Try.prog 152 (normC eMu_c) := normC_ok (by
  intro args bs obs lv out h ho φ vs w may ha hM
  unfold eMu_c at h
  split at h
  · simp only [Option.some.injEq, Prod.mk.injEq] at h
    obtain ⟨rfl, rfl, rfl⟩ := h
    rename_i x0_0 x0_1 x0_2 x0_3 x1_0 x1_1 x1_2 x1_3
    exact evG_ok tabUa3_ok follows _ _ _ _ _ (eMu_p x0_0 x0_1 x0_2 x0_3 x1_0 x1_1 x1_2 x1_3) ho φ vs w may ha hM
  · cases h)
theorem eMu_en : Enters Try.prog 152 := fun args => by kernel_rfl
-- 456 2 0 ms

/-! azulejo/vec.each -/
theorem eMi_p (x0_0 x0_1 x0_2 x0_3 x1_0 x1_1 x1_2 x1_3 : Int) : evG Try.prog tabUa3 2000 152 [0, 1, 2, 3, 4, 6, 7, 8, 9, 10] [] [] [.g [.int true .i64 x0_0, .int true .i64 x0_1, .int true .i64 x0_2, .int true .i64 x0_3], .g [.int true .i64 x1_0, .int true .i64 x1_1, .int true .i64 x1_2, .int true .i64 x1_3], .a (.fn 156 [])] [] = some ([], LV.g [At.int true IntKind.i64 (vMi1_0 x0_0 x1_0), At.int true IntKind.i64 (vMi1_0 x0_1 x1_1), At.int true IntKind.i64 (vMi1_0 x0_2 x1_2), At.int true IntKind.i64 (vMi1_0 x0_3 x1_3)], []) := by kernel_rfl
def eMi_c : Con
  | [.g [.int true .i64 x0_0, .int true .i64 x0_1, .int true .i64 x0_2, .int true .i64 x0_3], .g [.int true .i64 x1_0, .int true .i64 x1_1, .int true .i64 x1_2, .int true .i64 x1_3], .a (.fn 156 [])], [] => some ([], LV.g [At.int true IntKind.i64 (vMi1_0 x0_0 x1_0), At.int true IntKind.i64 (vMi1_0 x0_1 x1_1), At.int true IntKind.i64 (vMi1_0 x0_2 x1_2), At.int true IntKind.i64 (vMi1_0 x0_3 x1_3)], [])
  | _, _ => none
theorem eMi_ok : ConOK Try.prog 152 (normC eMi_c) := normC_ok (by
  intro args bs obs lv out h ho φ vs w may ha hM
  unfold eMi_c at h
  split at h
  · simp only [Option.some.injEq, Prod.mk.injEq] at h
    obtain ⟨rfl, rfl, rfl⟩ := h
    rename_i x0_0 x0_1 x0_2 x0_3 x1_0 x1_1 x1_2 x1_3
    exact evG_ok tabUa3_ok follows _ _ _ _ _ (eMi_p x0_0 x0_1 x0_2 x0_3 x1_0 x1_1 x1_2 x1_3) ho φ vs w may ha hM
  · cases h)
theorem eMi_en : Enters Try.prog 152 := fun args => by kernel_rfl
-- 465 2 0 ms

/-! azulejo/vec.each -/
theorem eMa_p (x0_0 x0_1 x0_2 x0_3 x1_0 x1_1 x1_2 x1_3 : Int) : evG Try.prog tabUa3 2000 152 [0, 1, 2, 3, 4, 6, 7, 8, 9, 10] [] [] [.g [.int true .i64 x0_0, .int true .i64 x0_1, .int true .i64 x0_2, .int true .i64 x0_3], .g [.int true .i64 x1_0, .int true .i64 x1_1, .int true .i64 x1_2, .int true .i64 x1_3], .a (.fn 157 [])] [] = some ([], LV.g [At.int true IntKind.i64 (vMa1_0 x0_0 x1_0), At.int true IntKind.i64 (vMa1_0 x0_1 x1_1), At.int true IntKind.i64 (vMa1_0 x0_2 x1_2), At.int true IntKind.i64 (vMa1_0 x0_3 x1_3)], []) := by kernel_rfl
def eMa_c : Con
  | [.g [.int true .i64 x0_0, .int true .i64 x0_1, .int true .i64 x0_2, .int true .i64 x0_3], .g [.int true .i64 x1_0, .int true .i64 x1_1, .int true .i64 x1_2, .int true .i64 x1_3], .a (.fn 157 [])], [] => some ([], LV.g [At.int true IntKind.i64 (vMa1_0 x0_0 x1_0), At.int true IntKind.i64 (vMa1_0 x0_1 x1_1), At.int true IntKind.i64 (vMa1_0 x0_2 x1_2), At.int true IntKind.i64 (vMa1_0 x0_3 x1_3)], [])
  | _, _ => none
theorem eMa_ok : ConOK Try.prog 152 (normC eMa_c) := normC_ok (by
  intro args bs obs lv out h ho φ vs w may ha hM
  unfold eMa_c at h
  split at h
  · simp only [Option.some.injEq, Prod.mk.injEq] at h
    obtain ⟨rfl, rfl, rfl⟩ := h
    rename_i x0_0 x0_1 x0_2 x0_3 x1_0 x1_1 x1_2 x1_3
    exact evG_ok tabUa3_ok follows _ _ _ _ _ (eMa_p x0_0 x0_1 x0_2 x0_3 x1_0 x1_1 x1_2 x1_3) ho φ vs w may ha hM
  · cases h)
theorem eMa_en : Enters Try.prog 152 := fun args => by kernel_rfl
-- 294 2 1 ms

/-! azulejo/azulejoref01.Dot -/
def rDo_0 (x0_0 x0_1 x0_2 x0_3 x1_0 x1_1 x1_2 x1_3 : Int) : Int := rAd_0 (rAd_0 (rAd_0 (rMu_0 x0_0 x1_0) (rMu_0 x0_1 x1_1)) (rMu_0 x0_2 x1_2)) (rMu_0 x0_3 x1_3)
theorem rDo_p (x0_0 x0_1 x0_2 x0_3 x1_0 x1_1 x1_2 x1_3 : Int) : evG Try.prog tabUa3 2000 125 [0, 1, 2, 3, 4] [] [] [.g [.int true .i64 x0_0, .int true .i64 x0_1, .int true .i64 x0_2, .int true .i64 x0_3], .g [.int true .i64 x1_0, .int true .i64 x1_1, .int true .i64 x1_2, .int true .i64 x1_3]] [] = some ([], LV.a (At.int true IntKind.i64 (rDo_0 x0_0 x0_1 x0_2 x0_3 x1_0 x1_1 x1_2 x1_3)), []) := by kernel_rfl
def rDo_c : Con
  | [.g [.int true .i64 x0_0, .int true .i64 x0_1, .int true .i64 x0_2, .int true .i64 x0_3], .g [.int true .i64 x1_0, .int true .i64 x1_1, .int true .i64 x1_2, .int true .i64 x1_3]], [] => some ([], LV.a (At.int true IntKind.i64 (rDo_0 x0_0 x0_1 x0_2 x0_3 x1_0 x1_1 x1_2 x1_3)), [])
  | _, _ => none
theorem rDo_ok : ConOK Try.prog 125 (normC rDo_c) := normC_ok (by
  intro args bs obs lv out h ho φ vs w may ha hM
  unfold rDo_c at h
  split at h
  · simp only [Option.some.injEq, Prod.mk.injEq] at h
    obtain ⟨rfl, rfl, rfl⟩ := h
    rename_i x0_0 x0_1 x0_2 x0_3 x1_0 x1_1 x1_2 x1_3
    exact evG_ok tabUa3_ok follows _ _ _ _ _ (rDo_p x0_0 x0_1 x0_2 x0_3 x1_0 x1_1 x1_2 x1_3) ho φ vs w may ha hM
  · cases h)
theorem rDo_en : Enters Try.prog 125 := fun args => by kernel_rfl
-- 248 2 3 ms

/-! azulejo/azulejoref07.number -/
def r7n_0 (x0 x1 x2 : Int) : Int := bif x0 == (3 : Int) then rAd_0 x1 x2 else bif x0 == (4 : Int) then rAd_0 x1 (IntKind.wrap IntKind.i64 ((0 : Int) - x2)) else bif x0 == (5 : Int) then rMu_0 x1 x2 else bif (x0 == (6 : Int)) == decide (x1 < x2) then x1 else x2
theorem r7n_p (x0 x1 x2 : Int) : evG Try.prog tabUa3 2000 126 [0, 1, 2, 6, 8, 13, 19, 28] [] [] [.a (.int true .i64 x0), .a (.int true .i64 x1), .a (.int true .i64 x2)] [] = some ([], LV.a (At.int true IntKind.i64 (r7n_0 x0 x1 x2)), []) := by kernel_rfl
def r7n_c : Con
  | [.a (.int true .i64 x0), .a (.int true .i64 x1), .a (.int true .i64 x2)], [] => some ([], LV.a (At.int true IntKind.i64 (r7n_0 x0 x1 x2)), [])
  | _, _ => none
theorem r7n_ok : ConOK Try.prog 126 (normC r7n_c) := normC_ok (by
  intro args bs obs lv out h ho φ vs w may ha hM
  unfold r7n_c at h
  split at h
  · simp only [Option.some.injEq, Prod.mk.injEq] at h
    obtain ⟨rfl, rfl, rfl⟩ := h
    rename_i x0 x1 x2
    exact evG_ok tabUa3_ok follows _ _ _ _ _ (r7n_p x0 x1 x2) ho φ vs w may ha hM
  · cases h)
theorem r7n_en : Enters Try.prog 126 := fun args => by kernel_rfl
-- 144 34 3 ms

/-! (azulejo/isa.Program).Check -/
noncomputable def pCh_l29_code : Go.Code := loopOf (subs (bodyOf Try.prog 89) 1 29)
structure pCh_l29_T where
  a0 : Bool
  a1 : Int
  a2 : Int
  a3 : Int
  a4 : List (List Int)
  deriving Inhabited
def pCh_l29_hd (v : pCh_l29_T) : HS := HS.mk [(nat_lit 0, LV.a (At.vec (nat_lit 0) (nat_lit 0) (nat_lit 5))), (nat_lit 1, LV.a (At.bool true (pCh_l29_T.a0 v))), (nat_lit 4, LV.a (At.int true IntKind.i64 (pCh_l29_T.a1 v))), (nat_lit 11, LV.a (At.vec (nat_lit 0) (nat_lit 0) (nat_lit 5))), (nat_lit 12, LV.a (At.int true IntKind.i64 (pCh_l29_T.a2 v))), (nat_lit 13, LV.a (At.int true IntKind.i64 (pCh_l29_T.a3 v)))] [BC.mk (Hd.mk (nat_lit 0) (nat_lit 0) true (some (Rw.mk (nat_lit 0) [Kd.int IntKind.u8, Kd.int IntKind.u8, Kd.int IntKind.u8, Kd.int IntKind.u8, Kd.int IntKind.i16] (pCh_l29_T.a4 v) none))) []]
def pCh_l29_s0 (v : pCh_l29_T) : Bool := decide (pCh_l29_T.a3 v < pCh_l29_T.a2 v)
def pCh_l29_s1 (v : pCh_l29_T) : Int := pCk_0 (pCh_l29_T.a3 v) (rget (pCh_l29_T.a4 v) (Int.toNat (pCh_l29_T.a3 v)) (0 : Nat)) (rget (pCh_l29_T.a4 v) (Int.toNat (pCh_l29_T.a3 v)) (1 : Nat)) (rget (pCh_l29_T.a4 v) (Int.toNat (pCh_l29_T.a3 v)) (2 : Nat)) (rget (pCh_l29_T.a4 v) (Int.toNat (pCh_l29_T.a3 v)) (3 : Nat)) (rget (pCh_l29_T.a4 v) (Int.toNat (pCh_l29_T.a3 v)) (4 : Nat)) (pCh_l29_T.a0 v) (pCh_l29_T.a4 v)
def pCh_l29_s2 (v : pCh_l29_T) : Bool := pCh_l29_s1 v != (0 : Int)
def pCh_l29_st (v : pCh_l29_T) : List Prop × List (X × Bool × pCh_l29_T) := ([pCh_l29_s0 v = true → (0 : Int) ≤ pCh_l29_T.a3 v ∧ pCh_l29_T.a3 v < Int.ofNat (List.length (pCh_l29_T.a4 v)), pCh_l29_s0 v = true → lok pWi_l13_st (18446744073709551616 : Nat) (pWi_l13_T.mk (pCh_l29_T.a3 v) (0 : Int) (0 : Int) false (Int.ofNat (List.length (pCh_l29_T.a4 v))) (0 : Int) (pCh_l29_T.a4 v)), pCh_l29_s0 v = true → (!pCk_s0 (rget (pCh_l29_T.a4 v) (Int.toNat (pCh_l29_T.a3 v)) (0 : Nat)) (pCh_l29_T.a0 v) && (!pCk_s2 (rget (pCh_l29_T.a4 v) (Int.toNat (pCh_l29_T.a3 v)) (0 : Nat)) (rget (pCh_l29_T.a4 v) (Int.toNat (pCh_l29_T.a3 v)) (1 : Nat)) (rget (pCh_l29_T.a4 v) (Int.toNat (pCh_l29_T.a3 v)) (2 : Nat)) (rget (pCh_l29_T.a4 v) (Int.toNat (pCh_l29_T.a3 v)) (3 : Nat)) && !pCk_s5 (pCh_l29_T.a3 v) (rget (pCh_l29_T.a4 v) (Int.toNat (pCh_l29_T.a3 v)) (0 : Nat)) (rget (pCh_l29_T.a4 v) (Int.toNat (pCh_l29_T.a3 v)) (3 : Nat)) (rget (pCh_l29_T.a4 v) (Int.toNat (pCh_l29_T.a3 v)) (4 : Nat)) (pCh_l29_T.a4 v))) = true → (!rget (pCh_l29_T.a4 v) (Int.toNat (pCh_l29_T.a3 v)) (0 : Nat) != (11 : Int)) = true → (!pCk_s7 (pCh_l29_T.a3 v) (rget (pCh_l29_T.a4 v) (Int.toNat (pCh_l29_T.a3 v)) (4 : Nat)) (pCh_l29_T.a4 v)) = true → lok pWi_l13_st (18446744073709551616 : Nat) (pWi_l13_T.mk (pCk_s6 (pCh_l29_T.a3 v) (rget (pCh_l29_T.a4 v) (Int.toNat (pCh_l29_T.a3 v)) (4 : Nat))) (0 : Int) (0 : Int) false (Int.ofNat (List.length (pCh_l29_T.a4 v))) (0 : Int) (pCh_l29_T.a4 v))], [(X.e (0 : Nat), !pCh_l29_s0 v, pCh_l29_T.mk (pCh_l29_T.a0 v) (pCh_l29_T.a1 v) (pCh_l29_T.a2 v) (pCh_l29_T.a3 v) (pCh_l29_T.a4 v)), (X.r, pCh_l29_s0 v && pCh_l29_s2 v, pCh_l29_T.mk (pCh_l29_T.a0 v) (pCh_l29_s1 v) (pCh_l29_T.a2 v) (pCh_l29_T.a3 v) (pCh_l29_T.a4 v)), (X.n, pCh_l29_s0 v && !pCh_l29_s2 v, pCh_l29_T.mk (pCh_l29_T.a0 v) (pCh_l29_T.a1 v) (pCh_l29_T.a2 v) (IntKind.wrap IntKind.i64 (pCh_l29_T.a3 v + (1 : Int))) (pCh_l29_T.a4 v))])
def pCh_l29_rd : HS → Option pCh_l29_T := rdS [.b, .i, .i, .i, .r] (fun l => pCh_l29_T.mk (gB l 0) (gI l 1) (gI l 2) (gI l 3) (gR l 4)) pCh_l29_hd
def pCh_l29_sum : V.Sum := loopS pCh_l29_hd pCh_l29_rd pCh_l29_st 18446744073709551616 [X.e (0 : Nat), X.r] [0, 1, 4, 5, 6, 7, 10, 11, 12, 13, 14, 24, 29] [0, 1, 4, 11, 12, 13] [] [] [] 0
theorem pCh_l29_E : ∀ v, bodyF Try.prog tabUa3 (ntOf Try.prog 89) [0, 1, 4, 5, 6, 7, 10, 11, 12, 13, 14, 24, 29] [0, 1, 4, 11, 12, 13] [] 2000 [] [] pCh_l29_code 116 (pCh_l29_hd v) = some ((pCh_l29_st v).1, (pCh_l29_st v).2.map fun q => (q.1, q.2.1, pCh_l29_hd q.2.2)) := fun v => by kernel_rfl
theorem pCh_l29_R : ∀ h v, pCh_l29_rd h = some v → h = pCh_l29_hd v := rdS_ok fun l => by kernel_rfl
set_option maxRecDepth 100000 in
theorem pCh_l29_sok : SumOK Try.prog (ntOf Try.prog 89) [0, 1, 4, 5, 6, 7, 10, 11, 12, 13, 14, 24, 29] (.block (blockOf (subs (bodyOf Try.prog 89) 1 29)) (.loop pCh_l29_code)) pCh_l29_sum := loopS_ok tabUa3_ok follows pCh_l29_E pCh_l29_R (fun v => by kernel_rfl) (LOK_of _ _ (LOK_nil'))
def pCh_s0 (p : List (List Int)) : Bool := decide ((24 : Int) < Int.ofNat (List.length p))
def pCh_s1 (x1 : Bool) (p : List (List Int)) : Option (X × pCh_l29_T) := lrun pCh_l29_st (18446744073709551616 : Nat) (pCh_l29_T.mk x1 (0 : Int) (Int.ofNat (List.length p)) (0 : Int) p)
def pCh_0 (x1 : Bool) (p : List (List Int)) : Int := bif pCh_s0 p then (7 : Int) else bif isX X.r (pCh_s1 x1 p) then pCh_l29_T.a1 (V.valOf (pCh_s1 x1 p)) else bif decide ((200 : Int) < pFu_0 p) then (6 : Int) else (0 : Int)
def pCh_o (x1 r0 : Bool) (p : List (List Int)) : List Prop := [(!pCh_s0 p) = true → lok pCh_l29_st (18446744073709551616 : Nat) (pCh_l29_T.mk x1 (0 : Int) (Int.ofNat (List.length p)) (0 : Int) p), (!pCh_s0 p) = true → isX (X.e (0 : Nat)) (pCh_s1 x1 p) = true → lok pFu_l29_st (18446744073709551616 : Nat) (pFu_l29_T.mk (0 : Int) (Int.ofNat (List.length p)) (Int.ofNat (List.length p)) (0 : Int) p)]
theorem pCh_p (x1 r0 : Bool) (p : List (List Int)) : evG Try.prog tabUa3 2000 89 [0, 1, 4, 5, 6, 7, 10, 11, 12, 13, 14, 24, 29] [(29, pCh_l29_sum)] [] [.a (.vec 0 0 5), .a (.bool true x1)] [⟨⟨0, 0, r0, some ⟨0, [.int .u8, .int .u8, .int .u8, .int .u8, .int .i16], p, none⟩⟩, []⟩] = some (pCh_o x1 r0 p, LV.a (At.int true IntKind.i64 (pCh_0 x1 p)), [none]) := by kernel_rfl
def pCh_c : Con
  | [.a (.vec 0 0 5), .a (.bool true x1)], [⟨⟨0, 0, r0, some ⟨0, [.int .u8, .int .u8, .int .u8, .int .u8, .int .i16], p, none⟩⟩, []⟩] => some (pCh_o x1 r0 p, LV.a (At.int true IntKind.i64 (pCh_0 x1 p)), [none])
  | _, _ => none
theorem pCh_ok : ConOK Try.prog 89 (normC pCh_c) := normC_ok (by
  intro args bs obs lv out h ho φ vs w may ha hM
  unfold pCh_c at h
  split at h
  · simp only [Option.some.injEq, Prod.mk.injEq] at h
    obtain ⟨rfl, rfl, rfl⟩ := h
    rename_i x1 r0 p
    exact evG_okL' tabUa3_ok follows (LOK_cons (show subs (bodyOf Try.prog 89) 1 29 = [.block (blockOf (subs (bodyOf Try.prog 89) 1 29)) (.loop pCh_l29_code)] from by kernel_rfl) pCh_l29_sok (LOK_nil')) _ _ _ _ _ (pCh_p x1 r0 p) ho φ vs w may ha hM
  · cases h)
theorem pCh_en : Enters Try.prog 89 := fun args => by kernel_rfl
-- 1329 100 8 ms

/-! (azulejo/isa.Program).Check -/
def pChN_0 : Int := (0 : Int)
theorem pChN_p (x1 : Bool) : evG Try.prog tabUa3 2000 89 [0, 1, 4, 5, 6, 7, 10, 11, 12, 13, 14, 24, 29] [] [] [.a .nils, .a (.bool true x1)] [] = some ([], LV.a (At.int false IntKind.i64 pChN_0), []) := by kernel_rfl
def pChN_c : Con
  | [.a .nils, .a (.bool true x1)], [] => some ([], LV.a (At.int false IntKind.i64 pChN_0), [])
  | _, _ => none
theorem pChN_ok : ConOK Try.prog 89 (normC pChN_c) := normC_ok (by
  intro args bs obs lv out h ho φ vs w may ha hM
  unfold pChN_c at h
  split at h
  · simp only [Option.some.injEq, Prod.mk.injEq] at h
    obtain ⟨rfl, rfl, rfl⟩ := h
    rename_i x1
    exact evG_ok tabUa3_ok follows _ _ _ _ _ (pChN_p x1) ho φ vs w may ha hM
  · cases h)
theorem pChN_en : Enters Try.prog 89 := fun args => by kernel_rfl
-- 89 1 2 ms

def tabUa4 : Tab := (152, normC eAd_c) :: (152, normC eSu_c) :: (152, normC eMu_c) :: (152, normC eMi_c) :: (152, normC eMa_c) :: (125, normC rDo_c) :: (126, normC r7n_c) :: (89, normC pCh_c) :: (89, normC pChN_c) :: tabUa3
theorem tabUa4_ok : TOK Try.prog tabUa4 := TOK.cons eAd_en eAd_ok (TOK.cons eSu_en eSu_ok (TOK.cons eMu_en eMu_ok (TOK.cons eMi_en eMi_ok (TOK.cons eMa_en eMa_ok (TOK.cons rDo_en rDo_ok (TOK.cons r7n_en r7n_ok (TOK.cons pCh_en pCh_ok (TOK.cons pChN_en pChN_ok (tabUa3_ok)))))))))

end Go.Proofs.Ytcdejlgophpdjaa
end

section
namespace Go.Proofs.Ytcdejlgophpdjaa
open Go Go.RowKit Go.Proofs.Ytcdejlgophpdjaa.V
set_option linter.unusedVariables false

/-! (azulejo/vec.Vec).Add -/
theorem vAd_p (x0_0 x0_1 x0_2 x0_3 x1_0 x1_1 x1_2 x1_3 : Int) : evG Try.prog tabUa4 2000 143 [0, 1, 2, 3, 4] [] [] [.g [.int true .i64 x0_0, .int true .i64 x0_1, .int true .i64 x0_2, .int true .i64 x0_3], .g [.int true .i64 x1_0, .int true .i64 x1_1, .int true .i64 x1_2, .int true .i64 x1_3]] [] = some ([], LV.g [At.int true IntKind.i64 (fAd_0 x0_0 x1_0), At.int true IntKind.i64 (fAd_0 x0_1 x1_1), At.int true IntKind.i64 (fAd_0 x0_2 x1_2), At.int true IntKind.i64 (fAd_0 x0_3 x1_3)], []) := by kernel_rfl
def vAd_c : Con
  | [.g [.int true .i64 x0_0, .int true .i64 x0_1, .int true .i64 x0_2, .int true .i64 x0_3], .g [.int true .i64 x1_0, .int true .i64 x1_1, .int true .i64 x1_2, .int true .i64 x1_3]], [] => some ([], LV.g [At.int true IntKind.i64 (fAd_0 x0_0 x1_0), At.int true IntKind.i64 (fAd_0 x0_1 x1_1), At.int true IntKind.i64 (fAd_0 x0_2 x1_2), At.int true IntKind.i64 (fAd_0 x0_3 x1_3)], [])
  | _, _ => none
theorem vAd_ok : ConOK Try.prog 143 (normC vAd_c) := normC_ok (by
  intro args bs obs lv out h ho φ vs w may ha hM
  unfold vAd_c at h
  split at h
  · simp only [Option.some.injEq, Prod.mk.injEq] at h
    obtain ⟨rfl, rfl, rfl⟩ := h
    rename_i x0_0 x0_1 x0_2 x0_3 x1_0 x1_1 x1_2 x1_3
    exact evG_ok tabUa4_ok follows _ _ _ _ _ (vAd_p x0_0 x0_1 x0_2 x0_3 x1_0 x1_1 x1_2 x1_3) ho φ vs w may ha hM
  · cases h)
theorem vAd_en : Enters Try.prog 143 := fun args => by kernel_rfl
-- 113 2 0 ms

/-! (azulejo/vec.Vec).Sub -/
theorem vSu_p (x0_0 x0_1 x0_2 x0_3 x1_0 x1_1 x1_2 x1_3 : Int) : evG Try.prog tabUa4 2000 144 [0, 1, 2, 3, 4] [] [] [.g [.int true .i64 x0_0, .int true .i64 x0_1, .int true .i64 x0_2, .int true .i64 x0_3], .g [.int true .i64 x1_0, .int true .i64 x1_1, .int true .i64 x1_2, .int true .i64 x1_3]] [] = some ([], LV.g [At.int true IntKind.i64 (fSu_0 x0_0 x1_0), At.int true IntKind.i64 (fSu_0 x0_1 x1_1), At.int true IntKind.i64 (fSu_0 x0_2 x1_2), At.int true IntKind.i64 (fSu_0 x0_3 x1_3)], []) := by kernel_rfl
def vSu_c : Con
  | [.g [.int true .i64 x0_0, .int true .i64 x0_1, .int true .i64 x0_2, .int true .i64 x0_3], .g [.int true .i64 x1_0, .int true .i64 x1_1, .int true .i64 x1_2, .int true .i64 x1_3]], [] => some ([], LV.g [At.int true IntKind.i64 (fSu_0 x0_0 x1_0), At.int true IntKind.i64 (fSu_0 x0_1 x1_1), At.int true IntKind.i64 (fSu_0 x0_2 x1_2), At.int true IntKind.i64 (fSu_0 x0_3 x1_3)], [])
  | _, _ => none
theorem vSu_ok : ConOK Try.prog 144 (normC vSu_c) := normC_ok (by
  intro args bs obs lv out h ho φ vs w may ha hM
  unfold vSu_c at h
  split at h
  · simp only [Option.some.injEq, Prod.mk.injEq] at h
    obtain ⟨rfl, rfl, rfl⟩ := h
    rename_i x0_0 x0_1 x0_2 x0_3 x1_0 x1_1 x1_2 x1_3
    exact evG_ok tabUa4_ok follows _ _ _ _ _ (vSu_p x0_0 x0_1 x0_2 x0_3 x1_0 x1_1 x1_2 x1_3) ho φ vs w may ha hM
  · cases h)
theorem vSu_en : Enters Try.prog 144 := fun args => by kernel_rfl
-- 115 2 0 ms

/-! (azulejo/vec.Vec).Mul -/
theorem vMu_p (x0_0 x0_1 x0_2 x0_3 x1_0 x1_1 x1_2 x1_3 : Int) : evG Try.prog tabUa4 2000 145 [0, 1, 2, 3, 4] [] [] [.g [.int true .i64 x0_0, .int true .i64 x0_1, .int true .i64 x0_2, .int true .i64 x0_3], .g [.int true .i64 x1_0, .int true .i64 x1_1, .int true .i64 x1_2, .int true .i64 x1_3]] [] = some ([], LV.g [At.int true IntKind.i64 (fMu_0 x0_0 x1_0), At.int true IntKind.i64 (fMu_0 x0_1 x1_1), At.int true IntKind.i64 (fMu_0 x0_2 x1_2), At.int true IntKind.i64 (fMu_0 x0_3 x1_3)], []) := by kernel_rfl
def vMu_c : Con
  | [.g [.int true .i64 x0_0, .int true .i64 x0_1, .int true .i64 x0_2, .int true .i64 x0_3], .g [.int true .i64 x1_0, .int true .i64 x1_1, .int true .i64 x1_2, .int true .i64 x1_3]], [] => some ([], LV.g [At.int true IntKind.i64 (fMu_0 x0_0 x1_0), At.int true IntKind.i64 (fMu_0 x0_1 x1_1), At.int true IntKind.i64 (fMu_0 x0_2 x1_2), At.int true IntKind.i64 (fMu_0 x0_3 x1_3)], [])
  | _, _ => none
theorem vMu_ok : ConOK Try.prog 145 (normC vMu_c) := normC_ok (by
  intro args bs obs lv out h ho φ vs w may ha hM
  unfold vMu_c at h
  split at h
  · simp only [Option.some.injEq, Prod.mk.injEq] at h
    obtain ⟨rfl, rfl, rfl⟩ := h
    rename_i x0_0 x0_1 x0_2 x0_3 x1_0 x1_1 x1_2 x1_3
    exact evG_ok tabUa4_ok follows _ _ _ _ _ (vMu_p x0_0 x0_1 x0_2 x0_3 x1_0 x1_1 x1_2 x1_3) ho φ vs w may ha hM
  · cases h)
theorem vMu_en : Enters Try.prog 145 := fun args => by kernel_rfl
-- 106 2 0 ms

/-! (azulejo/vec.Vec).Min -/
theorem vMi_p (x0_0 x0_1 x0_2 x0_3 x1_0 x1_1 x1_2 x1_3 : Int) : evG Try.prog tabUa4 2000 146 [0, 1, 2, 3, 4] [] [] [.g [.int true .i64 x0_0, .int true .i64 x0_1, .int true .i64 x0_2, .int true .i64 x0_3], .g [.int true .i64 x1_0, .int true .i64 x1_1, .int true .i64 x1_2, .int true .i64 x1_3]] [] = some ([], LV.g [At.int true IntKind.i64 (vMi1_0 x0_0 x1_0), At.int true IntKind.i64 (vMi1_0 x0_1 x1_1), At.int true IntKind.i64 (vMi1_0 x0_2 x1_2), At.int true IntKind.i64 (vMi1_0 x0_3 x1_3)], []) := by kernel_rfl
def vMi_c : Con
  | [.g [.int true .i64 x0_0, .int true .i64 x0_1, .int true .i64 x0_2, .int true .i64 x0_3], .g [.int true .i64 x1_0, .int true .i64 x1_1, .int true .i64 x1_2, .int true .i64 x1_3]], [] => some ([], LV.g [At.int true IntKind.i64 (vMi1_0 x0_0 x1_0), At.int true IntKind.i64 (vMi1_0 x0_1 x1_1), At.int true IntKind.i64 (vMi1_0 x0_2 x1_2), At.int true IntKind.i64 (vMi1_0 x0_3 x1_3)], [])
  | _, _ => none
theorem vMi_ok : ConOK Try.prog 146 (normC vMi_c) := normC_ok (by
  intro args bs obs lv out h ho φ vs w may ha hM
  unfold vMi_c at h
  split at h
  · simp only [Option.some.injEq, Prod.mk.injEq] at h
    obtain ⟨rfl, rfl, rfl⟩ := h
    rename_i x0_0 x0_1 x0_2 x0_3 x1_0 x1_1 x1_2 x1_3
    exact evG_ok tabUa4_ok follows _ _ _ _ _ (vMi_p x0_0 x0_1 x0_2 x0_3 x1_0 x1_1 x1_2 x1_3) ho φ vs w may ha hM
  · cases h)
theorem vMi_en : Enters Try.prog 146 := fun args => by kernel_rfl
-- 76 2 0 ms

/-! (azulejo/vec.Vec).Max -/
theorem vMa_p (x0_0 x0_1 x0_2 x0_3 x1_0 x1_1 x1_2 x1_3 : Int) : evG Try.prog tabUa4 2000 147 [0, 1, 2, 3, 4] [] [] [.g [.int true .i64 x0_0, .int true .i64 x0_1, .int true .i64 x0_2, .int true .i64 x0_3], .g [.int true .i64 x1_0, .int true .i64 x1_1, .int true .i64 x1_2, .int true .i64 x1_3]] [] = some ([], LV.g [At.int true IntKind.i64 (vMa1_0 x0_0 x1_0), At.int true IntKind.i64 (vMa1_0 x0_1 x1_1), At.int true IntKind.i64 (vMa1_0 x0_2 x1_2), At.int true IntKind.i64 (vMa1_0 x0_3 x1_3)], []) := by kernel_rfl
def vMa_c : Con
  | [.g [.int true .i64 x0_0, .int true .i64 x0_1, .int true .i64 x0_2, .int true .i64 x0_3], .g [.int true .i64 x1_0, .int true .i64 x1_1, .int true .i64 x1_2, .int true .i64 x1_3]], [] => some ([], LV.g [At.int true IntKind.i64 (vMa1_0 x0_0 x1_0), At.int true IntKind.i64 (vMa1_0 x0_1 x1_1), At.int true IntKind.i64 (vMa1_0 x0_2 x1_2), At.int true IntKind.i64 (vMa1_0 x0_3 x1_3)], [])
  | _, _ => none
theorem vMa_ok : ConOK Try.prog 147 (normC vMa_c) := normC_ok (by
  intro args bs obs lv out h ho φ vs w may ha hM
  unfold vMa_c at h
  split at h
  · simp only [Option.some.injEq, Prod.mk.injEq] at h
    obtain ⟨rfl, rfl, rfl⟩ := h
    rename_i x0_0 x0_1 x0_2 x0_3 x1_0 x1_1 x1_2 x1_3
    exact evG_ok tabUa4_ok follows _ _ _ _ _ (vMa_p x0_0 x0_1 x0_2 x0_3 x1_0 x1_1 x1_2 x1_3) ho φ vs w may ha hM
  · cases h)
theorem vMa_en : Enters Try.prog 147 := fun args => by kernel_rfl
-- 78 2 0 ms

def tabUa5 : Tab := (143, normC vAd_c) :: (144, normC vSu_c) :: (145, normC vMu_c) :: (146, normC vMi_c) :: (147, normC vMa_c) :: tabUa4
theorem tabUa5_ok : TOK Try.prog tabUa5 := TOK.cons vAd_en vAd_ok (TOK.cons vSu_en vSu_ok (TOK.cons vMu_en vMu_ok (TOK.cons vMi_en vMi_ok (TOK.cons vMa_en vMa_ok (tabUa4_ok)))))

end Go.Proofs.Ytcdejlgophpdjaa
end

section
namespace Go.Proofs.Ytcdejlgophpdjaa
open Go Go.RowKit Go.Proofs.Ytcdejlgophpdjaa.V
set_option linter.unusedVariables false

/-! (azulejo/vec.Vec).Dot -/
def vDo_0 (x0_0 x0_1 x0_2 x0_3 x1_0 x1_1 x1_2 x1_3 : Int) : Int := fAd_0 (fAd_0 (fAd_0 (fAd_0 (0 : Int) (fMu_0 x0_0 x1_0)) (fMu_0 x0_1 x1_1)) (fMu_0 x0_2 x1_2)) (fMu_0 x0_3 x1_3)
theorem vDo_p (x0_0 x0_1 x0_2 x0_3 x1_0 x1_1 x1_2 x1_3 : Int) : evG Try.prog tabUa5 2000 148 [0, 1, 2, 3, 4, 5, 7, 10, 11, 12] [] [] [.g [.int true .i64 x0_0, .int true .i64 x0_1, .int true .i64 x0_2, .int true .i64 x0_3], .g [.int true .i64 x1_0, .int true .i64 x1_1, .int true .i64 x1_2, .int true .i64 x1_3]] [] = some ([], LV.a (At.int true IntKind.i64 (vDo_0 x0_0 x0_1 x0_2 x0_3 x1_0 x1_1 x1_2 x1_3)), []) := by kernel_rfl
def vDo_c : Con
  | [.g [.int true .i64 x0_0, .int true .i64 x0_1, .int true .i64 x0_2, .int true .i64 x0_3], .g [.int true .i64 x1_0, .int true .i64 x1_1, .int true .i64 x1_2, .int true .i64 x1_3]], [] => some ([], LV.a (At.int true IntKind.i64 (vDo_0 x0_0 x0_1 x0_2 x0_3 x1_0 x1_1 x1_2 x1_3)), [])
  | _, _ => none
theorem vDo_ok : ConOK Try.prog 148 (normC vDo_c) := normC_ok (by
  intro args bs obs lv out h ho φ vs w may ha hM
  unfold vDo_c at h
  split at h
  · simp only [Option.some.injEq, Prod.mk.injEq] at h
    obtain ⟨rfl, rfl, rfl⟩ := h
    rename_i x0_0 x0_1 x0_2 x0_3 x1_0 x1_1 x1_2 x1_3
    exact evG_ok tabUa5_ok follows _ _ _ _ _ (vDo_p x0_0 x0_1 x0_2 x0_3 x1_0 x1_1 x1_2 x1_3) ho φ vs w may ha hM
  · cases h)
theorem vDo_en : Enters Try.prog 148 := fun args => by kernel_rfl
-- 237 1 3 ms

def tabUa6 : Tab := (148, normC vDo_c) :: tabUa5
theorem tabUa6_ok : TOK Try.prog tabUa6 := TOK.cons vDo_en vDo_ok (tabUa5_ok)

end Go.Proofs.Ytcdejlgophpdjaa
end

section
namespace Go.Proofs.Ytcdejlgophpdjaa
open Go Go.RowKit Go.Proofs.Ytcdejlgophpdjaa.V
set_option linter.unusedVariables false

/-! (azulejo/vec.Mat).Times -/
def vTi_0 (x0_0 x0_1 x0_2 x0_3 x1_0 x1_1 x1_2 x1_3 : Int) : Int := vDo_0 x0_0 x0_1 x0_2 x0_3 x1_0 x1_1 x1_2 x1_3
def vTi_1 (x0_4 x0_5 x0_6 x0_7 x1_0 x1_1 x1_2 x1_3 : Int) : Int := vDo_0 x0_4 x0_5 x0_6 x0_7 x1_0 x1_1 x1_2 x1_3
def vTi_2 (x0_8 x0_9 x0_10 x0_11 x1_0 x1_1 x1_2 x1_3 : Int) : Int := vDo_0 x0_8 x0_9 x0_10 x0_11 x1_0 x1_1 x1_2 x1_3
def vTi_3 (x0_12 x0_13 x0_14 x0_15 x1_0 x1_1 x1_2 x1_3 : Int) : Int := vDo_0 x0_12 x0_13 x0_14 x0_15 x1_0 x1_1 x1_2 x1_3
theorem vTi_p (x0_0 x0_1 x0_2 x0_3 x0_4 x0_5 x0_6 x0_7 x0_8 x0_9 x0_10 x0_11 x0_12 x0_13 x0_14 x0_15 x1_0 x1_1 x1_2 x1_3 : Int) : evG Try.prog tabUa6 2000 150 [0, 1, 2, 3, 4] [] [] [.g [.int true .i64 x0_0, .int true .i64 x0_1, .int true .i64 x0_2, .int true .i64 x0_3, .int true .i64 x0_4, .int true .i64 x0_5, .int true .i64 x0_6, .int true .i64 x0_7, .int true .i64 x0_8, .int true .i64 x0_9, .int true .i64 x0_10, .int true .i64 x0_11, .int true .i64 x0_12, .int true .i64 x0_13, .int true .i64 x0_14, .int true .i64 x0_15], .g [.int true .i64 x1_0, .int true .i64 x1_1, .int true .i64 x1_2, .int true .i64 x1_3]] [] = some ([], LV.g [At.int true IntKind.i64 (vTi_0 x0_0 x0_1 x0_2 x0_3 x1_0 x1_1 x1_2 x1_3), At.int true IntKind.i64 (vTi_1 x0_4 x0_5 x0_6 x0_7 x1_0 x1_1 x1_2 x1_3), At.int true IntKind.i64 (vTi_2 x0_8 x0_9 x0_10 x0_11 x1_0 x1_1 x1_2 x1_3), At.int true IntKind.i64 (vTi_3 x0_12 x0_13 x0_14 x0_15 x1_0 x1_1 x1_2 x1_3)], []) := by kernel_rfl
def vTi_c : Con
  | [.g [.int true .i64 x0_0, .int true .i64 x0_1, .int true .i64 x0_2, .int true .i64 x0_3, .int true .i64 x0_4, .int true .i64 x0_5, .int true .i64 x0_6, .int true .i64 x0_7, .int true .i64 x0_8, .int true .i64 x0_9, .int true .i64 x0_10, .int true .i64 x0_11, .int true .i64 x0_12, .int true .i64 x0_13, .int true .i64 x0_14, .int true .i64 x0_15], .g [.int true .i64 x1_0, .int true .i64 x1_1, .int true .i64 x1_2, .int true .i64 x1_3]], [] => some ([], LV.g [At.int true IntKind.i64 (vTi_0 x0_0 x0_1 x0_2 x0_3 x1_0 x1_1 x1_2 x1_3), At.int true IntKind.i64 (vTi_1 x0_4 x0_5 x0_6 x0_7 x1_0 x1_1 x1_2 x1_3), At.int true IntKind.i64 (vTi_2 x0_8 x0_9 x0_10 x0_11 x1_0 x1_1 x1_2 x1_3), At.int true IntKind.i64 (vTi_3 x0_12 x0_13 x0_14 x0_15 x1_0 x1_1 x1_2 x1_3)], [])
  | _, _ => none
theorem vTi_ok : ConOK Try.prog 150 (normC vTi_c) := normC_ok (by
  intro args bs obs lv out h ho φ vs w may ha hM
  unfold vTi_c at h
  split at h
  · simp only [Option.some.injEq, Prod.mk.injEq] at h
    obtain ⟨rfl, rfl, rfl⟩ := h
    rename_i x0_0 x0_1 x0_2 x0_3 x0_4 x0_5 x0_6 x0_7 x0_8 x0_9 x0_10 x0_11 x0_12 x0_13 x0_14 x0_15 x1_0 x1_1 x1_2 x1_3
    exact evG_ok tabUa6_ok follows _ _ _ _ _ (vTi_p x0_0 x0_1 x0_2 x0_3 x0_4 x0_5 x0_6 x0_7 x0_8 x0_9 x0_10 x0_11 x0_12 x0_13 x0_14 x0_15 x1_0 x1_1 x1_2 x1_3) ho φ vs w may ha hM
  · cases h)
theorem vTi_en : Enters Try.prog 150 := fun args => by kernel_rfl
-- 220 2 6 ms

def tabUa7 : Tab := (150, normC vTi_c) :: tabUa6
theorem tabUa7_ok : TOK Try.prog tabUa7 := TOK.cons vTi_en vTi_ok (tabUa6_ok)

end Go.Proofs.Ytcdejlgophpdjaa
end

section
namespace Go.Proofs.Ytcdejlgophpdjaa
open Go Go.RowKit Go.Proofs.Ytcdejlgophpdjaa.V

def dumL_c : Con
  | [.a (.ptr _ _), .a (.int _ .i64 _), .a (.int _ .i64 _)], [_, _] => some ([False], .t [.a (.int true .i64 0), .a (.bool true false)], [none, none])
  | _, _ => none
theorem dumL_ok : ConOK Try.prog 149 (normC dumL_c) := normC_ok (by
  intro args bs obs lv out h ho φ vs w may ha hM
  unfold dumL_c at h
  split at h
  · simp only [Option.some.injEq, Prod.mk.injEq] at h
    obtain ⟨rfl, rfl, rfl⟩ := h
    exact ho.1.elim
  · cases h)
theorem dumL_en : Enters Try.prog 149 := fun args => by kernel_rfl
def dumR_c : Con
  | [.a (.vec _ _ _), .a (.ptr _ _), .a (.int _ .i64 _), .a (.int _ .i64 _)], [_, _] => some ([False], .t [], [none, none])
  | _, _ => none
theorem dumR_ok : ConOK Try.prog 85 (normC dumR_c) := normC_ok (by
  intro args bs obs lv out h ho φ vs w may ha hM
  unfold dumR_c at h
  split at h
  · simp only [Option.some.injEq, Prod.mk.injEq] at h
    obtain ⟨rfl, rfl, rfl⟩ := h
    exact ho.1.elim
  · cases h)
theorem dumR_en : Enters Try.prog 85 := fun args => by kernel_rfl
def tabUb0 : Tab := (149, normC dumL_c) :: (85, normC dumR_c) :: tabUa7
theorem tabUb0_ok : TOK Try.prog tabUb0 := TOK.cons dumL_en dumL_ok (TOK.cons dumR_en dumR_ok tabUa7_ok)

end Go.Proofs.Ytcdejlgophpdjaa
end

section
namespace Go.Proofs.Ytcdejlgophpdjaa
open Go Go.RowKit Go.Proofs.Ytcdejlgophpdjaa.V
set_option linter.unusedVariables false

/-! (*azulejo/vm.machine).step -/
def vSt1_s0 (x1 : Int) (p : List (List Int)) : Bool := rget p (Int.toNat x1) (0 : Nat) == (0 : Int)
def vSt1_s1 (x1 : Int) (p : List (List Int)) : Bool := rget p (Int.toNat x1) (0 : Nat) == (1 : Int)
def vSt1_s2 (x1 : Int) (p : List (List Int)) : Bool := rget p (Int.toNat x1) (0 : Nat) == (2 : Int)
def vSt1_s3 (x1 : Int) (p : List (List Int)) : Bool := rget p (Int.toNat x1) (0 : Nat) == (3 : Int)
def vSt1_s4 (x1 : Int) (p : List (List Int)) : Bool := rget p (Int.toNat x1) (0 : Nat) == (4 : Int)
def vSt1_s5 (x1 : Int) (p : List (List Int)) : Bool := rget p (Int.toNat x1) (0 : Nat) == (5 : Int)
def vSt1_s6 (x1 : Int) (p : List (List Int)) : Bool := rget p (Int.toNat x1) (0 : Nat) == (6 : Int)
def vSt1_s7 (x1 : Int) (p : List (List Int)) : Bool := rget p (Int.toNat x1) (0 : Nat) == (7 : Int)
def vSt1_s8 (x1 : Int) (p : List (List Int)) : Bool := rget p (Int.toNat x1) (0 : Nat) == (8 : Int)
def vSt1_s9 (x1 : Int) (p : List (List Int)) : Bool := rget p (Int.toNat x1) (0 : Nat) == (9 : Int)
def vSt1_s10 (x1 : Int) (p : List (List Int)) : Bool := rget p (Int.toNat x1) (0 : Nat) == (10 : Int)
def vSt1_s11 (x1 : Int) (p : List (List Int)) : Bool := rget p (Int.toNat x1) (0 : Nat) == (11 : Int)
def vSt1_s12 (x1 : Int) (g p : List (List Int)) : Int := rget g (Int.toNat (rget p (Int.toNat x1) (2 : Nat))) (0 : Nat)
def vSt1_s13 (p : List (List Int)) : List (List Int) := Rw.l (Rw.mk (0 : Nat) [Kd.int IntKind.u8, Kd.int IntKind.u8, Kd.int IntKind.u8, Kd.int IntKind.u8, Kd.int IntKind.i16] p none)
def vSt1_s14 : Nat := (0 : Nat) + (1 : Nat) + (1 : Nat)
def vSt1_s15 (x1 : Int) (g p : List (List Int)) : Bool := decide (vSt1_s12 x1 g p < (0 : Int))
def vSt1_s16 (x1 : Int) (p : List (List Int)) : Bool := rget p (Int.toNat x1) (0 : Nat) == (12 : Int)
def vSt1_s17 (x1 : Int) (p : List (List Int)) : Bool := rget p (Int.toNat x1) (0 : Nat) == (13 : Int)
def vSt1_s18 (x1 : Int) (g p : List (List Int)) : Bool := bif vSt1_s0 x1 p then true else !vSt1_s1 x1 p && (!vSt1_s2 x1 p && (!vSt1_s3 x1 p && (!vSt1_s4 x1 p && (!vSt1_s5 x1 p && (!vSt1_s6 x1 p && (!vSt1_s7 x1 p && (!vSt1_s8 x1 p && (!vSt1_s9 x1 p && (!vSt1_s10 x1 p && bif vSt1_s11 x1 p then vSt1_s15 x1 g p else bif vSt1_s16 x1 p then true else vSt1_s17 x1 p && vSt1_s15 x1 g p)))))))))
def vSt1_s19 (x1 : Int) : Int := IntKind.wrap IntKind.i64 (x1 + (1 : Int))
def vSt1_0 (x1 : Int) (g p : List (List Int)) : Int := bif vSt1_s18 x1 g p then bif vSt1_s0 x1 p then (0 : Int) else bif vSt1_s11 x1 p then IntKind.wrap IntKind.i64 (vSt1_s19 x1 + IntKind.wrap IntKind.i64 (rget p (Int.toNat x1) (4 : Nat))) else bif vSt1_s16 x1 p then (0 : Int) else (0 : Int) else vSt1_s19 x1
def vSt1_1 (x1 : Int) (g p : List (List Int)) : Bool := bif vSt1_s18 x1 g p then bif vSt1_s0 x1 p then false else bif vSt1_s11 x1 p then true else bif vSt1_s16 x1 p then false else false else true
def vSt1_s20 (x1 : Int) (g p : List (List Int)) : Int := rget g (Int.toNat (rget p (Int.toNat x1) (2 : Nat))) (1 : Nat)
def vSt1_s21 (x1 : Int) (g p : List (List Int)) : Int := rget g (Int.toNat (rget p (Int.toNat x1) (2 : Nat))) (2 : Nat)
def vSt1_s22 (x1 : Int) (g p : List (List Int)) : Int := rget g (Int.toNat (rget p (Int.toNat x1) (2 : Nat))) (3 : Nat)
def vSt1_s23 (x1 : Int) (g p : List (List Int)) : List Int := [vSt1_s12 x1 g p, vSt1_s20 x1 g p, vSt1_s21 x1 g p, vSt1_s22 x1 g p]
def vSt1_s24 (x1 : Int) (p : List (List Int)) : Int := IntKind.wrap IntKind.i64 (IntKind.wrap IntKind.i64 (rget p (Int.toNat x1) (4 : Nat)) * (2 : Int) ^ min (Int.toNat (8 : Int)) (IntKind.bits IntKind.i64))
def vSt1_s25 (x1 : Int) (p : List (List Int)) : Bool := decide (rget p (Int.toNat x1) (3 : Nat) < (12 : Int))
def vSt1_s26 (x1 : Int) (g p : List (List Int)) : Int := bif vSt1_s25 x1 p then rget g (Int.toNat (rget p (Int.toNat x1) (3 : Nat))) (0 : Nat) else (0 : Int)
def vSt1_s27 (x1 : Int) (g p : List (List Int)) : Int := bif vSt1_s25 x1 p then rget g (Int.toNat (rget p (Int.toNat x1) (3 : Nat))) (1 : Nat) else (0 : Int)
def vSt1_s28 (x1 : Int) (g p : List (List Int)) : Int := bif vSt1_s25 x1 p then rget g (Int.toNat (rget p (Int.toNat x1) (3 : Nat))) (2 : Nat) else (0 : Int)
def vSt1_s29 (x1 : Int) (g p : List (List Int)) : Int := bif vSt1_s25 x1 p then rget g (Int.toNat (rget p (Int.toNat x1) (3 : Nat))) (3 : Nat) else (0 : Int)
def vSt1_s30 (x1 : Int) (g p : List (List Int)) : Int := vDo_0 (vSt1_s12 x1 g p) (vSt1_s20 x1 g p) (vSt1_s21 x1 g p) (vSt1_s22 x1 g p) (vSt1_s26 x1 g p) (vSt1_s27 x1 g p) (vSt1_s28 x1 g p) (vSt1_s29 x1 g p)
def vSt1_s31 : Int := Int.ofNat ((2 : Nat) ^ IntKind.bits IntKind.u8)
def vSt1_s32 (x1 : Int) (p : List (List Int)) : Int := IntKind.wrap IntKind.u8 (Int.ofNat (Int.toNat (rget p (Int.toNat x1) (3 : Nat) % vSt1_s31) &&& Int.toNat ((3 : Int) % vSt1_s31)))
def vSt1_s33 (x1 : Int) (g p : List (List Int)) : Int := List.getD (vSt1_s23 x1 g p) (Int.toNat (vSt1_s32 x1 p)) (0 : Int)
def vSt1_s34 : Int := Int.ofNat ((2 : Nat) ^ IntKind.bits IntKind.i16)
def vSt1_s35 (x1 : Int) (p : List (List Int)) : Int := IntKind.wrap IntKind.i16 (Int.ofNat (Int.toNat (rget p (Int.toNat x1) (4 : Nat) % vSt1_s34) &&& Int.toNat ((3 : Int) % vSt1_s34)))
def vSt1_s36 (x1 : Int) (p : List (List Int)) : Bool := rget p (Int.toNat x1) (0 : Nat) == (14 : Int)
def vSt1_s37 (x1 : Int) (p : List (List Int)) : Int := IntKind.wrap IntKind.u8 (rget p (Int.toNat x1) (2 : Nat) + (1 : Int))
def vSt1_s38 (x1 : Int) (p : List (List Int)) : Int := IntKind.wrap IntKind.u8 (rget p (Int.toNat x1) (2 : Nat) + (2 : Int))
def vSt1_s39 (x1 : Int) (p : List (List Int)) : Int := IntKind.wrap IntKind.u8 (rget p (Int.toNat x1) (2 : Nat) + (3 : Int))
def vSt1_2 (x1 : Int) (g p : List (List Int)) : List (List Int) := bif vSt1_s18 x1 g p then g else bif vSt1_s1 x1 p then List.set g (Int.toNat (rget p (Int.toNat x1) (1 : Nat))) (vSt1_s23 x1 g p) else bif vSt1_s2 x1 p then List.set g (Int.toNat (rget p (Int.toNat x1) (1 : Nat))) [vSt1_s24 x1 p, vSt1_s24 x1 p, vSt1_s24 x1 p, vSt1_s24 x1 p] else bif vSt1_s3 x1 p then List.set g (Int.toNat (rget p (Int.toNat x1) (1 : Nat))) [fAd_0 (vSt1_s12 x1 g p) (vSt1_s26 x1 g p), fAd_0 (vSt1_s20 x1 g p) (vSt1_s27 x1 g p), fAd_0 (vSt1_s21 x1 g p) (vSt1_s28 x1 g p), fAd_0 (vSt1_s22 x1 g p) (vSt1_s29 x1 g p)] else bif vSt1_s4 x1 p then List.set g (Int.toNat (rget p (Int.toNat x1) (1 : Nat))) [fSu_0 (vSt1_s12 x1 g p) (vSt1_s26 x1 g p), fSu_0 (vSt1_s20 x1 g p) (vSt1_s27 x1 g p), fSu_0 (vSt1_s21 x1 g p) (vSt1_s28 x1 g p), fSu_0 (vSt1_s22 x1 g p) (vSt1_s29 x1 g p)] else bif vSt1_s5 x1 p then List.set g (Int.toNat (rget p (Int.toNat x1) (1 : Nat))) [fMu_0 (vSt1_s12 x1 g p) (vSt1_s26 x1 g p), fMu_0 (vSt1_s20 x1 g p) (vSt1_s27 x1 g p), fMu_0 (vSt1_s21 x1 g p) (vSt1_s28 x1 g p), fMu_0 (vSt1_s22 x1 g p) (vSt1_s29 x1 g p)] else bif vSt1_s6 x1 p then List.set g (Int.toNat (rget p (Int.toNat x1) (1 : Nat))) [vMi1_0 (vSt1_s12 x1 g p) (vSt1_s26 x1 g p), vMi1_0 (vSt1_s20 x1 g p) (vSt1_s27 x1 g p), vMi1_0 (vSt1_s21 x1 g p) (vSt1_s28 x1 g p), vMi1_0 (vSt1_s22 x1 g p) (vSt1_s29 x1 g p)] else bif vSt1_s7 x1 p then List.set g (Int.toNat (rget p (Int.toNat x1) (1 : Nat))) [vMa1_0 (vSt1_s12 x1 g p) (vSt1_s26 x1 g p), vMa1_0 (vSt1_s20 x1 g p) (vSt1_s27 x1 g p), vMa1_0 (vSt1_s21 x1 g p) (vSt1_s28 x1 g p), vMa1_0 (vSt1_s22 x1 g p) (vSt1_s29 x1 g p)] else bif vSt1_s8 x1 p then List.set g (Int.toNat (rget p (Int.toNat x1) (1 : Nat))) [vSt1_s30 x1 g p, vSt1_s30 x1 g p, vSt1_s30 x1 g p, vSt1_s30 x1 g p] else bif vSt1_s9 x1 p then List.set g (Int.toNat (rget p (Int.toNat x1) (1 : Nat))) [vSt1_s33 x1 g p, vSt1_s33 x1 g p, vSt1_s33 x1 g p, vSt1_s33 x1 g p] else bif vSt1_s10 x1 p then rset g (Int.toNat (rget p (Int.toNat x1) (1 : Nat))) ((0 : Nat) + Int.toNat (vSt1_s32 x1 p)) [List.getD (vSt1_s23 x1 g p) (Int.toNat (vSt1_s35 x1 p)) (0 : Int)] else bif vSt1_s11 x1 p then g else bif vSt1_s17 x1 p then g else bif vSt1_s36 x1 p then List.set g (Int.toNat (rget p (Int.toNat x1) (1 : Nat))) [vTi_0 (vSt1_s12 x1 g p) (vSt1_s20 x1 g p) (vSt1_s21 x1 g p) (vSt1_s22 x1 g p) (vSt1_s26 x1 g p) (vSt1_s27 x1 g p) (vSt1_s28 x1 g p) (vSt1_s29 x1 g p), vTi_1 (rget g (Int.toNat (vSt1_s37 x1 p)) (0 : Nat)) (rget g (Int.toNat (vSt1_s37 x1 p)) (1 : Nat)) (rget g (Int.toNat (vSt1_s37 x1 p)) (2 : Nat)) (rget g (Int.toNat (vSt1_s37 x1 p)) (3 : Nat)) (vSt1_s26 x1 g p) (vSt1_s27 x1 g p) (vSt1_s28 x1 g p) (vSt1_s29 x1 g p), vTi_2 (rget g (Int.toNat (vSt1_s38 x1 p)) (0 : Nat)) (rget g (Int.toNat (vSt1_s38 x1 p)) (1 : Nat)) (rget g (Int.toNat (vSt1_s38 x1 p)) (2 : Nat)) (rget g (Int.toNat (vSt1_s38 x1 p)) (3 : Nat)) (vSt1_s26 x1 g p) (vSt1_s27 x1 g p) (vSt1_s28 x1 g p) (vSt1_s29 x1 g p), vTi_3 (rget g (Int.toNat (vSt1_s39 x1 p)) (0 : Nat)) (rget g (Int.toNat (vSt1_s39 x1 p)) (1 : Nat)) (rget g (Int.toNat (vSt1_s39 x1 p)) (2 : Nat)) (rget g (Int.toNat (vSt1_s39 x1 p)) (3 : Nat)) (vSt1_s26 x1 g p) (vSt1_s27 x1 g p) (vSt1_s28 x1 g p) (vSt1_s29 x1 g p)] else g
def vSt1_3 (x1 : Int) (g : List (List Int)) (gn : Bool) (p : List (List Int)) : Bool := bif vSt1_s18 x1 g p then bif vSt1_s0 x1 p then gn else bif vSt1_s11 x1 p then gn else bif vSt1_s16 x1 p then gn else true else gn
def vSt1_4 (st : Int) : Int := IntKind.wrap IntKind.i64 (st + (1 : Int))
def vSt1_o (x1 : Int) (g : List (List Int)) (gn : Bool) (st : Int) (r0 : Bool) (p : List (List Int)) : List Prop := [(0 : Int) ≤ x1 ∧ x1 < Int.ofNat (List.length p), (0 : Int) ≤ rget p (Int.toNat x1) (2 : Nat) ∧ rget p (Int.toNat x1) (2 : Nat) < Int.ofNat (12 : Nat), (0 : Int) ≤ rget p (Int.toNat x1) (1 : Nat) ∧ rget p (Int.toNat x1) (1 : Nat) < Int.ofNat (12 : Nat), vSt1_s25 x1 p = true → (0 : Int) ≤ rget p (Int.toNat x1) (3 : Nat) ∧ rget p (Int.toNat x1) (3 : Nat) < Int.ofNat (12 : Nat), vSt1_s0 x1 p = false → vSt1_s1 x1 p = false → vSt1_s2 x1 p = false → vSt1_s3 x1 p = false → vSt1_s4 x1 p = false → vSt1_s5 x1 p = false → vSt1_s6 x1 p = false → vSt1_s7 x1 p = false → vSt1_s8 x1 p = false → vSt1_s9 x1 p = true → (0 : Int) ≤ vSt1_s32 x1 p ∧ vSt1_s32 x1 p < Int.ofNat (4 : Nat), vSt1_s0 x1 p = false → vSt1_s1 x1 p = false → vSt1_s2 x1 p = false → vSt1_s3 x1 p = false → vSt1_s4 x1 p = false → vSt1_s5 x1 p = false → vSt1_s6 x1 p = false → vSt1_s7 x1 p = false → vSt1_s8 x1 p = false → vSt1_s9 x1 p = true → Int.toNat (vSt1_s32 x1 p) < (4 : Nat), vSt1_s0 x1 p = false → vSt1_s1 x1 p = false → vSt1_s2 x1 p = false → vSt1_s3 x1 p = false → vSt1_s4 x1 p = false → vSt1_s5 x1 p = false → vSt1_s6 x1 p = false → vSt1_s7 x1 p = false → vSt1_s8 x1 p = false → vSt1_s9 x1 p = false → vSt1_s10 x1 p = true → (0 : Int) ≤ vSt1_s35 x1 p ∧ vSt1_s35 x1 p < Int.ofNat (4 : Nat), vSt1_s0 x1 p = false → vSt1_s1 x1 p = false → vSt1_s2 x1 p = false → vSt1_s3 x1 p = false → vSt1_s4 x1 p = false → vSt1_s5 x1 p = false → vSt1_s6 x1 p = false → vSt1_s7 x1 p = false → vSt1_s8 x1 p = false → vSt1_s9 x1 p = false → vSt1_s10 x1 p = true → Int.toNat (vSt1_s35 x1 p) < (4 : Nat), vSt1_s0 x1 p = false → vSt1_s1 x1 p = false → vSt1_s2 x1 p = false → vSt1_s3 x1 p = false → vSt1_s4 x1 p = false → vSt1_s5 x1 p = false → vSt1_s6 x1 p = false → vSt1_s7 x1 p = false → vSt1_s8 x1 p = false → vSt1_s9 x1 p = false → vSt1_s10 x1 p = true → (0 : Int) ≤ vSt1_s32 x1 p ∧ vSt1_s32 x1 p < Int.ofNat (4 : Nat), vSt1_s0 x1 p = false → vSt1_s1 x1 p = false → vSt1_s2 x1 p = false → vSt1_s3 x1 p = false → vSt1_s4 x1 p = false → vSt1_s5 x1 p = false → vSt1_s6 x1 p = false → vSt1_s7 x1 p = false → vSt1_s8 x1 p = false → vSt1_s9 x1 p = false → vSt1_s10 x1 p = false → vSt1_s11 x1 p = false → vSt1_s16 x1 p = true → False, vSt1_s0 x1 p = false → vSt1_s1 x1 p = false → vSt1_s2 x1 p = false → vSt1_s3 x1 p = false → vSt1_s4 x1 p = false → vSt1_s5 x1 p = false → vSt1_s6 x1 p = false → vSt1_s7 x1 p = false → vSt1_s8 x1 p = false → vSt1_s9 x1 p = false → vSt1_s10 x1 p = false → vSt1_s11 x1 p = false → vSt1_s16 x1 p = false → vSt1_s17 x1 p = false → vSt1_s36 x1 p = true → (0 : Int) ≤ vSt1_s37 x1 p ∧ vSt1_s37 x1 p < Int.ofNat (12 : Nat), vSt1_s0 x1 p = false → vSt1_s1 x1 p = false → vSt1_s2 x1 p = false → vSt1_s3 x1 p = false → vSt1_s4 x1 p = false → vSt1_s5 x1 p = false → vSt1_s6 x1 p = false → vSt1_s7 x1 p = false → vSt1_s8 x1 p = false → vSt1_s9 x1 p = false → vSt1_s10 x1 p = false → vSt1_s11 x1 p = false → vSt1_s16 x1 p = false → vSt1_s17 x1 p = false → vSt1_s36 x1 p = true → (0 : Int) ≤ vSt1_s38 x1 p ∧ vSt1_s38 x1 p < Int.ofNat (12 : Nat), vSt1_s0 x1 p = false → vSt1_s1 x1 p = false → vSt1_s2 x1 p = false → vSt1_s3 x1 p = false → vSt1_s4 x1 p = false → vSt1_s5 x1 p = false → vSt1_s6 x1 p = false → vSt1_s7 x1 p = false → vSt1_s8 x1 p = false → vSt1_s9 x1 p = false → vSt1_s10 x1 p = false → vSt1_s11 x1 p = false → vSt1_s16 x1 p = false → vSt1_s17 x1 p = false → vSt1_s36 x1 p = true → (0 : Int) ≤ vSt1_s39 x1 p ∧ vSt1_s39 x1 p < Int.ofNat (12 : Nat)]
theorem vSt1_p (x1 : Int) (g : List (List Int)) (gn : Bool) (st : Int) (r0 : Bool) (p : List (List Int)) : evG Try.prog tabUb0 2000 136 [0, 1, 4, 5, 6, 7, 8, 9, 43, 53, 54, 56, 61, 70, 77, 84, 91, 98, 105, 113, 123, 136, 140, 147, 157, 161, 166] [] [0] [.a (.ptr 0 0), .a (.int true .i64 x1)] (padBs [⟨⟨0, 51, false, some ⟨0, [.int .i64, .int .i64, .int .i64, .int .i64], g, some 12⟩⟩, [some (.bool true gn), some (.int true .i64 st), some (.vec 1 0 5)]⟩, ⟨⟨0, 0, r0, some ⟨0, [.int .u8, .int .u8, .int .u8, .int .u8, .int .i16], p, none⟩⟩, []⟩]) = some (vSt1_o x1 g gn st r0 p, LV.t [LV.a (At.int true IntKind.i64 (vSt1_0 x1 g p)), LV.a (At.bool true (vSt1_1 x1 g p))], padOut [some (BC.mk (Hd.mk (nat_lit 0) (nat_lit 51) false (some (Rw.mk (nat_lit 0) [Kd.int IntKind.i64, Kd.int IntKind.i64, Kd.int IntKind.i64, Kd.int IntKind.i64] (vSt1_2 x1 g p) (some (nat_lit 12))))) [some (At.bool true (vSt1_3 x1 g gn p)), some (At.int true IntKind.i64 (vSt1_4 st)), some (At.vec (nat_lit 1) (nat_lit 0) (nat_lit 5))]), none]) := by kernel_rfl
def vSt1_c0 : Con
  | [.a (.ptr 0 0), .a (.int true .i64 x1)], [⟨⟨0, 51, false, some ⟨0, [.int .i64, .int .i64, .int .i64, .int .i64], g, some 12⟩⟩, [some (.bool true gn), some (.int true .i64 st), some (.vec 1 0 5)]⟩, ⟨⟨0, 0, r0, some ⟨0, [.int .u8, .int .u8, .int .u8, .int .u8, .int .i16], p, none⟩⟩, []⟩] => some (vSt1_o x1 g gn st r0 p, LV.t [LV.a (At.int true IntKind.i64 (vSt1_0 x1 g p)), LV.a (At.bool true (vSt1_1 x1 g p))], [some (BC.mk (Hd.mk (nat_lit 0) (nat_lit 51) false (some (Rw.mk (nat_lit 0) [Kd.int IntKind.i64, Kd.int IntKind.i64, Kd.int IntKind.i64, Kd.int IntKind.i64] (vSt1_2 x1 g p) (some (nat_lit 12))))) [some (At.bool true (vSt1_3 x1 g gn p)), some (At.int true IntKind.i64 (vSt1_4 st)), some (At.vec (nat_lit 1) (nat_lit 0) (nat_lit 5))]), none])
  | _, _ => none
def vSt1_c : Con := packC vSt1_c0
theorem vSt1_ok : ConOK Try.prog 136 (normC vSt1_c) := normC_ok (packC_ok (by
  intro args bs obs lv out h ho φ vs w may ha hM
  unfold vSt1_c0 at h
  split at h
  · simp only [Option.some.injEq, Prod.mk.injEq] at h
    obtain ⟨rfl, rfl, rfl⟩ := h
    rename_i x1 g gn st r0 p
    exact evG_ok tabUb0_ok follows _ _ _ _ _ (vSt1_p x1 g gn st r0 p) ho φ vs w may ha hM
  · cases h))
theorem vSt1_en : Enters Try.prog 136 := fun args => by kernel_rfl
-- 3256 5823 101 ms

def tabUb1 : Tab := (136, normC vSt1_c) :: tabUb0
theorem tabUb1_ok : TOK Try.prog tabUb1 := TOK.cons vSt1_en vSt1_ok (tabUb0_ok)

end Go.Proofs.Ytcdejlgophpdjaa
end

section
namespace Go.Proofs.Ytcdejlgophpdjaa
open Go Go.RowKit Go.Proofs.Ytcdejlgophpdjaa.V
set_option linter.unusedVariables false

/-! (*azulejo/vm.machine).range_ -/
noncomputable def vRa2_l13_code : Go.Code := loopOf (subs (bodyOf Try.prog 127) 1 13)
structure vRa2_l13_T where
  a0 : Int
  a1 : Bool
  a2 : Int
  a3 : List (List Int)
  a4 : Bool
  a5 : Int
  a6 : List (List Int)
  deriving Inhabited
def vRa2_l13_hd0 (v : vRa2_l13_T) : HS := HS.mk [(nat_lit 0, LV.a (At.ptr (nat_lit 0) (nat_lit 0))), (nat_lit 2, LV.a (At.int true IntKind.i64 (vRa2_l13_T.a0 v))), (nat_lit 6, LV.a (At.bool true (vRa2_l13_T.a1 v))), (nat_lit 7, LV.a (At.int true IntKind.i64 (vRa2_l13_T.a2 v)))] [BC.mk (Hd.mk (nat_lit 0) (nat_lit 51) false (some (Rw.mk (nat_lit 0) [Kd.int IntKind.i64, Kd.int IntKind.i64, Kd.int IntKind.i64, Kd.int IntKind.i64] (vRa2_l13_T.a3 v) (some (nat_lit 12))))) [some (At.bool true (vRa2_l13_T.a4 v)), some (At.int true IntKind.i64 (vRa2_l13_T.a5 v)), some (At.vec (nat_lit 1) (nat_lit 0) (nat_lit 5))], BC.mk (Hd.mk (nat_lit 0) (nat_lit 0) true (some (Rw.mk (nat_lit 0) [Kd.int IntKind.u8, Kd.int IntKind.u8, Kd.int IntKind.u8, Kd.int IntKind.u8, Kd.int IntKind.i16] (vRa2_l13_T.a6 v) none))) []]
def vRa2_l13_hd (v : vRa2_l13_T) : HS := padH (vRa2_l13_hd0 v)
def vRa2_l13_s0 (v : vRa2_l13_T) : Bool := decide (vRa2_l13_T.a2 v < vRa2_l13_T.a0 v)
def vRa2_l13_st (v : vRa2_l13_T) : List Prop × List (X × Bool × vRa2_l13_T) := ([vRa2_l13_s0 v = true → (0 : Int) ≤ vRa2_l13_T.a2 v ∧ vRa2_l13_T.a2 v < Int.ofNat (List.length (vRa2_l13_T.a6 v)), vRa2_l13_s0 v = true → (0 : Int) ≤ rget (vRa2_l13_T.a6 v) (Int.toNat (vRa2_l13_T.a2 v)) (2 : Nat) ∧ rget (vRa2_l13_T.a6 v) (Int.toNat (vRa2_l13_T.a2 v)) (2 : Nat) < Int.ofNat (12 : Nat), vRa2_l13_s0 v = true → (0 : Int) ≤ rget (vRa2_l13_T.a6 v) (Int.toNat (vRa2_l13_T.a2 v)) (1 : Nat) ∧ rget (vRa2_l13_T.a6 v) (Int.toNat (vRa2_l13_T.a2 v)) (1 : Nat) < Int.ofNat (12 : Nat), vRa2_l13_s0 v = true → vSt1_s25 (vRa2_l13_T.a2 v) (vRa2_l13_T.a6 v) = true → (0 : Int) ≤ rget (vRa2_l13_T.a6 v) (Int.toNat (vRa2_l13_T.a2 v)) (3 : Nat) ∧ rget (vRa2_l13_T.a6 v) (Int.toNat (vRa2_l13_T.a2 v)) (3 : Nat) < Int.ofNat (12 : Nat), vRa2_l13_s0 v = true → vSt1_s0 (vRa2_l13_T.a2 v) (vRa2_l13_T.a6 v) = false → vSt1_s1 (vRa2_l13_T.a2 v) (vRa2_l13_T.a6 v) = false → vSt1_s2 (vRa2_l13_T.a2 v) (vRa2_l13_T.a6 v) = false → vSt1_s3 (vRa2_l13_T.a2 v) (vRa2_l13_T.a6 v) = false → vSt1_s4 (vRa2_l13_T.a2 v) (vRa2_l13_T.a6 v) = false → vSt1_s5 (vRa2_l13_T.a2 v) (vRa2_l13_T.a6 v) = false → vSt1_s6 (vRa2_l13_T.a2 v) (vRa2_l13_T.a6 v) = false → vSt1_s7 (vRa2_l13_T.a2 v) (vRa2_l13_T.a6 v) = false → vSt1_s8 (vRa2_l13_T.a2 v) (vRa2_l13_T.a6 v) = false → vSt1_s9 (vRa2_l13_T.a2 v) (vRa2_l13_T.a6 v) = true → (0 : Int) ≤ vSt1_s32 (vRa2_l13_T.a2 v) (vRa2_l13_T.a6 v) ∧ vSt1_s32 (vRa2_l13_T.a2 v) (vRa2_l13_T.a6 v) < Int.ofNat (4 : Nat), vRa2_l13_s0 v = true → vSt1_s0 (vRa2_l13_T.a2 v) (vRa2_l13_T.a6 v) = false → vSt1_s1 (vRa2_l13_T.a2 v) (vRa2_l13_T.a6 v) = false → vSt1_s2 (vRa2_l13_T.a2 v) (vRa2_l13_T.a6 v) = false → vSt1_s3 (vRa2_l13_T.a2 v) (vRa2_l13_T.a6 v) = false → vSt1_s4 (vRa2_l13_T.a2 v) (vRa2_l13_T.a6 v) = false → vSt1_s5 (vRa2_l13_T.a2 v) (vRa2_l13_T.a6 v) = false → vSt1_s6 (vRa2_l13_T.a2 v) (vRa2_l13_T.a6 v) = false → vSt1_s7 (vRa2_l13_T.a2 v) (vRa2_l13_T.a6 v) = false → vSt1_s8 (vRa2_l13_T.a2 v) (vRa2_l13_T.a6 v) = false → vSt1_s9 (vRa2_l13_T.a2 v) (vRa2_l13_T.a6 v) = true → Int.toNat (vSt1_s32 (vRa2_l13_T.a2 v) (vRa2_l13_T.a6 v)) < (4 : Nat), vRa2_l13_s0 v = true → vSt1_s0 (vRa2_l13_T.a2 v) (vRa2_l13_T.a6 v) = false → vSt1_s1 (vRa2_l13_T.a2 v) (vRa2_l13_T.a6 v) = false → vSt1_s2 (vRa2_l13_T.a2 v) (vRa2_l13_T.a6 v) = false → vSt1_s3 (vRa2_l13_T.a2 v) (vRa2_l13_T.a6 v) = false → vSt1_s4 (vRa2_l13_T.a2 v) (vRa2_l13_T.a6 v) = false → vSt1_s5 (vRa2_l13_T.a2 v) (vRa2_l13_T.a6 v) = false → vSt1_s6 (vRa2_l13_T.a2 v) (vRa2_l13_T.a6 v) = false → vSt1_s7 (vRa2_l13_T.a2 v) (vRa2_l13_T.a6 v) = false → vSt1_s8 (vRa2_l13_T.a2 v) (vRa2_l13_T.a6 v) = false → vSt1_s9 (vRa2_l13_T.a2 v) (vRa2_l13_T.a6 v) = false → vSt1_s10 (vRa2_l13_T.a2 v) (vRa2_l13_T.a6 v) = true → (0 : Int) ≤ vSt1_s35 (vRa2_l13_T.a2 v) (vRa2_l13_T.a6 v) ∧ vSt1_s35 (vRa2_l13_T.a2 v) (vRa2_l13_T.a6 v) < Int.ofNat (4 : Nat), vRa2_l13_s0 v = true → vSt1_s0 (vRa2_l13_T.a2 v) (vRa2_l13_T.a6 v) = false → vSt1_s1 (vRa2_l13_T.a2 v) (vRa2_l13_T.a6 v) = false → vSt1_s2 (vRa2_l13_T.a2 v) (vRa2_l13_T.a6 v) = false → vSt1_s3 (vRa2_l13_T.a2 v) (vRa2_l13_T.a6 v) = false → vSt1_s4 (vRa2_l13_T.a2 v) (vRa2_l13_T.a6 v) = false → vSt1_s5 (vRa2_l13_T.a2 v) (vRa2_l13_T.a6 v) = false → vSt1_s6 (vRa2_l13_T.a2 v) (vRa2_l13_T.a6 v) = false → vSt1_s7 (vRa2_l13_T.a2 v) (vRa2_l13_T.a6 v) = false → vSt1_s8 (vRa2_l13_T.a2 v) (vRa2_l13_T.a6 v) = false → vSt1_s9 (vRa2_l13_T.a2 v) (vRa2_l13_T.a6 v) = false → vSt1_s10 (vRa2_l13_T.a2 v) (vRa2_l13_T.a6 v) = true → Int.toNat (vSt1_s35 (vRa2_l13_T.a2 v) (vRa2_l13_T.a6 v)) < (4 : Nat), vRa2_l13_s0 v = true → vSt1_s0 (vRa2_l13_T.a2 v) (vRa2_l13_T.a6 v) = false → vSt1_s1 (vRa2_l13_T.a2 v) (vRa2_l13_T.a6 v) = false → vSt1_s2 (vRa2_l13_T.a2 v) (vRa2_l13_T.a6 v) = false → vSt1_s3 (vRa2_l13_T.a2 v) (vRa2_l13_T.a6 v) = false → vSt1_s4 (vRa2_l13_T.a2 v) (vRa2_l13_T.a6 v) = false → vSt1_s5 (vRa2_l13_T.a2 v) (vRa2_l13_T.a6 v) = false → vSt1_s6 (vRa2_l13_T.a2 v) (vRa2_l13_T.a6 v) = false → vSt1_s7 (vRa2_l13_T.a2 v) (vRa2_l13_T.a6 v) = false → vSt1_s8 (vRa2_l13_T.a2 v) (vRa2_l13_T.a6 v) = false → vSt1_s9 (vRa2_l13_T.a2 v) (vRa2_l13_T.a6 v) = false → vSt1_s10 (vRa2_l13_T.a2 v) (vRa2_l13_T.a6 v) = true → (0 : Int) ≤ vSt1_s32 (vRa2_l13_T.a2 v) (vRa2_l13_T.a6 v) ∧ vSt1_s32 (vRa2_l13_T.a2 v) (vRa2_l13_T.a6 v) < Int.ofNat (4 : Nat), vRa2_l13_s0 v = true → vSt1_s0 (vRa2_l13_T.a2 v) (vRa2_l13_T.a6 v) = false → vSt1_s1 (vRa2_l13_T.a2 v) (vRa2_l13_T.a6 v) = false → vSt1_s2 (vRa2_l13_T.a2 v) (vRa2_l13_T.a6 v) = false → vSt1_s3 (vRa2_l13_T.a2 v) (vRa2_l13_T.a6 v) = false → vSt1_s4 (vRa2_l13_T.a2 v) (vRa2_l13_T.a6 v) = false → vSt1_s5 (vRa2_l13_T.a2 v) (vRa2_l13_T.a6 v) = false → vSt1_s6 (vRa2_l13_T.a2 v) (vRa2_l13_T.a6 v) = false → vSt1_s7 (vRa2_l13_T.a2 v) (vRa2_l13_T.a6 v) = false → vSt1_s8 (vRa2_l13_T.a2 v) (vRa2_l13_T.a6 v) = false → vSt1_s9 (vRa2_l13_T.a2 v) (vRa2_l13_T.a6 v) = false → vSt1_s10 (vRa2_l13_T.a2 v) (vRa2_l13_T.a6 v) = false → vSt1_s11 (vRa2_l13_T.a2 v) (vRa2_l13_T.a6 v) = false → vSt1_s16 (vRa2_l13_T.a2 v) (vRa2_l13_T.a6 v) = true → False, vRa2_l13_s0 v = true → vSt1_s0 (vRa2_l13_T.a2 v) (vRa2_l13_T.a6 v) = false → vSt1_s1 (vRa2_l13_T.a2 v) (vRa2_l13_T.a6 v) = false → vSt1_s2 (vRa2_l13_T.a2 v) (vRa2_l13_T.a6 v) = false → vSt1_s3 (vRa2_l13_T.a2 v) (vRa2_l13_T.a6 v) = false → vSt1_s4 (vRa2_l13_T.a2 v) (vRa2_l13_T.a6 v) = false → vSt1_s5 (vRa2_l13_T.a2 v) (vRa2_l13_T.a6 v) = false → vSt1_s6 (vRa2_l13_T.a2 v) (vRa2_l13_T.a6 v) = false → vSt1_s7 (vRa2_l13_T.a2 v) (vRa2_l13_T.a6 v) = false → vSt1_s8 (vRa2_l13_T.a2 v) (vRa2_l13_T.a6 v) = false → vSt1_s9 (vRa2_l13_T.a2 v) (vRa2_l13_T.a6 v) = false → vSt1_s10 (vRa2_l13_T.a2 v) (vRa2_l13_T.a6 v) = false → vSt1_s11 (vRa2_l13_T.a2 v) (vRa2_l13_T.a6 v) = false → vSt1_s16 (vRa2_l13_T.a2 v) (vRa2_l13_T.a6 v) = false → vSt1_s17 (vRa2_l13_T.a2 v) (vRa2_l13_T.a6 v) = false → vSt1_s36 (vRa2_l13_T.a2 v) (vRa2_l13_T.a6 v) = true → (0 : Int) ≤ vSt1_s37 (vRa2_l13_T.a2 v) (vRa2_l13_T.a6 v) ∧ vSt1_s37 (vRa2_l13_T.a2 v) (vRa2_l13_T.a6 v) < Int.ofNat (12 : Nat), vRa2_l13_s0 v = true → vSt1_s0 (vRa2_l13_T.a2 v) (vRa2_l13_T.a6 v) = false → vSt1_s1 (vRa2_l13_T.a2 v) (vRa2_l13_T.a6 v) = false → vSt1_s2 (vRa2_l13_T.a2 v) (vRa2_l13_T.a6 v) = false → vSt1_s3 (vRa2_l13_T.a2 v) (vRa2_l13_T.a6 v) = false → vSt1_s4 (vRa2_l13_T.a2 v) (vRa2_l13_T.a6 v) = false → vSt1_s5 (vRa2_l13_T.a2 v) (vRa2_l13_T.a6 v) = false → vSt1_s6 (vRa2_l13_T.a2 v) (vRa2_l13_T.a6 v) = false → vSt1_s7 (vRa2_l13_T.a2 v) (vRa2_l13_T.a6 v) = false → vSt1_s8 (vRa2_l13_T.a2 v) (vRa2_l13_T.a6 v) = false → vSt1_s9 (vRa2_l13_T.a2 v) (vRa2_l13_T.a6 v) = false → vSt1_s10 (vRa2_l13_T.a2 v) (vRa2_l13_T.a6 v) = false → vSt1_s11 (vRa2_l13_T.a2 v) (vRa2_l13_T.a6 v) = false → vSt1_s16 (vRa2_l13_T.a2 v) (vRa2_l13_T.a6 v) = false → vSt1_s17 (vRa2_l13_T.a2 v) (vRa2_l13_T.a6 v) = false → vSt1_s36 (vRa2_l13_T.a2 v) (vRa2_l13_T.a6 v) = true → (0 : Int) ≤ vSt1_s38 (vRa2_l13_T.a2 v) (vRa2_l13_T.a6 v) ∧ vSt1_s38 (vRa2_l13_T.a2 v) (vRa2_l13_T.a6 v) < Int.ofNat (12 : Nat), vRa2_l13_s0 v = true → vSt1_s0 (vRa2_l13_T.a2 v) (vRa2_l13_T.a6 v) = false → vSt1_s1 (vRa2_l13_T.a2 v) (vRa2_l13_T.a6 v) = false → vSt1_s2 (vRa2_l13_T.a2 v) (vRa2_l13_T.a6 v) = false → vSt1_s3 (vRa2_l13_T.a2 v) (vRa2_l13_T.a6 v) = false → vSt1_s4 (vRa2_l13_T.a2 v) (vRa2_l13_T.a6 v) = false → vSt1_s5 (vRa2_l13_T.a2 v) (vRa2_l13_T.a6 v) = false → vSt1_s6 (vRa2_l13_T.a2 v) (vRa2_l13_T.a6 v) = false → vSt1_s7 (vRa2_l13_T.a2 v) (vRa2_l13_T.a6 v) = false → vSt1_s8 (vRa2_l13_T.a2 v) (vRa2_l13_T.a6 v) = false → vSt1_s9 (vRa2_l13_T.a2 v) (vRa2_l13_T.a6 v) = false → vSt1_s10 (vRa2_l13_T.a2 v) (vRa2_l13_T.a6 v) = false → vSt1_s11 (vRa2_l13_T.a2 v) (vRa2_l13_T.a6 v) = false → vSt1_s16 (vRa2_l13_T.a2 v) (vRa2_l13_T.a6 v) = false → vSt1_s17 (vRa2_l13_T.a2 v) (vRa2_l13_T.a6 v) = false → vSt1_s36 (vRa2_l13_T.a2 v) (vRa2_l13_T.a6 v) = true → (0 : Int) ≤ vSt1_s39 (vRa2_l13_T.a2 v) (vRa2_l13_T.a6 v) ∧ vSt1_s39 (vRa2_l13_T.a2 v) (vRa2_l13_T.a6 v) < Int.ofNat (12 : Nat)], [(X.e (0 : Nat), !vRa2_l13_s0 v, vRa2_l13_T.mk (vRa2_l13_T.a0 v) (vRa2_l13_T.a1 v) (vRa2_l13_T.a2 v) (vRa2_l13_T.a3 v) (vRa2_l13_T.a4 v) (vRa2_l13_T.a5 v) (vRa2_l13_T.a6 v)), (X.r, vRa2_l13_s0 v && !vSt1_1 (vRa2_l13_T.a2 v) (vRa2_l13_T.a3 v) (vRa2_l13_T.a6 v), vRa2_l13_T.mk (vRa2_l13_T.a0 v) (false) (vRa2_l13_T.a2 v) (vSt1_2 (vRa2_l13_T.a2 v) (vRa2_l13_T.a3 v) (vRa2_l13_T.a6 v)) (vSt1_3 (vRa2_l13_T.a2 v) (vRa2_l13_T.a3 v) (vRa2_l13_T.a4 v) (vRa2_l13_T.a6 v)) (vSt1_4 (vRa2_l13_T.a5 v)) (vRa2_l13_T.a6 v)), (X.n, vRa2_l13_s0 v && !!vSt1_1 (vRa2_l13_T.a2 v) (vRa2_l13_T.a3 v) (vRa2_l13_T.a6 v), vRa2_l13_T.mk (vRa2_l13_T.a0 v) (vRa2_l13_T.a1 v) (vSt1_0 (vRa2_l13_T.a2 v) (vRa2_l13_T.a3 v) (vRa2_l13_T.a6 v)) (vSt1_2 (vRa2_l13_T.a2 v) (vRa2_l13_T.a3 v) (vRa2_l13_T.a6 v)) (vSt1_3 (vRa2_l13_T.a2 v) (vRa2_l13_T.a3 v) (vRa2_l13_T.a4 v) (vRa2_l13_T.a6 v)) (vSt1_4 (vRa2_l13_T.a5 v)) (vRa2_l13_T.a6 v))])
def vRa2_l13_rd : HS → Option vRa2_l13_T := rdS [.i, .b, .i, .r, .b, .i, .r] (fun l => vRa2_l13_T.mk (gI l 0) (gB l 1) (gI l 2) (gR l 3) (gB l 4) (gI l 5) (gR l 6)) vRa2_l13_hd
def vRa2_l13_sum : V.Sum := loopS vRa2_l13_hd vRa2_l13_rd vRa2_l13_st 18446744073709551616 [X.e (0 : Nat), X.r] [0, 1, 2, 6, 7, 8, 9, 13, 21] [0, 2, 6, 7] [0] [] [] 0
theorem vRa2_l13_E : ∀ v, bodyF Try.prog tabUb1 (ntOf Try.prog 127) [0, 1, 2, 6, 7, 8, 9, 13, 21] [0, 2, 6, 7] [] 2000 [0] [] vRa2_l13_code 52 (vRa2_l13_hd v) = some ((vRa2_l13_st v).1, (vRa2_l13_st v).2.map fun q => (q.1, q.2.1, vRa2_l13_hd q.2.2)) := fun v => by kernel_rfl
theorem vRa2_l13_R : ∀ h v, vRa2_l13_rd h = some v → h = vRa2_l13_hd v := rdS_ok fun l => by kernel_rfl
set_option maxRecDepth 100000 in
theorem vRa2_l13_sok : SumOK Try.prog (ntOf Try.prog 127) [0, 1, 2, 6, 7, 8, 9, 13, 21] (.block (blockOf (subs (bodyOf Try.prog 127) 1 13)) (.loop vRa2_l13_code)) vRa2_l13_sum := loopS_ok tabUb1_ok follows vRa2_l13_E vRa2_l13_R (fun v => by kernel_rfl) (LOK_of _ _ (LOK_nil'))
def vRa2_s0 (x1 x2 : Int) (g : List (List Int)) (gn : Bool) (st : Int) (p : List (List Int)) : Option (X × vRa2_l13_T) := lrun vRa2_l13_st (18446744073709551616 : Nat) (vRa2_l13_T.mk x2 false x1 g gn st p)
def vRa2_0 (x1 x2 : Int) (g : List (List Int)) (gn : Bool) (st : Int) (p : List (List Int)) : Bool := bif isX X.r (vRa2_s0 x1 x2 g gn st p) then vRa2_l13_T.a1 (V.valOf (vRa2_s0 x1 x2 g gn st p)) else true
def vRa2_1 (x1 x2 : Int) (g : List (List Int)) (gn : Bool) (st : Int) (p : List (List Int)) : List (List Int) := bif isX X.r (vRa2_s0 x1 x2 g gn st p) then vRa2_l13_T.a3 (V.valOf (vRa2_s0 x1 x2 g gn st p)) else vRa2_l13_T.a3 (V.valOf (vRa2_s0 x1 x2 g gn st p))
def vRa2_2 (x1 x2 : Int) (g : List (List Int)) (gn : Bool) (st : Int) (p : List (List Int)) : Bool := bif isX X.r (vRa2_s0 x1 x2 g gn st p) then vRa2_l13_T.a4 (V.valOf (vRa2_s0 x1 x2 g gn st p)) else vRa2_l13_T.a4 (V.valOf (vRa2_s0 x1 x2 g gn st p))
def vRa2_3 (x1 x2 : Int) (g : List (List Int)) (gn : Bool) (st : Int) (p : List (List Int)) : Int := bif isX X.r (vRa2_s0 x1 x2 g gn st p) then vRa2_l13_T.a5 (V.valOf (vRa2_s0 x1 x2 g gn st p)) else vRa2_l13_T.a5 (V.valOf (vRa2_s0 x1 x2 g gn st p))
def vRa2_o (x1 x2 : Int) (g : List (List Int)) (gn : Bool) (st : Int) (r0 : Bool) (p : List (List Int)) : List Prop := [lok vRa2_l13_st (18446744073709551616 : Nat) (vRa2_l13_T.mk x2 false x1 g gn st p)]
theorem vRa2_p (x1 x2 : Int) (g : List (List Int)) (gn : Bool) (st : Int) (r0 : Bool) (p : List (List Int)) : evG Try.prog tabUb1 2000 127 [0, 1, 2, 6, 7, 8, 9, 13, 21] [(13, vRa2_l13_sum)] [0] [.a (.ptr 0 0), .a (.int true .i64 x1), .a (.int true .i64 x2)] (padBs [⟨⟨0, 51, false, some ⟨0, [.int .i64, .int .i64, .int .i64, .int .i64], g, some 12⟩⟩, [some (.bool true gn), some (.int true .i64 st), some (.vec 1 0 5)]⟩, ⟨⟨0, 0, r0, some ⟨0, [.int .u8, .int .u8, .int .u8, .int .u8, .int .i16], p, none⟩⟩, []⟩]) = some (vRa2_o x1 x2 g gn st r0 p, LV.a (At.bool true (vRa2_0 x1 x2 g gn st p)), padOut [some (BC.mk (Hd.mk (nat_lit 0) (nat_lit 51) false (some (Rw.mk (nat_lit 0) [Kd.int IntKind.i64, Kd.int IntKind.i64, Kd.int IntKind.i64, Kd.int IntKind.i64] (vRa2_1 x1 x2 g gn st p) (some (nat_lit 12))))) [some (At.bool true (vRa2_2 x1 x2 g gn st p)), some (At.int true IntKind.i64 (vRa2_3 x1 x2 g gn st p)), some (At.vec (nat_lit 1) (nat_lit 0) (nat_lit 5))]), none]) := by kernel_rfl
def vRa2_c0 : Con
  | [.a (.ptr 0 0), .a (.int true .i64 x1), .a (.int true .i64 x2)], [⟨⟨0, 51, false, some ⟨0, [.int .i64, .int .i64, .int .i64, .int .i64], g, some 12⟩⟩, [some (.bool true gn), some (.int true .i64 st), some (.vec 1 0 5)]⟩, ⟨⟨0, 0, r0, some ⟨0, [.int .u8, .int .u8, .int .u8, .int .u8, .int .i16], p, none⟩⟩, []⟩] => some (vRa2_o x1 x2 g gn st r0 p, LV.a (At.bool true (vRa2_0 x1 x2 g gn st p)), [some (BC.mk (Hd.mk (nat_lit 0) (nat_lit 51) false (some (Rw.mk (nat_lit 0) [Kd.int IntKind.i64, Kd.int IntKind.i64, Kd.int IntKind.i64, Kd.int IntKind.i64] (vRa2_1 x1 x2 g gn st p) (some (nat_lit 12))))) [some (At.bool true (vRa2_2 x1 x2 g gn st p)), some (At.int true IntKind.i64 (vRa2_3 x1 x2 g gn st p)), some (At.vec (nat_lit 1) (nat_lit 0) (nat_lit 5))]), none])
  | _, _ => none
def vRa2_c : Con := packC vRa2_c0
theorem vRa2_ok : ConOK Try.prog 127 (normC vRa2_c) := normC_ok (packC_ok (by
  intro args bs obs lv out h ho φ vs w may ha hM
  unfold vRa2_c0 at h
  split at h
  · simp only [Option.some.injEq, Prod.mk.injEq] at h
    obtain ⟨rfl, rfl, rfl⟩ := h
    rename_i x1 x2 g gn st r0 p
    exact evG_okL' tabUb1_ok follows (LOK_cons (show subs (bodyOf Try.prog 127) 1 13 = [.block (blockOf (subs (bodyOf Try.prog 127) 1 13)) (.loop vRa2_l13_code)] from by kernel_rfl) vRa2_l13_sok (LOK_nil')) _ _ _ _ _ (vRa2_p x1 x2 g gn st r0 p) ho φ vs w may ha hM
  · cases h))
theorem vRa2_en : Enters Try.prog 127 := fun args => by kernel_rfl
-- 2202 1093 16 ms

def tabUb2 : Tab := (127, normC vRa2_c) :: tabUb1
theorem tabUb2_ok : TOK Try.prog tabUb2 := TOK.cons vRa2_en vRa2_ok (tabUb1_ok)

end Go.Proofs.Ytcdejlgophpdjaa
end

section
namespace Go.Proofs.Ytcdejlgophpdjaa
open Go Go.RowKit Go.Proofs.Ytcdejlgophpdjaa.V
set_option linter.unusedVariables false

/-! (*azulejo/vm.machine).loop -/
noncomputable def vLo_l29_code : Go.Code := loopOf (subs (bodyOf Try.prog 149) 1 29)
structure vLo_l29_T where
  a0 : Int
  a1 : Bool
  a2 : Int
  a3 : Int
  a4 : Int
  a5 : Int
  a6 : List (List Int)
  a7 : Bool
  a8 : Int
  a9 : List (List Int)
  deriving Inhabited
def vLo_l29_hd0 (v : vLo_l29_T) : HS := HS.mk [(nat_lit 0, LV.a (At.ptr (nat_lit 0) (nat_lit 0))), (nat_lit 6, LV.a (At.int true IntKind.i64 (vLo_l29_T.a0 v))), (nat_lit 7, LV.a (At.bool true (vLo_l29_T.a1 v))), (nat_lit 8, LV.a (At.int true IntKind.i64 (vLo_l29_T.a2 v))), (nat_lit 9, LV.a (At.int true IntKind.i64 (vLo_l29_T.a3 v))), (nat_lit 21, LV.a (At.int true IntKind.i64 (vLo_l29_T.a4 v))), (nat_lit 22, LV.a (At.int true IntKind.i64 (vLo_l29_T.a5 v)))] [BC.mk (Hd.mk (nat_lit 0) (nat_lit 51) false (some (Rw.mk (nat_lit 0) [Kd.int IntKind.i64, Kd.int IntKind.i64, Kd.int IntKind.i64, Kd.int IntKind.i64] (vLo_l29_T.a6 v) (some (nat_lit 12))))) [some (At.bool true (vLo_l29_T.a7 v)), some (At.int true IntKind.i64 (vLo_l29_T.a8 v)), some (At.vec (nat_lit 1) (nat_lit 0) (nat_lit 5))], BC.mk (Hd.mk (nat_lit 0) (nat_lit 0) true (some (Rw.mk (nat_lit 0) [Kd.int IntKind.u8, Kd.int IntKind.u8, Kd.int IntKind.u8, Kd.int IntKind.u8, Kd.int IntKind.i16] (vLo_l29_T.a9 v) none))) []]
def vLo_l29_hd (v : vLo_l29_T) : HS := padH (vLo_l29_hd0 v)
def vLo_l29_s0 (v : vLo_l29_T) : Bool := decide (vLo_l29_T.a5 v < vLo_l29_T.a4 v)
def vLo_l29_s1 (v : vLo_l29_T) : Bool := !vRa2_0 (vLo_l29_T.a2 v) (vLo_l29_T.a3 v) (vLo_l29_T.a6 v) (vLo_l29_T.a7 v) (vLo_l29_T.a8 v) (vLo_l29_T.a9 v)
def vLo_l29_s2 (v : vLo_l29_T) : List (List Int) := vRa2_1 (vLo_l29_T.a2 v) (vLo_l29_T.a3 v) (vLo_l29_T.a6 v) (vLo_l29_T.a7 v) (vLo_l29_T.a8 v) (vLo_l29_T.a9 v)
def vLo_l29_s3 (v : vLo_l29_T) : Bool := vRa2_2 (vLo_l29_T.a2 v) (vLo_l29_T.a3 v) (vLo_l29_T.a6 v) (vLo_l29_T.a7 v) (vLo_l29_T.a8 v) (vLo_l29_T.a9 v)
def vLo_l29_s4 (v : vLo_l29_T) : Int := vRa2_3 (vLo_l29_T.a2 v) (vLo_l29_T.a3 v) (vLo_l29_T.a6 v) (vLo_l29_T.a7 v) (vLo_l29_T.a8 v) (vLo_l29_T.a9 v)
def vLo_l29_st (v : vLo_l29_T) : List Prop × List (X × Bool × vLo_l29_T) := ([vLo_l29_s0 v = true → lok vRa2_l13_st (18446744073709551616 : Nat) (vRa2_l13_T.mk (vLo_l29_T.a3 v) false (vLo_l29_T.a2 v) (vLo_l29_T.a6 v) (vLo_l29_T.a7 v) (vLo_l29_T.a8 v) (vLo_l29_T.a9 v))], [(X.e (0 : Nat), !vLo_l29_s0 v, vLo_l29_T.mk (vLo_l29_T.a0 v) (vLo_l29_T.a1 v) (vLo_l29_T.a2 v) (vLo_l29_T.a3 v) (vLo_l29_T.a4 v) (vLo_l29_T.a5 v) (vLo_l29_T.a6 v) (vLo_l29_T.a7 v) (vLo_l29_T.a8 v) (vLo_l29_T.a9 v)), (X.r, vLo_l29_s0 v && vLo_l29_s1 v, vLo_l29_T.mk ((0 : Int)) (false) (vLo_l29_T.a2 v) (vLo_l29_T.a3 v) (vLo_l29_T.a4 v) (vLo_l29_T.a5 v) (vLo_l29_s2 v) (vLo_l29_s3 v) (vLo_l29_s4 v) (vLo_l29_T.a9 v)), (X.n, vLo_l29_s0 v && !vLo_l29_s1 v, vLo_l29_T.mk (vLo_l29_T.a0 v) (vLo_l29_T.a1 v) (vLo_l29_T.a2 v) (vLo_l29_T.a3 v) (vLo_l29_T.a4 v) (IntKind.wrap IntKind.i64 (vLo_l29_T.a5 v + (1 : Int))) (vLo_l29_s2 v) (vLo_l29_s3 v) (vLo_l29_s4 v) (vLo_l29_T.a9 v))])
def vLo_l29_rd : HS → Option vLo_l29_T := rdS [.i, .b, .i, .i, .i, .i, .r, .b, .i, .r] (fun l => vLo_l29_T.mk (gI l 0) (gB l 1) (gI l 2) (gI l 3) (gI l 4) (gI l 5) (gR l 6) (gB l 7) (gI l 8) (gR l 9)) vLo_l29_hd
def vLo_l29_sum : V.Sum := loopS vLo_l29_hd vLo_l29_rd vLo_l29_st 18446744073709551616 [X.e (0 : Nat), X.r] [0, 1, 2, 6, 7, 8, 9, 21, 22, 23, 28] [0, 6, 7, 8, 9, 21, 22] [0] [] [] 0
theorem vLo_l29_E : ∀ v, bodyF Try.prog tabUb2 (ntOf Try.prog 149) [0, 1, 2, 6, 7, 8, 9, 21, 22, 23, 28] [0, 6, 7, 8, 9, 21, 22] [] 2000 [0] [] vLo_l29_code 116 (vLo_l29_hd v) = some ((vLo_l29_st v).1, (vLo_l29_st v).2.map fun q => (q.1, q.2.1, vLo_l29_hd q.2.2)) := fun v => by kernel_rfl
theorem vLo_l29_R : ∀ h v, vLo_l29_rd h = some v → h = vLo_l29_hd v := rdS_ok fun l => by kernel_rfl
set_option maxRecDepth 100000 in
theorem vLo_l29_sok : SumOK Try.prog (ntOf Try.prog 149) [0, 1, 2, 6, 7, 8, 9, 21, 22, 23, 28] (.block (blockOf (subs (bodyOf Try.prog 149) 1 29)) (.loop vLo_l29_code)) vLo_l29_sum := loopS_ok tabUb2_ok follows vLo_l29_E vLo_l29_R (fun v => by kernel_rfl) (LOK_of _ _ (LOK_nil'))
def vLo_s0 (x1 x2 : Int) (g : List (List Int)) (gn : Bool) (st : Int) (p : List (List Int)) : Option (X × vLo_l29_T) := lrun vLo_l29_st (18446744073709551616 : Nat) (vLo_l29_T.mk (0 : Int) false (pBo_0 x1 p) (pBo_1 x1 p) x2 (0 : Int) g gn st p)
def vLo_0 (x1 x2 : Int) (g : List (List Int)) (gn : Bool) (st : Int) (p : List (List Int)) : Int := bif isX X.r (vLo_s0 x1 x2 g gn st p) then vLo_l29_T.a0 (V.valOf (vLo_s0 x1 x2 g gn st p)) else vLo_l29_T.a3 (V.valOf (vLo_s0 x1 x2 g gn st p))
def vLo_1 (x1 x2 : Int) (g : List (List Int)) (gn : Bool) (st : Int) (p : List (List Int)) : Bool := bif isX X.r (vLo_s0 x1 x2 g gn st p) then vLo_l29_T.a1 (V.valOf (vLo_s0 x1 x2 g gn st p)) else true
def vLo_2 (x1 x2 : Int) (g : List (List Int)) (gn : Bool) (st : Int) (p : List (List Int)) : List (List Int) := bif isX X.r (vLo_s0 x1 x2 g gn st p) then vLo_l29_T.a6 (V.valOf (vLo_s0 x1 x2 g gn st p)) else vLo_l29_T.a6 (V.valOf (vLo_s0 x1 x2 g gn st p))
def vLo_3 (x1 x2 : Int) (g : List (List Int)) (gn : Bool) (st : Int) (p : List (List Int)) : Bool := bif isX X.r (vLo_s0 x1 x2 g gn st p) then vLo_l29_T.a7 (V.valOf (vLo_s0 x1 x2 g gn st p)) else vLo_l29_T.a7 (V.valOf (vLo_s0 x1 x2 g gn st p))
def vLo_4 (x1 x2 : Int) (g : List (List Int)) (gn : Bool) (st : Int) (p : List (List Int)) : Int := bif isX X.r (vLo_s0 x1 x2 g gn st p) then vLo_l29_T.a8 (V.valOf (vLo_s0 x1 x2 g gn st p)) else vLo_l29_T.a8 (V.valOf (vLo_s0 x1 x2 g gn st p))
def vLo_o (x1 x2 : Int) (g : List (List Int)) (gn : Bool) (st : Int) (r0 : Bool) (p : List (List Int)) : List Prop := [pBo_s0 x1 = false → pBo_s1 x1 p = false → (0 : Int) ≤ x1 ∧ x1 < Int.ofNat (List.length p), (!pBo_s2 x1 p) = true → (0 : Int) ≤ x1 ∧ x1 < Int.ofNat (List.length p), lok vLo_l29_st (18446744073709551616 : Nat) (vLo_l29_T.mk (0 : Int) false (pBo_0 x1 p) (pBo_1 x1 p) x2 (0 : Int) g gn st p)]
theorem vLo_p (x1 x2 : Int) (g : List (List Int)) (gn : Bool) (st : Int) (r0 : Bool) (p : List (List Int)) : evG Try.prog tabUb2 2000 149 [0, 1, 2, 6, 7, 8, 9, 21, 22, 23, 28] [(29, vLo_l29_sum)] [0] [.a (.ptr 0 0), .a (.int true .i64 x1), .a (.int true .i64 x2)] (padBs [⟨⟨0, 51, false, some ⟨0, [.int .i64, .int .i64, .int .i64, .int .i64], g, some 12⟩⟩, [some (.bool true gn), some (.int true .i64 st), some (.vec 1 0 5)]⟩, ⟨⟨0, 0, r0, some ⟨0, [.int .u8, .int .u8, .int .u8, .int .u8, .int .i16], p, none⟩⟩, []⟩]) = some (vLo_o x1 x2 g gn st r0 p, LV.t [LV.a (At.int true IntKind.i64 (vLo_0 x1 x2 g gn st p)), LV.a (At.bool true (vLo_1 x1 x2 g gn st p))], padOut [some (BC.mk (Hd.mk (nat_lit 0) (nat_lit 51) false (some (Rw.mk (nat_lit 0) [Kd.int IntKind.i64, Kd.int IntKind.i64, Kd.int IntKind.i64, Kd.int IntKind.i64] (vLo_2 x1 x2 g gn st p) (some (nat_lit 12))))) [some (At.bool true (vLo_3 x1 x2 g gn st p)), some (At.int true IntKind.i64 (vLo_4 x1 x2 g gn st p)), some (At.vec (nat_lit 1) (nat_lit 0) (nat_lit 5))]), none]) := by kernel_rfl
def vLo_c0 : Con
  | [.a (.ptr 0 0), .a (.int true .i64 x1), .a (.int true .i64 x2)], [⟨⟨0, 51, false, some ⟨0, [.int .i64, .int .i64, .int .i64, .int .i64], g, some 12⟩⟩, [some (.bool true gn), some (.int true .i64 st), some (.vec 1 0 5)]⟩, ⟨⟨0, 0, r0, some ⟨0, [.int .u8, .int .u8, .int .u8, .int .u8, .int .i16], p, none⟩⟩, []⟩] => some (vLo_o x1 x2 g gn st r0 p, LV.t [LV.a (At.int true IntKind.i64 (vLo_0 x1 x2 g gn st p)), LV.a (At.bool true (vLo_1 x1 x2 g gn st p))], [some (BC.mk (Hd.mk (nat_lit 0) (nat_lit 51) false (some (Rw.mk (nat_lit 0) [Kd.int IntKind.i64, Kd.int IntKind.i64, Kd.int IntKind.i64, Kd.int IntKind.i64] (vLo_2 x1 x2 g gn st p) (some (nat_lit 12))))) [some (At.bool true (vLo_3 x1 x2 g gn st p)), some (At.int true IntKind.i64 (vLo_4 x1 x2 g gn st p)), some (At.vec (nat_lit 1) (nat_lit 0) (nat_lit 5))]), none])
  | _, _ => none
def vLo_c : Con := packC vLo_c0
theorem vLo_ok : ConOK Try.prog 149 (normC vLo_c) := normC_ok (packC_ok (by
  intro args bs obs lv out h ho φ vs w may ha hM
  unfold vLo_c0 at h
  split at h
  · simp only [Option.some.injEq, Prod.mk.injEq] at h
    obtain ⟨rfl, rfl, rfl⟩ := h
    rename_i x1 x2 g gn st r0 p
    exact evG_okL' tabUb2_ok follows (LOK_cons (show subs (bodyOf Try.prog 149) 1 29 = [.block (blockOf (subs (bodyOf Try.prog 149) 1 29)) (.loop vLo_l29_code)] from by kernel_rfl) vLo_l29_sok (LOK_nil')) _ _ _ _ _ (vLo_p x1 x2 g gn st r0 p) ho φ vs w may ha hM
  · cases h))
theorem vLo_en : Enters Try.prog 149 := fun args => by kernel_rfl
-- 2605 1698 18 ms

def tabUb3 : Tab := (149, normC vLo_c) :: tabUb2
theorem tabUb3_ok : TOK Try.prog tabUb3 := TOK.cons vLo_en vLo_ok (tabUb2_ok)

end Go.Proofs.Ytcdejlgophpdjaa
end

section
namespace Go.Proofs.Ytcdejlgophpdjaa
open Go Go.RowKit Go.Proofs.Ytcdejlgophpdjaa.V
set_option linter.unusedVariables false

/-! (*azulejo/vm.machine).step -/
def vSt4_s0 (x1 : Int) (p : List (List Int)) : Bool := rget p (Int.toNat x1) (0 : Nat) == (0 : Int)
def vSt4_s1 (x1 : Int) (p : List (List Int)) : Bool := rget p (Int.toNat x1) (0 : Nat) == (1 : Int)
def vSt4_s2 (x1 : Int) (p : List (List Int)) : Bool := rget p (Int.toNat x1) (0 : Nat) == (2 : Int)
def vSt4_s3 (x1 : Int) (p : List (List Int)) : Bool := rget p (Int.toNat x1) (0 : Nat) == (3 : Int)
def vSt4_s4 (x1 : Int) (p : List (List Int)) : Bool := rget p (Int.toNat x1) (0 : Nat) == (4 : Int)
def vSt4_s5 (x1 : Int) (p : List (List Int)) : Bool := rget p (Int.toNat x1) (0 : Nat) == (5 : Int)
def vSt4_s6 (x1 : Int) (p : List (List Int)) : Bool := rget p (Int.toNat x1) (0 : Nat) == (6 : Int)
def vSt4_s7 (x1 : Int) (p : List (List Int)) : Bool := rget p (Int.toNat x1) (0 : Nat) == (7 : Int)
def vSt4_s8 (x1 : Int) (p : List (List Int)) : Bool := rget p (Int.toNat x1) (0 : Nat) == (8 : Int)
def vSt4_s9 (x1 : Int) (p : List (List Int)) : Bool := rget p (Int.toNat x1) (0 : Nat) == (9 : Int)
def vSt4_s10 (x1 : Int) (p : List (List Int)) : Bool := rget p (Int.toNat x1) (0 : Nat) == (10 : Int)
def vSt4_s11 (x1 : Int) (p : List (List Int)) : Bool := rget p (Int.toNat x1) (0 : Nat) == (11 : Int)
def vSt4_s12 (x1 : Int) (g p : List (List Int)) : Int := rget g (Int.toNat (rget p (Int.toNat x1) (2 : Nat))) (0 : Nat)
def vSt4_s13 (p : List (List Int)) : List (List Int) := Rw.l (Rw.mk (0 : Nat) [Kd.int IntKind.u8, Kd.int IntKind.u8, Kd.int IntKind.u8, Kd.int IntKind.u8, Kd.int IntKind.i16] p none)
def vSt4_s14 : Nat := (0 : Nat) + (1 : Nat) + (1 : Nat)
def vSt4_s15 (x1 : Int) (g p : List (List Int)) : Bool := decide (vSt4_s12 x1 g p < (0 : Int))
def vSt4_s16 (x1 : Int) (p : List (List Int)) : Bool := rget p (Int.toNat x1) (0 : Nat) == (12 : Int)
def vSt4_s17 (x1 : Int) (p : List (List Int)) : Bool := rget p (Int.toNat x1) (0 : Nat) == (13 : Int)
def vSt4_s18 (x1 : Int) (g p : List (List Int)) : Bool := bif vSt4_s0 x1 p then true else !vSt4_s1 x1 p && (!vSt4_s2 x1 p && (!vSt4_s3 x1 p && (!vSt4_s4 x1 p && (!vSt4_s5 x1 p && (!vSt4_s6 x1 p && (!vSt4_s7 x1 p && (!vSt4_s8 x1 p && (!vSt4_s9 x1 p && (!vSt4_s10 x1 p && bif vSt4_s11 x1 p then vSt4_s15 x1 g p else bif vSt4_s16 x1 p then true else vSt4_s17 x1 p && vSt4_s15 x1 g p)))))))))
def vSt4_s19 (x1 : Int) : Int := IntKind.wrap IntKind.i64 (x1 + (1 : Int))
def vSt4_s20 (st : Int) : Int := IntKind.wrap IntKind.i64 (st + (1 : Int))
def vSt4_0 (x1 : Int) (g : List (List Int)) (gn : Bool) (st : Int) (p : List (List Int)) : Int := bif vSt4_s18 x1 g p then bif vSt4_s0 x1 p then (0 : Int) else bif vSt4_s11 x1 p then IntKind.wrap IntKind.i64 (vSt4_s19 x1 + IntKind.wrap IntKind.i64 (rget p (Int.toNat x1) (4 : Nat))) else bif vSt4_s16 x1 p then vLo_0 x1 (IntKind.wrap IntKind.i64 (rget p (Int.toNat x1) (4 : Nat))) g gn (vSt4_s20 st) p else (0 : Int) else vSt4_s19 x1
def vSt4_1 (x1 : Int) (g : List (List Int)) (gn : Bool) (st : Int) (p : List (List Int)) : Bool := bif vSt4_s18 x1 g p then bif vSt4_s0 x1 p then false else bif vSt4_s11 x1 p then true else bif vSt4_s16 x1 p then vLo_1 x1 (IntKind.wrap IntKind.i64 (rget p (Int.toNat x1) (4 : Nat))) g gn (vSt4_s20 st) p else false else true
def vSt4_s21 (x1 : Int) (g p : List (List Int)) : Int := rget g (Int.toNat (rget p (Int.toNat x1) (2 : Nat))) (1 : Nat)
def vSt4_s22 (x1 : Int) (g p : List (List Int)) : Int := rget g (Int.toNat (rget p (Int.toNat x1) (2 : Nat))) (2 : Nat)
def vSt4_s23 (x1 : Int) (g p : List (List Int)) : Int := rget g (Int.toNat (rget p (Int.toNat x1) (2 : Nat))) (3 : Nat)
def vSt4_s24 (x1 : Int) (g p : List (List Int)) : List Int := [vSt4_s12 x1 g p, vSt4_s21 x1 g p, vSt4_s22 x1 g p, vSt4_s23 x1 g p]
def vSt4_s25 (x1 : Int) (p : List (List Int)) : Int := IntKind.wrap IntKind.i64 (IntKind.wrap IntKind.i64 (rget p (Int.toNat x1) (4 : Nat)) * (2 : Int) ^ min (Int.toNat (8 : Int)) (IntKind.bits IntKind.i64))
def vSt4_s26 (x1 : Int) (p : List (List Int)) : Bool := decide (rget p (Int.toNat x1) (3 : Nat) < (12 : Int))
def vSt4_s27 (x1 : Int) (g p : List (List Int)) : Int := bif vSt4_s26 x1 p then rget g (Int.toNat (rget p (Int.toNat x1) (3 : Nat))) (0 : Nat) else (0 : Int)
def vSt4_s28 (x1 : Int) (g p : List (List Int)) : Int := bif vSt4_s26 x1 p then rget g (Int.toNat (rget p (Int.toNat x1) (3 : Nat))) (1 : Nat) else (0 : Int)
def vSt4_s29 (x1 : Int) (g p : List (List Int)) : Int := bif vSt4_s26 x1 p then rget g (Int.toNat (rget p (Int.toNat x1) (3 : Nat))) (2 : Nat) else (0 : Int)
def vSt4_s30 (x1 : Int) (g p : List (List Int)) : Int := bif vSt4_s26 x1 p then rget g (Int.toNat (rget p (Int.toNat x1) (3 : Nat))) (3 : Nat) else (0 : Int)
def vSt4_s31 (x1 : Int) (g p : List (List Int)) : Int := vDo_0 (vSt4_s12 x1 g p) (vSt4_s21 x1 g p) (vSt4_s22 x1 g p) (vSt4_s23 x1 g p) (vSt4_s27 x1 g p) (vSt4_s28 x1 g p) (vSt4_s29 x1 g p) (vSt4_s30 x1 g p)
def vSt4_s32 : Int := Int.ofNat ((2 : Nat) ^ IntKind.bits IntKind.u8)
def vSt4_s33 (x1 : Int) (p : List (List Int)) : Int := IntKind.wrap IntKind.u8 (Int.ofNat (Int.toNat (rget p (Int.toNat x1) (3 : Nat) % vSt4_s32) &&& Int.toNat ((3 : Int) % vSt4_s32)))
def vSt4_s34 (x1 : Int) (g p : List (List Int)) : Int := List.getD (vSt4_s24 x1 g p) (Int.toNat (vSt4_s33 x1 p)) (0 : Int)
def vSt4_s35 : Int := Int.ofNat ((2 : Nat) ^ IntKind.bits IntKind.i16)
def vSt4_s36 (x1 : Int) (p : List (List Int)) : Int := IntKind.wrap IntKind.i16 (Int.ofNat (Int.toNat (rget p (Int.toNat x1) (4 : Nat) % vSt4_s35) &&& Int.toNat ((3 : Int) % vSt4_s35)))
def vSt4_s37 (x1 : Int) (p : List (List Int)) : Bool := rget p (Int.toNat x1) (0 : Nat) == (14 : Int)
def vSt4_s38 (x1 : Int) (p : List (List Int)) : Int := IntKind.wrap IntKind.u8 (rget p (Int.toNat x1) (2 : Nat) + (1 : Int))
def vSt4_s39 (x1 : Int) (p : List (List Int)) : Int := IntKind.wrap IntKind.u8 (rget p (Int.toNat x1) (2 : Nat) + (2 : Int))
def vSt4_s40 (x1 : Int) (p : List (List Int)) : Int := IntKind.wrap IntKind.u8 (rget p (Int.toNat x1) (2 : Nat) + (3 : Int))
def vSt4_2 (x1 : Int) (g : List (List Int)) (gn : Bool) (st : Int) (p : List (List Int)) : List (List Int) := bif vSt4_s18 x1 g p then bif vSt4_s0 x1 p then g else bif vSt4_s11 x1 p then g else bif vSt4_s16 x1 p then vLo_2 x1 (IntKind.wrap IntKind.i64 (rget p (Int.toNat x1) (4 : Nat))) g gn (vSt4_s20 st) p else g else bif vSt4_s1 x1 p then List.set g (Int.toNat (rget p (Int.toNat x1) (1 : Nat))) (vSt4_s24 x1 g p) else bif vSt4_s2 x1 p then List.set g (Int.toNat (rget p (Int.toNat x1) (1 : Nat))) [vSt4_s25 x1 p, vSt4_s25 x1 p, vSt4_s25 x1 p, vSt4_s25 x1 p] else bif vSt4_s3 x1 p then List.set g (Int.toNat (rget p (Int.toNat x1) (1 : Nat))) [fAd_0 (vSt4_s12 x1 g p) (vSt4_s27 x1 g p), fAd_0 (vSt4_s21 x1 g p) (vSt4_s28 x1 g p), fAd_0 (vSt4_s22 x1 g p) (vSt4_s29 x1 g p), fAd_0 (vSt4_s23 x1 g p) (vSt4_s30 x1 g p)] else bif vSt4_s4 x1 p then List.set g (Int.toNat (rget p (Int.toNat x1) (1 : Nat))) [fSu_0 (vSt4_s12 x1 g p) (vSt4_s27 x1 g p), fSu_0 (vSt4_s21 x1 g p) (vSt4_s28 x1 g p), fSu_0 (vSt4_s22 x1 g p) (vSt4_s29 x1 g p), fSu_0 (vSt4_s23 x1 g p) (vSt4_s30 x1 g p)] else bif vSt4_s5 x1 p then List.set g (Int.toNat (rget p (Int.toNat x1) (1 : Nat))) [fMu_0 (vSt4_s12 x1 g p) (vSt4_s27 x1 g p), fMu_0 (vSt4_s21 x1 g p) (vSt4_s28 x1 g p), fMu_0 (vSt4_s22 x1 g p) (vSt4_s29 x1 g p), fMu_0 (vSt4_s23 x1 g p) (vSt4_s30 x1 g p)] else bif vSt4_s6 x1 p then List.set g (Int.toNat (rget p (Int.toNat x1) (1 : Nat))) [vMi1_0 (vSt4_s12 x1 g p) (vSt4_s27 x1 g p), vMi1_0 (vSt4_s21 x1 g p) (vSt4_s28 x1 g p), vMi1_0 (vSt4_s22 x1 g p) (vSt4_s29 x1 g p), vMi1_0 (vSt4_s23 x1 g p) (vSt4_s30 x1 g p)] else bif vSt4_s7 x1 p then List.set g (Int.toNat (rget p (Int.toNat x1) (1 : Nat))) [vMa1_0 (vSt4_s12 x1 g p) (vSt4_s27 x1 g p), vMa1_0 (vSt4_s21 x1 g p) (vSt4_s28 x1 g p), vMa1_0 (vSt4_s22 x1 g p) (vSt4_s29 x1 g p), vMa1_0 (vSt4_s23 x1 g p) (vSt4_s30 x1 g p)] else bif vSt4_s8 x1 p then List.set g (Int.toNat (rget p (Int.toNat x1) (1 : Nat))) [vSt4_s31 x1 g p, vSt4_s31 x1 g p, vSt4_s31 x1 g p, vSt4_s31 x1 g p] else bif vSt4_s9 x1 p then List.set g (Int.toNat (rget p (Int.toNat x1) (1 : Nat))) [vSt4_s34 x1 g p, vSt4_s34 x1 g p, vSt4_s34 x1 g p, vSt4_s34 x1 g p] else bif vSt4_s10 x1 p then rset g (Int.toNat (rget p (Int.toNat x1) (1 : Nat))) ((0 : Nat) + Int.toNat (vSt4_s33 x1 p)) [List.getD (vSt4_s24 x1 g p) (Int.toNat (vSt4_s36 x1 p)) (0 : Int)] else bif vSt4_s11 x1 p then g else bif vSt4_s17 x1 p then g else bif vSt4_s37 x1 p then List.set g (Int.toNat (rget p (Int.toNat x1) (1 : Nat))) [vTi_0 (vSt4_s12 x1 g p) (vSt4_s21 x1 g p) (vSt4_s22 x1 g p) (vSt4_s23 x1 g p) (vSt4_s27 x1 g p) (vSt4_s28 x1 g p) (vSt4_s29 x1 g p) (vSt4_s30 x1 g p), vTi_1 (rget g (Int.toNat (vSt4_s38 x1 p)) (0 : Nat)) (rget g (Int.toNat (vSt4_s38 x1 p)) (1 : Nat)) (rget g (Int.toNat (vSt4_s38 x1 p)) (2 : Nat)) (rget g (Int.toNat (vSt4_s38 x1 p)) (3 : Nat)) (vSt4_s27 x1 g p) (vSt4_s28 x1 g p) (vSt4_s29 x1 g p) (vSt4_s30 x1 g p), vTi_2 (rget g (Int.toNat (vSt4_s39 x1 p)) (0 : Nat)) (rget g (Int.toNat (vSt4_s39 x1 p)) (1 : Nat)) (rget g (Int.toNat (vSt4_s39 x1 p)) (2 : Nat)) (rget g (Int.toNat (vSt4_s39 x1 p)) (3 : Nat)) (vSt4_s27 x1 g p) (vSt4_s28 x1 g p) (vSt4_s29 x1 g p) (vSt4_s30 x1 g p), vTi_3 (rget g (Int.toNat (vSt4_s40 x1 p)) (0 : Nat)) (rget g (Int.toNat (vSt4_s40 x1 p)) (1 : Nat)) (rget g (Int.toNat (vSt4_s40 x1 p)) (2 : Nat)) (rget g (Int.toNat (vSt4_s40 x1 p)) (3 : Nat)) (vSt4_s27 x1 g p) (vSt4_s28 x1 g p) (vSt4_s29 x1 g p) (vSt4_s30 x1 g p)] else g
def vSt4_3 (x1 : Int) (g : List (List Int)) (gn : Bool) (st : Int) (p : List (List Int)) : Bool := bif vSt4_s18 x1 g p then bif vSt4_s0 x1 p then gn else bif vSt4_s11 x1 p then gn else bif vSt4_s16 x1 p then vLo_3 x1 (IntKind.wrap IntKind.i64 (rget p (Int.toNat x1) (4 : Nat))) g gn (vSt4_s20 st) p else true else gn
def vSt4_4 (x1 : Int) (g : List (List Int)) (gn : Bool) (st : Int) (p : List (List Int)) : Int := bif vSt4_s18 x1 g p then bif vSt4_s0 x1 p then vSt4_s20 st else bif vSt4_s11 x1 p then vSt4_s20 st else bif vSt4_s16 x1 p then vLo_4 x1 (IntKind.wrap IntKind.i64 (rget p (Int.toNat x1) (4 : Nat))) g gn (vSt4_s20 st) p else vSt4_s20 st else vSt4_s20 st
def vSt4_o (x1 : Int) (g : List (List Int)) (gn : Bool) (st : Int) (r0 : Bool) (p : List (List Int)) : List Prop := [(0 : Int) ≤ x1 ∧ x1 < Int.ofNat (List.length p), (0 : Int) ≤ rget p (Int.toNat x1) (2 : Nat) ∧ rget p (Int.toNat x1) (2 : Nat) < Int.ofNat (12 : Nat), (0 : Int) ≤ rget p (Int.toNat x1) (1 : Nat) ∧ rget p (Int.toNat x1) (1 : Nat) < Int.ofNat (12 : Nat), vSt4_s26 x1 p = true → (0 : Int) ≤ rget p (Int.toNat x1) (3 : Nat) ∧ rget p (Int.toNat x1) (3 : Nat) < Int.ofNat (12 : Nat), vSt4_s0 x1 p = false → vSt4_s1 x1 p = false → vSt4_s2 x1 p = false → vSt4_s3 x1 p = false → vSt4_s4 x1 p = false → vSt4_s5 x1 p = false → vSt4_s6 x1 p = false → vSt4_s7 x1 p = false → vSt4_s8 x1 p = false → vSt4_s9 x1 p = true → (0 : Int) ≤ vSt4_s33 x1 p ∧ vSt4_s33 x1 p < Int.ofNat (4 : Nat), vSt4_s0 x1 p = false → vSt4_s1 x1 p = false → vSt4_s2 x1 p = false → vSt4_s3 x1 p = false → vSt4_s4 x1 p = false → vSt4_s5 x1 p = false → vSt4_s6 x1 p = false → vSt4_s7 x1 p = false → vSt4_s8 x1 p = false → vSt4_s9 x1 p = true → Int.toNat (vSt4_s33 x1 p) < (4 : Nat), vSt4_s0 x1 p = false → vSt4_s1 x1 p = false → vSt4_s2 x1 p = false → vSt4_s3 x1 p = false → vSt4_s4 x1 p = false → vSt4_s5 x1 p = false → vSt4_s6 x1 p = false → vSt4_s7 x1 p = false → vSt4_s8 x1 p = false → vSt4_s9 x1 p = false → vSt4_s10 x1 p = true → (0 : Int) ≤ vSt4_s36 x1 p ∧ vSt4_s36 x1 p < Int.ofNat (4 : Nat), vSt4_s0 x1 p = false → vSt4_s1 x1 p = false → vSt4_s2 x1 p = false → vSt4_s3 x1 p = false → vSt4_s4 x1 p = false → vSt4_s5 x1 p = false → vSt4_s6 x1 p = false → vSt4_s7 x1 p = false → vSt4_s8 x1 p = false → vSt4_s9 x1 p = false → vSt4_s10 x1 p = true → Int.toNat (vSt4_s36 x1 p) < (4 : Nat), vSt4_s0 x1 p = false → vSt4_s1 x1 p = false → vSt4_s2 x1 p = false → vSt4_s3 x1 p = false → vSt4_s4 x1 p = false → vSt4_s5 x1 p = false → vSt4_s6 x1 p = false → vSt4_s7 x1 p = false → vSt4_s8 x1 p = false → vSt4_s9 x1 p = false → vSt4_s10 x1 p = true → (0 : Int) ≤ vSt4_s33 x1 p ∧ vSt4_s33 x1 p < Int.ofNat (4 : Nat), vSt4_s0 x1 p = false → vSt4_s1 x1 p = false → vSt4_s2 x1 p = false → vSt4_s3 x1 p = false → vSt4_s4 x1 p = false → vSt4_s5 x1 p = false → vSt4_s6 x1 p = false → vSt4_s7 x1 p = false → vSt4_s8 x1 p = false → vSt4_s9 x1 p = false → vSt4_s10 x1 p = false → vSt4_s11 x1 p = false → vSt4_s16 x1 p = true → pBo_s0 x1 = false → pBo_s1 x1 p = false → (0 : Int) ≤ x1 ∧ x1 < Int.ofNat (List.length p), vSt4_s0 x1 p = false → vSt4_s1 x1 p = false → vSt4_s2 x1 p = false → vSt4_s3 x1 p = false → vSt4_s4 x1 p = false → vSt4_s5 x1 p = false → vSt4_s6 x1 p = false → vSt4_s7 x1 p = false → vSt4_s8 x1 p = false → vSt4_s9 x1 p = false → vSt4_s10 x1 p = false → vSt4_s11 x1 p = false → vSt4_s16 x1 p = true → (!pBo_s2 x1 p) = true → (0 : Int) ≤ x1 ∧ x1 < Int.ofNat (List.length p), vSt4_s0 x1 p = false → vSt4_s1 x1 p = false → vSt4_s2 x1 p = false → vSt4_s3 x1 p = false → vSt4_s4 x1 p = false → vSt4_s5 x1 p = false → vSt4_s6 x1 p = false → vSt4_s7 x1 p = false → vSt4_s8 x1 p = false → vSt4_s9 x1 p = false → vSt4_s10 x1 p = false → vSt4_s11 x1 p = false → vSt4_s16 x1 p = true → lok vLo_l29_st (18446744073709551616 : Nat) (vLo_l29_T.mk (0 : Int) false (pBo_0 x1 p) (pBo_1 x1 p) (IntKind.wrap IntKind.i64 (rget p (Int.toNat x1) (4 : Nat))) (0 : Int) g gn (vSt4_s20 st) p), vSt4_s0 x1 p = false → vSt4_s1 x1 p = false → vSt4_s2 x1 p = false → vSt4_s3 x1 p = false → vSt4_s4 x1 p = false → vSt4_s5 x1 p = false → vSt4_s6 x1 p = false → vSt4_s7 x1 p = false → vSt4_s8 x1 p = false → vSt4_s9 x1 p = false → vSt4_s10 x1 p = false → vSt4_s11 x1 p = false → vSt4_s16 x1 p = false → vSt4_s17 x1 p = false → vSt4_s37 x1 p = true → (0 : Int) ≤ vSt4_s38 x1 p ∧ vSt4_s38 x1 p < Int.ofNat (12 : Nat), vSt4_s0 x1 p = false → vSt4_s1 x1 p = false → vSt4_s2 x1 p = false → vSt4_s3 x1 p = false → vSt4_s4 x1 p = false → vSt4_s5 x1 p = false → vSt4_s6 x1 p = false → vSt4_s7 x1 p = false → vSt4_s8 x1 p = false → vSt4_s9 x1 p = false → vSt4_s10 x1 p = false → vSt4_s11 x1 p = false → vSt4_s16 x1 p = false → vSt4_s17 x1 p = false → vSt4_s37 x1 p = true → (0 : Int) ≤ vSt4_s39 x1 p ∧ vSt4_s39 x1 p < Int.ofNat (12 : Nat), vSt4_s0 x1 p = false → vSt4_s1 x1 p = false → vSt4_s2 x1 p = false → vSt4_s3 x1 p = false → vSt4_s4 x1 p = false → vSt4_s5 x1 p = false → vSt4_s6 x1 p = false → vSt4_s7 x1 p = false → vSt4_s8 x1 p = false → vSt4_s9 x1 p = false → vSt4_s10 x1 p = false → vSt4_s11 x1 p = false → vSt4_s16 x1 p = false → vSt4_s17 x1 p = false → vSt4_s37 x1 p = true → (0 : Int) ≤ vSt4_s40 x1 p ∧ vSt4_s40 x1 p < Int.ofNat (12 : Nat)]
theorem vSt4_p (x1 : Int) (g : List (List Int)) (gn : Bool) (st : Int) (r0 : Bool) (p : List (List Int)) : evG Try.prog tabUb3 2000 136 [0, 1, 4, 5, 6, 7, 8, 9, 43, 53, 54, 56, 61, 70, 77, 84, 91, 98, 105, 113, 123, 136, 140, 147, 157, 161, 166] [] [0] [.a (.ptr 0 0), .a (.int true .i64 x1)] (padBs [⟨⟨0, 51, false, some ⟨0, [.int .i64, .int .i64, .int .i64, .int .i64], g, some 12⟩⟩, [some (.bool true gn), some (.int true .i64 st), some (.vec 1 0 5)]⟩, ⟨⟨0, 0, r0, some ⟨0, [.int .u8, .int .u8, .int .u8, .int .u8, .int .i16], p, none⟩⟩, []⟩]) = some (vSt4_o x1 g gn st r0 p, LV.t [LV.a (At.int true IntKind.i64 (vSt4_0 x1 g gn st p)), LV.a (At.bool true (vSt4_1 x1 g gn st p))], padOut [some (BC.mk (Hd.mk (nat_lit 0) (nat_lit 51) false (some (Rw.mk (nat_lit 0) [Kd.int IntKind.i64, Kd.int IntKind.i64, Kd.int IntKind.i64, Kd.int IntKind.i64] (vSt4_2 x1 g gn st p) (some (nat_lit 12))))) [some (At.bool true (vSt4_3 x1 g gn st p)), some (At.int true IntKind.i64 (vSt4_4 x1 g gn st p)), some (At.vec (nat_lit 1) (nat_lit 0) (nat_lit 5))]), none]) := by kernel_rfl
def vSt4_c0 : Con
  | [.a (.ptr 0 0), .a (.int true .i64 x1)], [⟨⟨0, 51, false, some ⟨0, [.int .i64, .int .i64, .int .i64, .int .i64], g, some 12⟩⟩, [some (.bool true gn), some (.int true .i64 st), some (.vec 1 0 5)]⟩, ⟨⟨0, 0, r0, some ⟨0, [.int .u8, .int .u8, .int .u8, .int .u8, .int .i16], p, none⟩⟩, []⟩] => some (vSt4_o x1 g gn st r0 p, LV.t [LV.a (At.int true IntKind.i64 (vSt4_0 x1 g gn st p)), LV.a (At.bool true (vSt4_1 x1 g gn st p))], [some (BC.mk (Hd.mk (nat_lit 0) (nat_lit 51) false (some (Rw.mk (nat_lit 0) [Kd.int IntKind.i64, Kd.int IntKind.i64, Kd.int IntKind.i64, Kd.int IntKind.i64] (vSt4_2 x1 g gn st p) (some (nat_lit 12))))) [some (At.bool true (vSt4_3 x1 g gn st p)), some (At.int true IntKind.i64 (vSt4_4 x1 g gn st p)), some (At.vec (nat_lit 1) (nat_lit 0) (nat_lit 5))]), none])
  | _, _ => none
def vSt4_c : Con := packC vSt4_c0
theorem vSt4_ok : ConOK Try.prog 136 (normC vSt4_c) := normC_ok (packC_ok (by
  intro args bs obs lv out h ho φ vs w may ha hM
  unfold vSt4_c0 at h
  split at h
  · simp only [Option.some.injEq, Prod.mk.injEq] at h
    obtain ⟨rfl, rfl, rfl⟩ := h
    rename_i x1 g gn st r0 p
    exact evG_ok tabUb3_ok follows _ _ _ _ _ (vSt4_p x1 g gn st r0 p) ho φ vs w may ha hM
  · cases h))
theorem vSt4_en : Enters Try.prog 136 := fun args => by kernel_rfl
-- 4010 10328 125 ms

def tabUb4 : Tab := (136, normC vSt4_c) :: tabUb3
theorem tabUb4_ok : TOK Try.prog tabUb4 := TOK.cons vSt4_en vSt4_ok (tabUb3_ok)

end Go.Proofs.Ytcdejlgophpdjaa
end

section
namespace Go.Proofs.Ytcdejlgophpdjaa
open Go Go.RowKit Go.Proofs.Ytcdejlgophpdjaa.V
set_option linter.unusedVariables false

/-! (*azulejo/vm.machine).range_ -/
noncomputable def vRa5_l13_code : Go.Code := loopOf (subs (bodyOf Try.prog 127) 1 13)
structure vRa5_l13_T where
  a0 : Int
  a1 : Bool
  a2 : Int
  a3 : List (List Int)
  a4 : Bool
  a5 : Int
  a6 : List (List Int)
  deriving Inhabited
def vRa5_l13_hd0 (v : vRa5_l13_T) : HS := HS.mk [(nat_lit 0, LV.a (At.ptr (nat_lit 0) (nat_lit 0))), (nat_lit 2, LV.a (At.int true IntKind.i64 (vRa5_l13_T.a0 v))), (nat_lit 6, LV.a (At.bool true (vRa5_l13_T.a1 v))), (nat_lit 7, LV.a (At.int true IntKind.i64 (vRa5_l13_T.a2 v)))] [BC.mk (Hd.mk (nat_lit 0) (nat_lit 51) false (some (Rw.mk (nat_lit 0) [Kd.int IntKind.i64, Kd.int IntKind.i64, Kd.int IntKind.i64, Kd.int IntKind.i64] (vRa5_l13_T.a3 v) (some (nat_lit 12))))) [some (At.bool true (vRa5_l13_T.a4 v)), some (At.int true IntKind.i64 (vRa5_l13_T.a5 v)), some (At.vec (nat_lit 1) (nat_lit 0) (nat_lit 5))], BC.mk (Hd.mk (nat_lit 0) (nat_lit 0) true (some (Rw.mk (nat_lit 0) [Kd.int IntKind.u8, Kd.int IntKind.u8, Kd.int IntKind.u8, Kd.int IntKind.u8, Kd.int IntKind.i16] (vRa5_l13_T.a6 v) none))) []]
def vRa5_l13_hd (v : vRa5_l13_T) : HS := padH (vRa5_l13_hd0 v)
def vRa5_l13_s0 (v : vRa5_l13_T) : Bool := decide (vRa5_l13_T.a2 v < vRa5_l13_T.a0 v)
def vRa5_l13_s1 (v : vRa5_l13_T) : Bool := !vSt4_1 (vRa5_l13_T.a2 v) (vRa5_l13_T.a3 v) (vRa5_l13_T.a4 v) (vRa5_l13_T.a5 v) (vRa5_l13_T.a6 v)
def vRa5_l13_st (v : vRa5_l13_T) : List Prop × List (X × Bool × vRa5_l13_T) := ([vRa5_l13_s0 v = true → (0 : Int) ≤ vRa5_l13_T.a2 v ∧ vRa5_l13_T.a2 v < Int.ofNat (List.length (vRa5_l13_T.a6 v)), vRa5_l13_s0 v = true → (0 : Int) ≤ rget (vRa5_l13_T.a6 v) (Int.toNat (vRa5_l13_T.a2 v)) (2 : Nat) ∧ rget (vRa5_l13_T.a6 v) (Int.toNat (vRa5_l13_T.a2 v)) (2 : Nat) < Int.ofNat (12 : Nat), vRa5_l13_s0 v = true → (0 : Int) ≤ rget (vRa5_l13_T.a6 v) (Int.toNat (vRa5_l13_T.a2 v)) (1 : Nat) ∧ rget (vRa5_l13_T.a6 v) (Int.toNat (vRa5_l13_T.a2 v)) (1 : Nat) < Int.ofNat (12 : Nat), vRa5_l13_s0 v = true → vSt4_s26 (vRa5_l13_T.a2 v) (vRa5_l13_T.a6 v) = true → (0 : Int) ≤ rget (vRa5_l13_T.a6 v) (Int.toNat (vRa5_l13_T.a2 v)) (3 : Nat) ∧ rget (vRa5_l13_T.a6 v) (Int.toNat (vRa5_l13_T.a2 v)) (3 : Nat) < Int.ofNat (12 : Nat), vRa5_l13_s0 v = true → vSt4_s0 (vRa5_l13_T.a2 v) (vRa5_l13_T.a6 v) = false → vSt4_s1 (vRa5_l13_T.a2 v) (vRa5_l13_T.a6 v) = false → vSt4_s2 (vRa5_l13_T.a2 v) (vRa5_l13_T.a6 v) = false → vSt4_s3 (vRa5_l13_T.a2 v) (vRa5_l13_T.a6 v) = false → vSt4_s4 (vRa5_l13_T.a2 v) (vRa5_l13_T.a6 v) = false → vSt4_s5 (vRa5_l13_T.a2 v) (vRa5_l13_T.a6 v) = false → vSt4_s6 (vRa5_l13_T.a2 v) (vRa5_l13_T.a6 v) = false → vSt4_s7 (vRa5_l13_T.a2 v) (vRa5_l13_T.a6 v) = false → vSt4_s8 (vRa5_l13_T.a2 v) (vRa5_l13_T.a6 v) = false → vSt4_s9 (vRa5_l13_T.a2 v) (vRa5_l13_T.a6 v) = true → (0 : Int) ≤ vSt4_s33 (vRa5_l13_T.a2 v) (vRa5_l13_T.a6 v) ∧ vSt4_s33 (vRa5_l13_T.a2 v) (vRa5_l13_T.a6 v) < Int.ofNat (4 : Nat), vRa5_l13_s0 v = true → vSt4_s0 (vRa5_l13_T.a2 v) (vRa5_l13_T.a6 v) = false → vSt4_s1 (vRa5_l13_T.a2 v) (vRa5_l13_T.a6 v) = false → vSt4_s2 (vRa5_l13_T.a2 v) (vRa5_l13_T.a6 v) = false → vSt4_s3 (vRa5_l13_T.a2 v) (vRa5_l13_T.a6 v) = false → vSt4_s4 (vRa5_l13_T.a2 v) (vRa5_l13_T.a6 v) = false → vSt4_s5 (vRa5_l13_T.a2 v) (vRa5_l13_T.a6 v) = false → vSt4_s6 (vRa5_l13_T.a2 v) (vRa5_l13_T.a6 v) = false → vSt4_s7 (vRa5_l13_T.a2 v) (vRa5_l13_T.a6 v) = false → vSt4_s8 (vRa5_l13_T.a2 v) (vRa5_l13_T.a6 v) = false → vSt4_s9 (vRa5_l13_T.a2 v) (vRa5_l13_T.a6 v) = true → Int.toNat (vSt4_s33 (vRa5_l13_T.a2 v) (vRa5_l13_T.a6 v)) < (4 : Nat), vRa5_l13_s0 v = true → vSt4_s0 (vRa5_l13_T.a2 v) (vRa5_l13_T.a6 v) = false → vSt4_s1 (vRa5_l13_T.a2 v) (vRa5_l13_T.a6 v) = false → vSt4_s2 (vRa5_l13_T.a2 v) (vRa5_l13_T.a6 v) = false → vSt4_s3 (vRa5_l13_T.a2 v) (vRa5_l13_T.a6 v) = false → vSt4_s4 (vRa5_l13_T.a2 v) (vRa5_l13_T.a6 v) = false → vSt4_s5 (vRa5_l13_T.a2 v) (vRa5_l13_T.a6 v) = false → vSt4_s6 (vRa5_l13_T.a2 v) (vRa5_l13_T.a6 v) = false → vSt4_s7 (vRa5_l13_T.a2 v) (vRa5_l13_T.a6 v) = false → vSt4_s8 (vRa5_l13_T.a2 v) (vRa5_l13_T.a6 v) = false → vSt4_s9 (vRa5_l13_T.a2 v) (vRa5_l13_T.a6 v) = false → vSt4_s10 (vRa5_l13_T.a2 v) (vRa5_l13_T.a6 v) = true → (0 : Int) ≤ vSt4_s36 (vRa5_l13_T.a2 v) (vRa5_l13_T.a6 v) ∧ vSt4_s36 (vRa5_l13_T.a2 v) (vRa5_l13_T.a6 v) < Int.ofNat (4 : Nat), vRa5_l13_s0 v = true → vSt4_s0 (vRa5_l13_T.a2 v) (vRa5_l13_T.a6 v) = false → vSt4_s1 (vRa5_l13_T.a2 v) (vRa5_l13_T.a6 v) = false → vSt4_s2 (vRa5_l13_T.a2 v) (vRa5_l13_T.a6 v) = false → vSt4_s3 (vRa5_l13_T.a2 v) (vRa5_l13_T.a6 v) = false → vSt4_s4 (vRa5_l13_T.a2 v) (vRa5_l13_T.a6 v) = false → vSt4_s5 (vRa5_l13_T.a2 v) (vRa5_l13_T.a6 v) = false → vSt4_s6 (vRa5_l13_T.a2 v) (vRa5_l13_T.a6 v) = false → vSt4_s7 (vRa5_l13_T.a2 v) (vRa5_l13_T.a6 v) = false → vSt4_s8 (vRa5_l13_T.a2 v) (vRa5_l13_T.a6 v) = false → vSt4_s9 (vRa5_l13_T.a2 v) (vRa5_l13_T.a6 v) = false → vSt4_s10 (vRa5_l13_T.a2 v) (vRa5_l13_T.a6 v) = true → Int.toNat (vSt4_s36 (vRa5_l13_T.a2 v) (vRa5_l13_T.a6 v)) < (4 : Nat), vRa5_l13_s0 v = true → vSt4_s0 (vRa5_l13_T.a2 v) (vRa5_l13_T.a6 v) = false → vSt4_s1 (vRa5_l13_T.a2 v) (vRa5_l13_T.a6 v) = false → vSt4_s2 (vRa5_l13_T.a2 v) (vRa5_l13_T.a6 v) = false → vSt4_s3 (vRa5_l13_T.a2 v) (vRa5_l13_T.a6 v) = false → vSt4_s4 (vRa5_l13_T.a2 v) (vRa5_l13_T.a6 v) = false → vSt4_s5 (vRa5_l13_T.a2 v) (vRa5_l13_T.a6 v) = false → vSt4_s6 (vRa5_l13_T.a2 v) (vRa5_l13_T.a6 v) = false → vSt4_s7 (vRa5_l13_T.a2 v) (vRa5_l13_T.a6 v) = false → vSt4_s8 (vRa5_l13_T.a2 v) (vRa5_l13_T.a6 v) = false → vSt4_s9 (vRa5_l13_T.a2 v) (vRa5_l13_T.a6 v) = false → vSt4_s10 (vRa5_l13_T.a2 v) (vRa5_l13_T.a6 v) = true → (0 : Int) ≤ vSt4_s33 (vRa5_l13_T.a2 v) (vRa5_l13_T.a6 v) ∧ vSt4_s33 (vRa5_l13_T.a2 v) (vRa5_l13_T.a6 v) < Int.ofNat (4 : Nat), vRa5_l13_s0 v = true → vSt4_s0 (vRa5_l13_T.a2 v) (vRa5_l13_T.a6 v) = false → vSt4_s1 (vRa5_l13_T.a2 v) (vRa5_l13_T.a6 v) = false → vSt4_s2 (vRa5_l13_T.a2 v) (vRa5_l13_T.a6 v) = false → vSt4_s3 (vRa5_l13_T.a2 v) (vRa5_l13_T.a6 v) = false → vSt4_s4 (vRa5_l13_T.a2 v) (vRa5_l13_T.a6 v) = false → vSt4_s5 (vRa5_l13_T.a2 v) (vRa5_l13_T.a6 v) = false → vSt4_s6 (vRa5_l13_T.a2 v) (vRa5_l13_T.a6 v) = false → vSt4_s7 (vRa5_l13_T.a2 v) (vRa5_l13_T.a6 v) = false → vSt4_s8 (vRa5_l13_T.a2 v) (vRa5_l13_T.a6 v) = false → vSt4_s9 (vRa5_l13_T.a2 v) (vRa5_l13_T.a6 v) = false → vSt4_s10 (vRa5_l13_T.a2 v) (vRa5_l13_T.a6 v) = false → vSt4_s11 (vRa5_l13_T.a2 v) (vRa5_l13_T.a6 v) = false → vSt4_s16 (vRa5_l13_T.a2 v) (vRa5_l13_T.a6 v) = true → pBo_s0 (vRa5_l13_T.a2 v) = false → pBo_s1 (vRa5_l13_T.a2 v) (vRa5_l13_T.a6 v) = false → (0 : Int) ≤ vRa5_l13_T.a2 v ∧ vRa5_l13_T.a2 v < Int.ofNat (List.length (vRa5_l13_T.a6 v)), vRa5_l13_s0 v = true → vSt4_s0 (vRa5_l13_T.a2 v) (vRa5_l13_T.a6 v) = false → vSt4_s1 (vRa5_l13_T.a2 v) (vRa5_l13_T.a6 v) = false → vSt4_s2 (vRa5_l13_T.a2 v) (vRa5_l13_T.a6 v) = false → vSt4_s3 (vRa5_l13_T.a2 v) (vRa5_l13_T.a6 v) = false → vSt4_s4 (vRa5_l13_T.a2 v) (vRa5_l13_T.a6 v) = false → vSt4_s5 (vRa5_l13_T.a2 v) (vRa5_l13_T.a6 v) = false → vSt4_s6 (vRa5_l13_T.a2 v) (vRa5_l13_T.a6 v) = false → vSt4_s7 (vRa5_l13_T.a2 v) (vRa5_l13_T.a6 v) = false → vSt4_s8 (vRa5_l13_T.a2 v) (vRa5_l13_T.a6 v) = false → vSt4_s9 (vRa5_l13_T.a2 v) (vRa5_l13_T.a6 v) = false → vSt4_s10 (vRa5_l13_T.a2 v) (vRa5_l13_T.a6 v) = false → vSt4_s11 (vRa5_l13_T.a2 v) (vRa5_l13_T.a6 v) = false → vSt4_s16 (vRa5_l13_T.a2 v) (vRa5_l13_T.a6 v) = true → (!pBo_s2 (vRa5_l13_T.a2 v) (vRa5_l13_T.a6 v)) = true → (0 : Int) ≤ vRa5_l13_T.a2 v ∧ vRa5_l13_T.a2 v < Int.ofNat (List.length (vRa5_l13_T.a6 v)), vRa5_l13_s0 v = true → vSt4_s0 (vRa5_l13_T.a2 v) (vRa5_l13_T.a6 v) = false → vSt4_s1 (vRa5_l13_T.a2 v) (vRa5_l13_T.a6 v) = false → vSt4_s2 (vRa5_l13_T.a2 v) (vRa5_l13_T.a6 v) = false → vSt4_s3 (vRa5_l13_T.a2 v) (vRa5_l13_T.a6 v) = false → vSt4_s4 (vRa5_l13_T.a2 v) (vRa5_l13_T.a6 v) = false → vSt4_s5 (vRa5_l13_T.a2 v) (vRa5_l13_T.a6 v) = false → vSt4_s6 (vRa5_l13_T.a2 v) (vRa5_l13_T.a6 v) = false → vSt4_s7 (vRa5_l13_T.a2 v) (vRa5_l13_T.a6 v) = false → vSt4_s8 (vRa5_l13_T.a2 v) (vRa5_l13_T.a6 v) = false → vSt4_s9 (vRa5_l13_T.a2 v) (vRa5_l13_T.a6 v) = false → vSt4_s10 (vRa5_l13_T.a2 v) (vRa5_l13_T.a6 v) = false → vSt4_s11 (vRa5_l13_T.a2 v) (vRa5_l13_T.a6 v) = false → vSt4_s16 (vRa5_l13_T.a2 v) (vRa5_l13_T.a6 v) = true → lok vLo_l29_st (18446744073709551616 : Nat) (vLo_l29_T.mk (0 : Int) false (pBo_0 (vRa5_l13_T.a2 v) (vRa5_l13_T.a6 v)) (pBo_1 (vRa5_l13_T.a2 v) (vRa5_l13_T.a6 v)) (IntKind.wrap IntKind.i64 (rget (vRa5_l13_T.a6 v) (Int.toNat (vRa5_l13_T.a2 v)) (4 : Nat))) (0 : Int) (vRa5_l13_T.a3 v) (vRa5_l13_T.a4 v) (vSt4_s20 (vRa5_l13_T.a5 v)) (vRa5_l13_T.a6 v)), vRa5_l13_s0 v = true → vSt4_s0 (vRa5_l13_T.a2 v) (vRa5_l13_T.a6 v) = false → vSt4_s1 (vRa5_l13_T.a2 v) (vRa5_l13_T.a6 v) = false → vSt4_s2 (vRa5_l13_T.a2 v) (vRa5_l13_T.a6 v) = false → vSt4_s3 (vRa5_l13_T.a2 v) (vRa5_l13_T.a6 v) = false → vSt4_s4 (vRa5_l13_T.a2 v) (vRa5_l13_T.a6 v) = false → vSt4_s5 (vRa5_l13_T.a2 v) (vRa5_l13_T.a6 v) = false → vSt4_s6 (vRa5_l13_T.a2 v) (vRa5_l13_T.a6 v) = false → vSt4_s7 (vRa5_l13_T.a2 v) (vRa5_l13_T.a6 v) = false → vSt4_s8 (vRa5_l13_T.a2 v) (vRa5_l13_T.a6 v) = false → vSt4_s9 (vRa5_l13_T.a2 v) (vRa5_l13_T.a6 v) = false → vSt4_s10 (vRa5_l13_T.a2 v) (vRa5_l13_T.a6 v) = false → vSt4_s11 (vRa5_l13_T.a2 v) (vRa5_l13_T.a6 v) = false → vSt4_s16 (vRa5_l13_T.a2 v) (vRa5_l13_T.a6 v) = false → vSt4_s17 (vRa5_l13_T.a2 v) (vRa5_l13_T.a6 v) = false → vSt4_s37 (vRa5_l13_T.a2 v) (vRa5_l13_T.a6 v) = true → (0 : Int) ≤ vSt4_s38 (vRa5_l13_T.a2 v) (vRa5_l13_T.a6 v) ∧ vSt4_s38 (vRa5_l13_T.a2 v) (vRa5_l13_T.a6 v) < Int.ofNat (12 : Nat), vRa5_l13_s0 v = true → vSt4_s0 (vRa5_l13_T.a2 v) (vRa5_l13_T.a6 v) = false → vSt4_s1 (vRa5_l13_T.a2 v) (vRa5_l13_T.a6 v) = false → vSt4_s2 (vRa5_l13_T.a2 v) (vRa5_l13_T.a6 v) = false → vSt4_s3 (vRa5_l13_T.a2 v) (vRa5_l13_T.a6 v) = false → vSt4_s4 (vRa5_l13_T.a2 v) (vRa5_l13_T.a6 v) = false → vSt4_s5 (vRa5_l13_T.a2 v) (vRa5_l13_T.a6 v) = false → vSt4_s6 (vRa5_l13_T.a2 v) (vRa5_l13_T.a6 v) = false → vSt4_s7 (vRa5_l13_T.a2 v) (vRa5_l13_T.a6 v) = false → vSt4_s8 (vRa5_l13_T.a2 v) (vRa5_l13_T.a6 v) = false → vSt4_s9 (vRa5_l13_T.a2 v) (vRa5_l13_T.a6 v) = false → vSt4_s10 (vRa5_l13_T.a2 v) (vRa5_l13_T.a6 v) = false → vSt4_s11 (vRa5_l13_T.a2 v) (vRa5_l13_T.a6 v) = false → vSt4_s16 (vRa5_l13_T.a2 v) (vRa5_l13_T.a6 v) = false → vSt4_s17 (vRa5_l13_T.a2 v) (vRa5_l13_T.a6 v) = false → vSt4_s37 (vRa5_l13_T.a2 v) (vRa5_l13_T.a6 v) = true → (0 : Int) ≤ vSt4_s39 (vRa5_l13_T.a2 v) (vRa5_l13_T.a6 v) ∧ vSt4_s39 (vRa5_l13_T.a2 v) (vRa5_l13_T.a6 v) < Int.ofNat (12 : Nat), vRa5_l13_s0 v = true → vSt4_s0 (vRa5_l13_T.a2 v) (vRa5_l13_T.a6 v) = false → vSt4_s1 (vRa5_l13_T.a2 v) (vRa5_l13_T.a6 v) = false → vSt4_s2 (vRa5_l13_T.a2 v) (vRa5_l13_T.a6 v) = false → vSt4_s3 (vRa5_l13_T.a2 v) (vRa5_l13_T.a6 v) = false → vSt4_s4 (vRa5_l13_T.a2 v) (vRa5_l13_T.a6 v) = false → vSt4_s5 (vRa5_l13_T.a2 v) (vRa5_l13_T.a6 v) = false → vSt4_s6 (vRa5_l13_T.a2 v) (vRa5_l13_T.a6 v) = false → vSt4_s7 (vRa5_l13_T.a2 v) (vRa5_l13_T.a6 v) = false → vSt4_s8 (vRa5_l13_T.a2 v) (vRa5_l13_T.a6 v) = false → vSt4_s9 (vRa5_l13_T.a2 v) (vRa5_l13_T.a6 v) = false → vSt4_s10 (vRa5_l13_T.a2 v) (vRa5_l13_T.a6 v) = false → vSt4_s11 (vRa5_l13_T.a2 v) (vRa5_l13_T.a6 v) = false → vSt4_s16 (vRa5_l13_T.a2 v) (vRa5_l13_T.a6 v) = false → vSt4_s17 (vRa5_l13_T.a2 v) (vRa5_l13_T.a6 v) = false → vSt4_s37 (vRa5_l13_T.a2 v) (vRa5_l13_T.a6 v) = true → (0 : Int) ≤ vSt4_s40 (vRa5_l13_T.a2 v) (vRa5_l13_T.a6 v) ∧ vSt4_s40 (vRa5_l13_T.a2 v) (vRa5_l13_T.a6 v) < Int.ofNat (12 : Nat)], [(X.e (0 : Nat), !vRa5_l13_s0 v, vRa5_l13_T.mk (vRa5_l13_T.a0 v) (vRa5_l13_T.a1 v) (vRa5_l13_T.a2 v) (vRa5_l13_T.a3 v) (vRa5_l13_T.a4 v) (vRa5_l13_T.a5 v) (vRa5_l13_T.a6 v)), (X.r, vRa5_l13_s0 v && vRa5_l13_s1 v, vRa5_l13_T.mk (vRa5_l13_T.a0 v) (false) (vRa5_l13_T.a2 v) (vSt4_2 (vRa5_l13_T.a2 v) (vRa5_l13_T.a3 v) (vRa5_l13_T.a4 v) (vRa5_l13_T.a5 v) (vRa5_l13_T.a6 v)) (vSt4_3 (vRa5_l13_T.a2 v) (vRa5_l13_T.a3 v) (vRa5_l13_T.a4 v) (vRa5_l13_T.a5 v) (vRa5_l13_T.a6 v)) (vSt4_4 (vRa5_l13_T.a2 v) (vRa5_l13_T.a3 v) (vRa5_l13_T.a4 v) (vRa5_l13_T.a5 v) (vRa5_l13_T.a6 v)) (vRa5_l13_T.a6 v)), (X.n, vRa5_l13_s0 v && !vRa5_l13_s1 v, vRa5_l13_T.mk (vRa5_l13_T.a0 v) (vRa5_l13_T.a1 v) (vSt4_0 (vRa5_l13_T.a2 v) (vRa5_l13_T.a3 v) (vRa5_l13_T.a4 v) (vRa5_l13_T.a5 v) (vRa5_l13_T.a6 v)) (vSt4_2 (vRa5_l13_T.a2 v) (vRa5_l13_T.a3 v) (vRa5_l13_T.a4 v) (vRa5_l13_T.a5 v) (vRa5_l13_T.a6 v)) (vSt4_3 (vRa5_l13_T.a2 v) (vRa5_l13_T.a3 v) (vRa5_l13_T.a4 v) (vRa5_l13_T.a5 v) (vRa5_l13_T.a6 v)) (vSt4_4 (vRa5_l13_T.a2 v) (vRa5_l13_T.a3 v) (vRa5_l13_T.a4 v) (vRa5_l13_T.a5 v) (vRa5_l13_T.a6 v)) (vRa5_l13_T.a6 v))])
def vRa5_l13_rd : HS → Option vRa5_l13_T := rdS [.i, .b, .i, .r, .b, .i, .r] (fun l => vRa5_l13_T.mk (gI l 0) (gB l 1) (gI l 2) (gR l 3) (gB l 4) (gI l 5) (gR l 6)) vRa5_l13_hd
def vRa5_l13_sum : V.Sum := loopS vRa5_l13_hd vRa5_l13_rd vRa5_l13_st 18446744073709551616 [X.e (0 : Nat), X.r] [0, 1, 2, 6, 7, 8, 9, 13, 21] [0, 2, 6, 7] [0] [] [] 0
theorem vRa5_l13_E : ∀ v, bodyF Try.prog tabUb4 (ntOf Try.prog 127) [0, 1, 2, 6, 7, 8, 9, 13, 21] [0, 2, 6, 7] [] 2000 [0] [] vRa5_l13_code 52 (vRa5_l13_hd v) = some ((vRa5_l13_st v).1, (vRa5_l13_st v).2.map fun q => (q.1, q.2.1, vRa5_l13_hd q.2.2)) := fun v => by kernel_rfl
theorem vRa5_l13_R : ∀ h v, vRa5_l13_rd h = some v → h = vRa5_l13_hd v := rdS_ok fun l => by kernel_rfl
set_option maxRecDepth 100000 in
theorem vRa5_l13_sok : SumOK Try.prog (ntOf Try.prog 127) [0, 1, 2, 6, 7, 8, 9, 13, 21] (.block (blockOf (subs (bodyOf Try.prog 127) 1 13)) (.loop vRa5_l13_code)) vRa5_l13_sum := loopS_ok tabUb4_ok follows vRa5_l13_E vRa5_l13_R (fun v => by kernel_rfl) (LOK_of _ _ (LOK_nil'))
def vRa5_s0 (x1 x2 : Int) (g : List (List Int)) (gn : Bool) (st : Int) (p : List (List Int)) : Option (X × vRa5_l13_T) := lrun vRa5_l13_st (18446744073709551616 : Nat) (vRa5_l13_T.mk x2 false x1 g gn st p)
def vRa5_0 (x1 x2 : Int) (g : List (List Int)) (gn : Bool) (st : Int) (p : List (List Int)) : Bool := bif isX X.r (vRa5_s0 x1 x2 g gn st p) then vRa5_l13_T.a1 (V.valOf (vRa5_s0 x1 x2 g gn st p)) else true
def vRa5_1 (x1 x2 : Int) (g : List (List Int)) (gn : Bool) (st : Int) (p : List (List Int)) : List (List Int) := bif isX X.r (vRa5_s0 x1 x2 g gn st p) then vRa5_l13_T.a3 (V.valOf (vRa5_s0 x1 x2 g gn st p)) else vRa5_l13_T.a3 (V.valOf (vRa5_s0 x1 x2 g gn st p))
def vRa5_2 (x1 x2 : Int) (g : List (List Int)) (gn : Bool) (st : Int) (p : List (List Int)) : Bool := bif isX X.r (vRa5_s0 x1 x2 g gn st p) then vRa5_l13_T.a4 (V.valOf (vRa5_s0 x1 x2 g gn st p)) else vRa5_l13_T.a4 (V.valOf (vRa5_s0 x1 x2 g gn st p))
def vRa5_3 (x1 x2 : Int) (g : List (List Int)) (gn : Bool) (st : Int) (p : List (List Int)) : Int := bif isX X.r (vRa5_s0 x1 x2 g gn st p) then vRa5_l13_T.a5 (V.valOf (vRa5_s0 x1 x2 g gn st p)) else vRa5_l13_T.a5 (V.valOf (vRa5_s0 x1 x2 g gn st p))
def vRa5_o (x1 x2 : Int) (g : List (List Int)) (gn : Bool) (st : Int) (r0 : Bool) (p : List (List Int)) : List Prop := [lok vRa5_l13_st (18446744073709551616 : Nat) (vRa5_l13_T.mk x2 false x1 g gn st p)]
theorem vRa5_p (x1 x2 : Int) (g : List (List Int)) (gn : Bool) (st : Int) (r0 : Bool) (p : List (List Int)) : evG Try.prog tabUb4 2000 127 [0, 1, 2, 6, 7, 8, 9, 13, 21] [(13, vRa5_l13_sum)] [0] [.a (.ptr 0 0), .a (.int true .i64 x1), .a (.int true .i64 x2)] (padBs [⟨⟨0, 51, false, some ⟨0, [.int .i64, .int .i64, .int .i64, .int .i64], g, some 12⟩⟩, [some (.bool true gn), some (.int true .i64 st), some (.vec 1 0 5)]⟩, ⟨⟨0, 0, r0, some ⟨0, [.int .u8, .int .u8, .int .u8, .int .u8, .int .i16], p, none⟩⟩, []⟩]) = some (vRa5_o x1 x2 g gn st r0 p, LV.a (At.bool true (vRa5_0 x1 x2 g gn st p)), padOut [some (BC.mk (Hd.mk (nat_lit 0) (nat_lit 51) false (some (Rw.mk (nat_lit 0) [Kd.int IntKind.i64, Kd.int IntKind.i64, Kd.int IntKind.i64, Kd.int IntKind.i64] (vRa5_1 x1 x2 g gn st p) (some (nat_lit 12))))) [some (At.bool true (vRa5_2 x1 x2 g gn st p)), some (At.int true IntKind.i64 (vRa5_3 x1 x2 g gn st p)), some (At.vec (nat_lit 1) (nat_lit 0) (nat_lit 5))]), none]) := by kernel_rfl
def vRa5_c0 : Con
  | [.a (.ptr 0 0), .a (.int true .i64 x1), .a (.int true .i64 x2)], [⟨⟨0, 51, false, some ⟨0, [.int .i64, .int .i64, .int .i64, .int .i64], g, some 12⟩⟩, [some (.bool true gn), some (.int true .i64 st), some (.vec 1 0 5)]⟩, ⟨⟨0, 0, r0, some ⟨0, [.int .u8, .int .u8, .int .u8, .int .u8, .int .i16], p, none⟩⟩, []⟩] => some (vRa5_o x1 x2 g gn st r0 p, LV.a (At.bool true (vRa5_0 x1 x2 g gn st p)), [some (BC.mk (Hd.mk (nat_lit 0) (nat_lit 51) false (some (Rw.mk (nat_lit 0) [Kd.int IntKind.i64, Kd.int IntKind.i64, Kd.int IntKind.i64, Kd.int IntKind.i64] (vRa5_1 x1 x2 g gn st p) (some (nat_lit 12))))) [some (At.bool true (vRa5_2 x1 x2 g gn st p)), some (At.int true IntKind.i64 (vRa5_3 x1 x2 g gn st p)), some (At.vec (nat_lit 1) (nat_lit 0) (nat_lit 5))]), none])
  | _, _ => none
def vRa5_c : Con := packC vRa5_c0
theorem vRa5_ok : ConOK Try.prog 127 (normC vRa5_c) := normC_ok (packC_ok (by
  intro args bs obs lv out h ho φ vs w may ha hM
  unfold vRa5_c0 at h
  split at h
  · simp only [Option.some.injEq, Prod.mk.injEq] at h
    obtain ⟨rfl, rfl, rfl⟩ := h
    rename_i x1 x2 g gn st r0 p
    exact evG_okL' tabUb4_ok follows (LOK_cons (show subs (bodyOf Try.prog 127) 1 13 = [.block (blockOf (subs (bodyOf Try.prog 127) 1 13)) (.loop vRa5_l13_code)] from by kernel_rfl) vRa5_l13_sok (LOK_nil')) _ _ _ _ _ (vRa5_p x1 x2 g gn st r0 p) ho φ vs w may ha hM
  · cases h))
theorem vRa5_en : Enters Try.prog 127 := fun args => by kernel_rfl
-- 2003 1157 17 ms

def vRaN_D : Tab := (2, decC [(209, false)]) :: tabUb4
theorem vRaN_D_ok : TOK Try.prog vRaN_D := TOK.cons (fun args => by kernel_rfl) (fun _ _ _ _ _ h ho => (decC_ok h ho).elim) tabUb4_ok
/-! (*azulejo/vm.machine).range_ -/
def vRaN_o (x1 x2 : Int) (g : List (List Int)) (gn : Bool) (st : Int) : List Prop := [decide (x1 < x2) = false]
theorem vRaN_p (x1 x2 : Int) (g : List (List Int)) (gn : Bool) (st : Int) : evG Try.prog vRaN_D 2000 127 [0, 1, 2, 6, 7, 8, 9, 13, 21] [] [] [.a (.ptr 0 0), .a (.int true .i64 x1), .a (.int true .i64 x2)] (padBs [⟨⟨0, 51, false, some ⟨0, [.int .i64, .int .i64, .int .i64, .int .i64], g, some 12⟩⟩, [some (.bool true gn), some (.int true .i64 st), some (.nils)]⟩]) = some (vRaN_o x1 x2 g gn st, LV.a (At.bool false true), padOut [none]) := by kernel_rfl
def vRaN_c0 : Con
  | [.a (.ptr 0 0), .a (.int true .i64 x1), .a (.int true .i64 x2)], [⟨⟨0, 51, false, some ⟨0, [.int .i64, .int .i64, .int .i64, .int .i64], g, some 12⟩⟩, [some (.bool true gn), some (.int true .i64 st), some (.nils)]⟩] => some (vRaN_o x1 x2 g gn st, LV.a (At.bool false true), [none])
  | _, _ => none
def vRaN_c : Con := packC vRaN_c0
theorem vRaN_ok : ConOK Try.prog 127 (normC vRaN_c) := normC_ok (packC_ok (by
  intro args bs obs lv out h ho φ vs w may ha hM
  unfold vRaN_c0 at h
  split at h
  · simp only [Option.some.injEq, Prod.mk.injEq] at h
    obtain ⟨rfl, rfl, rfl⟩ := h
    rename_i x1 x2 g gn st
    exact evG_ok vRaN_D_ok follows _ _ _ _ _ (vRaN_p x1 x2 g gn st) ho φ vs w may ha hM
  · cases h))
theorem vRaN_en : Enters Try.prog 127 := fun args => by kernel_rfl
-- 53 2 0 ms

def tabUb5 : Tab := (127, normC vRa5_c) :: (127, normC vRaN_c) :: tabUb4
theorem tabUb5_ok : TOK Try.prog tabUb5 := TOK.cons vRa5_en vRa5_ok (TOK.cons vRaN_en vRaN_ok (tabUb4_ok))

end Go.Proofs.Ytcdejlgophpdjaa
end

section
namespace Go.Proofs.Ytcdejlgophpdjaa
open Go Go.RowKit Go.Proofs.Ytcdejlgophpdjaa.V

def tabUc0 : Tab := (2, rowC [(39, (0, 1, 4)), (232, (0, 4, 12)), (166, (0, 4, 12))]) :: tabUb5
theorem tabUc0_ok : TOK Try.prog tabUc0 := TOK.cons rowU_en rowC_con tabUb5_ok

end Go.Proofs.Ytcdejlgophpdjaa
end

section
namespace Go.Proofs.Ytcdejlgophpdjaa
open Go Go.RowKit Go.Proofs.Ytcdejlgophpdjaa.V
set_option linter.unusedVariables false

def r7Ru1_D : Tab := (2, decC [(3342333, false)]) :: tabUc0
theorem r7Ru1_D_ok : TOK Try.prog r7Ru1_D := TOK.cons (fun args => by kernel_rfl) (fun _ _ _ _ _ h ho => (decC_ok h ho).elim) tabUc0_ok
/-! azulejo/azulejoref07.Run -/
noncomputable def r7Ru1_l3_code : Go.Code := loopOf (subs (bodyOf Try.prog 85) 1 3)
structure r7Ru1_l3_T where
  a0 : Int
  a1 : Int
  a2 : List (List Int)
  a3 : List (List Int)
  a4 : Bool
  a5 : Bool
  a6 : Int
  deriving Inhabited
def r7Ru1_l3_hd0 (v : r7Ru1_l3_T) : HS := HS.mk [(nat_lit 0, LV.a (At.vec (nat_lit 0) (nat_lit 0) (nat_lit 5))), (nat_lit 1, LV.a (At.ptr (nat_lit 1) (nat_lit 0))), (nat_lit 3, LV.a (At.int true IntKind.i64 (r7Ru1_l3_T.a0 v))), (nat_lit 8, LV.a (At.int true IntKind.i64 (r7Ru1_l3_T.a1 v)))] [BC.mk (Hd.mk (nat_lit 0) (nat_lit 0) true (some (Rw.mk (nat_lit 0) [Kd.int IntKind.i64, Kd.int IntKind.i64, Kd.int IntKind.i64, Kd.int IntKind.i64, Kd.int IntKind.i64] (r7Ru1_l3_T.a2 v) none))) [], BC.mk (Hd.mk (nat_lit 0) (nat_lit 51) false (some (Rw.mk (nat_lit 0) [Kd.int IntKind.i64, Kd.int IntKind.i64, Kd.int IntKind.i64, Kd.int IntKind.i64] (r7Ru1_l3_T.a3 v) (some (nat_lit 12))))) [some (At.bool true (r7Ru1_l3_T.a4 v)), some (At.bool true (r7Ru1_l3_T.a5 v)), some (At.int true IntKind.i64 (r7Ru1_l3_T.a6 v))]]
def r7Ru1_l3_hd (v : r7Ru1_l3_T) : HS := padH (r7Ru1_l3_hd0 v)
def r7Ru1_l3_s0 (v : r7Ru1_l3_T) : Bool := bif decide (r7Ru1_l3_T.a1 v < r7Ru1_l3_T.a0 v) then !r7Ru1_l3_T.a5 v else false
def r7Ru1_l3_s5 (v : r7Ru1_l3_T) : Bool := decide (rget (r7Ru1_l3_T.a2 v) (Int.toNat (r7Ru1_l3_T.a1 v)) (3 : Nat) < (12 : Int))
def r7Ru1_l3_s6 (v : r7Ru1_l3_T) : Bool := rget (r7Ru1_l3_T.a2 v) (Int.toNat (r7Ru1_l3_T.a1 v)) (0 : Nat) == (1 : Int)
def r7Ru1_l3_s7 (v : r7Ru1_l3_T) : Bool := rget (r7Ru1_l3_T.a2 v) (Int.toNat (r7Ru1_l3_T.a1 v)) (0 : Nat) == (2 : Int)
def r7Ru1_l3_s8 (v : r7Ru1_l3_T) : Bool := rget (r7Ru1_l3_T.a2 v) (Int.toNat (r7Ru1_l3_T.a1 v)) (0 : Nat) == (8 : Int)
def r7Ru1_l3_s9 (v : r7Ru1_l3_T) : Bool := rget (r7Ru1_l3_T.a2 v) (Int.toNat (r7Ru1_l3_T.a1 v)) (0 : Nat) == (9 : Int)
def r7Ru1_l3_s10 (v : r7Ru1_l3_T) : Int := Int.tmod (rget (r7Ru1_l3_T.a2 v) (Int.toNat (r7Ru1_l3_T.a1 v)) (3 : Nat)) (4 : Int)
def r7Ru1_l3_s11 (v : r7Ru1_l3_T) : Bool := rget (r7Ru1_l3_T.a2 v) (Int.toNat (r7Ru1_l3_T.a1 v)) (0 : Nat) == (10 : Int)
def r7Ru1_l3_s12 (v : r7Ru1_l3_T) : Int := Int.tmod (IntKind.wrap IntKind.i64 (Int.tmod (rget (r7Ru1_l3_T.a2 v) (Int.toNat (r7Ru1_l3_T.a1 v)) (4 : Nat)) (4 : Int) + (4 : Int))) (4 : Int)
def r7Ru1_l3_s13 (v : r7Ru1_l3_T) : Bool := rget (r7Ru1_l3_T.a2 v) (Int.toNat (r7Ru1_l3_T.a1 v)) (0 : Nat) == (14 : Int)
def r7Ru1_l3_s14 (v : r7Ru1_l3_T) : Int := IntKind.wrap IntKind.i64 (rget (r7Ru1_l3_T.a2 v) (Int.toNat (r7Ru1_l3_T.a1 v)) (2 : Nat) + (0 : Int))
def r7Ru1_l3_s15 : Int := IntKind.wrap IntKind.i64 ((0 : Int) + (1 : Int))
def r7Ru1_l3_s16 (v : r7Ru1_l3_T) : Int := IntKind.wrap IntKind.i64 (rget (r7Ru1_l3_T.a2 v) (Int.toNat (r7Ru1_l3_T.a1 v)) (2 : Nat) + r7Ru1_l3_s15)
def r7Ru1_l3_s17 : Int := IntKind.wrap IntKind.i64 (r7Ru1_l3_s15 + (1 : Int))
def r7Ru1_l3_s18 (v : r7Ru1_l3_T) : Int := IntKind.wrap IntKind.i64 (rget (r7Ru1_l3_T.a2 v) (Int.toNat (r7Ru1_l3_T.a1 v)) (2 : Nat) + r7Ru1_l3_s17)
def r7Ru1_l3_s19 (v : r7Ru1_l3_T) : Int := IntKind.wrap IntKind.i64 (rget (r7Ru1_l3_T.a2 v) (Int.toNat (r7Ru1_l3_T.a1 v)) (2 : Nat) + IntKind.wrap IntKind.i64 (r7Ru1_l3_s17 + (1 : Int)))
def r7Ru1_l3_s20 (v : r7Ru1_l3_T) : Bool := bif decide ((3 : Int) ≤ rget (r7Ru1_l3_T.a2 v) (Int.toNat (r7Ru1_l3_T.a1 v)) (0 : Nat)) then decide (rget (r7Ru1_l3_T.a2 v) (Int.toNat (r7Ru1_l3_T.a1 v)) (0 : Nat) ≤ (7 : Int)) else false
def r7Ru1_l3_s21 (v : r7Ru1_l3_T) : Bool := bif r7Ru1_l3_s20 v then true else bif r7Ru1_l3_s6 v then true else bif r7Ru1_l3_s7 v then true else bif r7Ru1_l3_s8 v then true else bif r7Ru1_l3_s9 v then true else bif r7Ru1_l3_s11 v then true else bif r7Ru1_l3_s13 v then true else false
def r7Ru1_l3_s22 (v : r7Ru1_l3_T) : Nat := Int.toNat (rget (r7Ru1_l3_T.a2 v) (Int.toNat (r7Ru1_l3_T.a1 v)) (2 : Nat))
def r7Ru1_l3_s23 (v : r7Ru1_l3_T) : List (List Int) := [[rget (r7Ru1_l3_T.a3 v) (r7Ru1_l3_s22 v) (0 : Nat)], [rget (r7Ru1_l3_T.a3 v) (r7Ru1_l3_s22 v) (1 : Nat)], [rget (r7Ru1_l3_T.a3 v) (r7Ru1_l3_s22 v) (2 : Nat)], [rget (r7Ru1_l3_T.a3 v) (r7Ru1_l3_s22 v) (3 : Nat)]]
def r7Ru1_l3_s24 (v : r7Ru1_l3_T) : Int := rget (r7Ru1_l3_s23 v) (0 : Nat) (0 : Nat)
def r7Ru1_l3_s25 : List (List Int) := [[(0 : Int)], [(0 : Int)], [(0 : Int)], [(0 : Int)]]
def r7Ru1_l3_s29 (v : r7Ru1_l3_T) : Bool := decide (r7Ru1_l3_s24 v < (0 : Int))
def r7Ru1_l3_s30 (v : r7Ru1_l3_T) : Int := IntKind.wrap IntKind.i64 (r7Ru1_l3_T.a1 v + (1 : Int))
def r7Ru1_l3_s31 (v : r7Ru1_l3_T) : Nat := Int.toNat (rget (r7Ru1_l3_T.a2 v) (Int.toNat (r7Ru1_l3_T.a1 v)) (1 : Nat))
def r7Ru1_l3_s32 (v : r7Ru1_l3_T) : Int := rget (r7Ru1_l3_s23 v) (1 : Nat) (0 : Nat)
def r7Ru1_l3_s33 (v : r7Ru1_l3_T) : Int := rget (r7Ru1_l3_s23 v) (2 : Nat) (0 : Nat)
def r7Ru1_l3_s34 (v : r7Ru1_l3_T) : Int := rget (r7Ru1_l3_s23 v) (3 : Nat) (0 : Nat)
def r7Ru1_l3_s35 (v : r7Ru1_l3_T) : List Int := [IntKind.wrap IntKind.i64 (rget (r7Ru1_l3_T.a2 v) (Int.toNat (r7Ru1_l3_T.a1 v)) (4 : Nat) * (256 : Int))]
def r7Ru1_l3_s36 (v : r7Ru1_l3_T) : Nat := Int.toNat (rget (r7Ru1_l3_T.a2 v) (Int.toNat (r7Ru1_l3_T.a1 v)) (3 : Nat))
def r7Ru1_l3_s37 (v : r7Ru1_l3_T) : List (List Int) := bif r7Ru1_l3_s5 v then [[rget (r7Ru1_l3_T.a3 v) (r7Ru1_l3_s36 v) (0 : Nat)], [rget (r7Ru1_l3_T.a3 v) (r7Ru1_l3_s36 v) (1 : Nat)], [rget (r7Ru1_l3_T.a3 v) (r7Ru1_l3_s36 v) (2 : Nat)], [rget (r7Ru1_l3_T.a3 v) (r7Ru1_l3_s36 v) (3 : Nat)]] else r7Ru1_l3_s25
def r7Ru1_l3_s38 (v : r7Ru1_l3_T) : Int := rget (r7Ru1_l3_s37 v) (0 : Nat) (0 : Nat)
def r7Ru1_l3_s39 (v : r7Ru1_l3_T) : Int := rget (r7Ru1_l3_s37 v) (1 : Nat) (0 : Nat)
def r7Ru1_l3_s40 (v : r7Ru1_l3_T) : Int := rget (r7Ru1_l3_s37 v) (2 : Nat) (0 : Nat)
def r7Ru1_l3_s41 (v : r7Ru1_l3_T) : Int := rget (r7Ru1_l3_s37 v) (3 : Nat) (0 : Nat)
def r7Ru1_l3_s42 (v : r7Ru1_l3_T) : List Int := [rDo_0 (r7Ru1_l3_s24 v) (r7Ru1_l3_s32 v) (r7Ru1_l3_s33 v) (r7Ru1_l3_s34 v) (r7Ru1_l3_s38 v) (r7Ru1_l3_s39 v) (r7Ru1_l3_s40 v) (r7Ru1_l3_s41 v)]
def r7Ru1_l3_s43 (v : r7Ru1_l3_T) : List Int := [rget (r7Ru1_l3_s23 v) (Int.toNat (r7Ru1_l3_s10 v)) (0 : Nat)]
def r7Ru1_l3_s44 (v : r7Ru1_l3_T) : List (List Int) := bif r7Ru1_l3_s6 v then [[r7Ru1_l3_s24 v], [r7Ru1_l3_s32 v], [r7Ru1_l3_s33 v], [r7Ru1_l3_s34 v]] else bif r7Ru1_l3_s7 v then [r7Ru1_l3_s35 v, r7Ru1_l3_s35 v, r7Ru1_l3_s35 v, r7Ru1_l3_s35 v] else bif r7Ru1_l3_s8 v then [r7Ru1_l3_s42 v, r7Ru1_l3_s42 v, r7Ru1_l3_s42 v, r7Ru1_l3_s42 v] else bif r7Ru1_l3_s9 v then [r7Ru1_l3_s43 v, r7Ru1_l3_s43 v, r7Ru1_l3_s43 v, r7Ru1_l3_s43 v] else bif r7Ru1_l3_s11 v then List.set [[rget (r7Ru1_l3_T.a3 v) (r7Ru1_l3_s31 v) (0 : Nat)], [rget (r7Ru1_l3_T.a3 v) (r7Ru1_l3_s31 v) (1 : Nat)], [rget (r7Ru1_l3_T.a3 v) (r7Ru1_l3_s31 v) (2 : Nat)], [rget (r7Ru1_l3_T.a3 v) (r7Ru1_l3_s31 v) (3 : Nat)]] (Int.toNat (r7Ru1_l3_s10 v)) [rget (r7Ru1_l3_s23 v) (Int.toNat (r7Ru1_l3_s12 v)) (0 : Nat)] else bif r7Ru1_l3_s13 v then rset (rset (rset (rset r7Ru1_l3_s25 (0 : Nat) (0 : Nat) [rDo_0 (rget (r7Ru1_l3_T.a3 v) (Int.toNat (r7Ru1_l3_s14 v)) (0 : Nat)) (rget (r7Ru1_l3_T.a3 v) (Int.toNat (r7Ru1_l3_s14 v)) (1 : Nat)) (rget (r7Ru1_l3_T.a3 v) (Int.toNat (r7Ru1_l3_s14 v)) (2 : Nat)) (rget (r7Ru1_l3_T.a3 v) (Int.toNat (r7Ru1_l3_s14 v)) (3 : Nat)) (r7Ru1_l3_s38 v) (r7Ru1_l3_s39 v) (r7Ru1_l3_s40 v) (r7Ru1_l3_s41 v)]) (1 : Nat) (0 : Nat) [rDo_0 (rget (r7Ru1_l3_T.a3 v) (Int.toNat (r7Ru1_l3_s16 v)) (0 : Nat)) (rget (r7Ru1_l3_T.a3 v) (Int.toNat (r7Ru1_l3_s16 v)) (1 : Nat)) (rget (r7Ru1_l3_T.a3 v) (Int.toNat (r7Ru1_l3_s16 v)) (2 : Nat)) (rget (r7Ru1_l3_T.a3 v) (Int.toNat (r7Ru1_l3_s16 v)) (3 : Nat)) (r7Ru1_l3_s38 v) (r7Ru1_l3_s39 v) (r7Ru1_l3_s40 v) (r7Ru1_l3_s41 v)]) (2 : Nat) (0 : Nat) [rDo_0 (rget (r7Ru1_l3_T.a3 v) (Int.toNat (r7Ru1_l3_s18 v)) (0 : Nat)) (rget (r7Ru1_l3_T.a3 v) (Int.toNat (r7Ru1_l3_s18 v)) (1 : Nat)) (rget (r7Ru1_l3_T.a3 v) (Int.toNat (r7Ru1_l3_s18 v)) (2 : Nat)) (rget (r7Ru1_l3_T.a3 v) (Int.toNat (r7Ru1_l3_s18 v)) (3 : Nat)) (r7Ru1_l3_s38 v) (r7Ru1_l3_s39 v) (r7Ru1_l3_s40 v) (r7Ru1_l3_s41 v)]) (3 : Nat) (0 : Nat) [rDo_0 (rget (r7Ru1_l3_T.a3 v) (Int.toNat (r7Ru1_l3_s19 v)) (0 : Nat)) (rget (r7Ru1_l3_T.a3 v) (Int.toNat (r7Ru1_l3_s19 v)) (1 : Nat)) (rget (r7Ru1_l3_T.a3 v) (Int.toNat (r7Ru1_l3_s19 v)) (2 : Nat)) (rget (r7Ru1_l3_T.a3 v) (Int.toNat (r7Ru1_l3_s19 v)) (3 : Nat)) (r7Ru1_l3_s38 v) (r7Ru1_l3_s39 v) (r7Ru1_l3_s40 v) (r7Ru1_l3_s41 v)] else r7Ru1_l3_s25
def r7Ru1_l3_s45 (v : r7Ru1_l3_T) : List (List Int) := bif r7Ru1_l3_s20 v then rset (rset (rset (rset (r7Ru1_l3_s44 v) (0 : Nat) (0 : Nat) [r7n_0 (rget (r7Ru1_l3_T.a2 v) (Int.toNat (r7Ru1_l3_T.a1 v)) (0 : Nat)) (r7Ru1_l3_s24 v) (r7Ru1_l3_s38 v)]) (1 : Nat) (0 : Nat) [r7n_0 (rget (r7Ru1_l3_T.a2 v) (Int.toNat (r7Ru1_l3_T.a1 v)) (0 : Nat)) (r7Ru1_l3_s32 v) (r7Ru1_l3_s39 v)]) (2 : Nat) (0 : Nat) [r7n_0 (rget (r7Ru1_l3_T.a2 v) (Int.toNat (r7Ru1_l3_T.a1 v)) (0 : Nat)) (r7Ru1_l3_s33 v) (r7Ru1_l3_s40 v)]) (3 : Nat) (0 : Nat) [r7n_0 (rget (r7Ru1_l3_T.a2 v) (Int.toNat (r7Ru1_l3_T.a1 v)) (0 : Nat)) (r7Ru1_l3_s34 v) (r7Ru1_l3_s41 v)] else r7Ru1_l3_s44 v
def r7Ru1_l3_s46 (v : r7Ru1_l3_T) : Bool := bif rget (r7Ru1_l3_T.a2 v) (Int.toNat (r7Ru1_l3_T.a1 v)) (0 : Nat) == (13 : Int) then r7Ru1_l3_s29 v else false
def r7Ru1_l3_st (v : r7Ru1_l3_T) : List Prop × List (X × Bool × r7Ru1_l3_T) := ([r7Ru1_l3_s0 v = true → (0 : Int) ≤ r7Ru1_l3_T.a1 v ∧ r7Ru1_l3_T.a1 v < Int.ofNat (List.length (r7Ru1_l3_T.a2 v)), r7Ru1_l3_s0 v = true → (0 : Int) ≤ rget (r7Ru1_l3_T.a2 v) (Int.toNat (r7Ru1_l3_T.a1 v)) (2 : Nat) ∧ rget (r7Ru1_l3_T.a2 v) (Int.toNat (r7Ru1_l3_T.a1 v)) (2 : Nat) < Int.ofNat (12 : Nat), r7Ru1_l3_s0 v = true → r7Ru1_l3_s5 v = true → (0 : Int) ≤ rget (r7Ru1_l3_T.a2 v) (Int.toNat (r7Ru1_l3_T.a1 v)) (3 : Nat) ∧ rget (r7Ru1_l3_T.a2 v) (Int.toNat (r7Ru1_l3_T.a1 v)) (3 : Nat) < Int.ofNat (12 : Nat), r7Ru1_l3_s0 v = true → r7Ru1_l3_s6 v = false → r7Ru1_l3_s7 v = false → r7Ru1_l3_s8 v = false → r7Ru1_l3_s9 v = true → (0 : Int) ≤ r7Ru1_l3_s10 v ∧ r7Ru1_l3_s10 v < Int.ofNat (4 : Nat), r7Ru1_l3_s0 v = true → r7Ru1_l3_s6 v = false → r7Ru1_l3_s7 v = false → r7Ru1_l3_s8 v = false → r7Ru1_l3_s9 v = false → r7Ru1_l3_s11 v = true → (0 : Int) ≤ rget (r7Ru1_l3_T.a2 v) (Int.toNat (r7Ru1_l3_T.a1 v)) (1 : Nat) ∧ rget (r7Ru1_l3_T.a2 v) (Int.toNat (r7Ru1_l3_T.a1 v)) (1 : Nat) < Int.ofNat (12 : Nat), r7Ru1_l3_s0 v = true → r7Ru1_l3_s6 v = false → r7Ru1_l3_s7 v = false → r7Ru1_l3_s8 v = false → r7Ru1_l3_s9 v = false → r7Ru1_l3_s11 v = true → (0 : Int) ≤ r7Ru1_l3_s12 v ∧ r7Ru1_l3_s12 v < Int.ofNat (4 : Nat), r7Ru1_l3_s0 v = true → r7Ru1_l3_s6 v = false → r7Ru1_l3_s7 v = false → r7Ru1_l3_s8 v = false → r7Ru1_l3_s9 v = false → r7Ru1_l3_s11 v = true → (0 : Int) ≤ r7Ru1_l3_s10 v ∧ r7Ru1_l3_s10 v < Int.ofNat (4 : Nat), r7Ru1_l3_s0 v = true → r7Ru1_l3_s6 v = false → r7Ru1_l3_s7 v = false → r7Ru1_l3_s8 v = false → r7Ru1_l3_s9 v = false → r7Ru1_l3_s11 v = false → r7Ru1_l3_s13 v = true → (0 : Int) ≤ r7Ru1_l3_s14 v ∧ r7Ru1_l3_s14 v < Int.ofNat (12 : Nat), r7Ru1_l3_s0 v = true → r7Ru1_l3_s6 v = false → r7Ru1_l3_s7 v = false → r7Ru1_l3_s8 v = false → r7Ru1_l3_s9 v = false → r7Ru1_l3_s11 v = false → r7Ru1_l3_s13 v = true → (0 : Int) ≤ r7Ru1_l3_s16 v ∧ r7Ru1_l3_s16 v < Int.ofNat (12 : Nat), r7Ru1_l3_s0 v = true → r7Ru1_l3_s6 v = false → r7Ru1_l3_s7 v = false → r7Ru1_l3_s8 v = false → r7Ru1_l3_s9 v = false → r7Ru1_l3_s11 v = false → r7Ru1_l3_s13 v = true → (0 : Int) ≤ r7Ru1_l3_s18 v ∧ r7Ru1_l3_s18 v < Int.ofNat (12 : Nat), r7Ru1_l3_s0 v = true → r7Ru1_l3_s6 v = false → r7Ru1_l3_s7 v = false → r7Ru1_l3_s8 v = false → r7Ru1_l3_s9 v = false → r7Ru1_l3_s11 v = false → r7Ru1_l3_s13 v = true → (0 : Int) ≤ r7Ru1_l3_s19 v ∧ r7Ru1_l3_s19 v < Int.ofNat (12 : Nat), r7Ru1_l3_s0 v = true → r7Ru1_l3_s21 v = true → (0 : Int) ≤ rget (r7Ru1_l3_T.a2 v) (Int.toNat (r7Ru1_l3_T.a1 v)) (1 : Nat) ∧ rget (r7Ru1_l3_T.a2 v) (Int.toNat (r7Ru1_l3_T.a1 v)) (1 : Nat) < Int.ofNat (12 : Nat), r7Ru1_l3_s0 v = true → (rget (r7Ru1_l3_T.a2 v) (Int.toNat (r7Ru1_l3_T.a1 v)) (0 : Nat) == (12 : Int)) = false], [(X.e (0 : Nat), !r7Ru1_l3_s0 v, r7Ru1_l3_T.mk (r7Ru1_l3_T.a0 v) (r7Ru1_l3_T.a1 v) (r7Ru1_l3_T.a2 v) (r7Ru1_l3_T.a3 v) (r7Ru1_l3_T.a4 v) (r7Ru1_l3_T.a5 v) (r7Ru1_l3_T.a6 v)), (X.n, r7Ru1_l3_s0 v, r7Ru1_l3_T.mk (r7Ru1_l3_T.a0 v) (bif bif rget (r7Ru1_l3_T.a2 v) (Int.toNat (r7Ru1_l3_T.a1 v)) (0 : Nat) == (11 : Int) then r7Ru1_l3_s29 v else false then IntKind.wrap IntKind.i64 (r7Ru1_l3_s30 v + rget (r7Ru1_l3_T.a2 v) (Int.toNat (r7Ru1_l3_T.a1 v)) (4 : Nat)) else r7Ru1_l3_s30 v) (r7Ru1_l3_T.a2 v) (bif r7Ru1_l3_s21 v then List.set (r7Ru1_l3_T.a3 v) (r7Ru1_l3_s31 v) [rget (r7Ru1_l3_s45 v) (0 : Nat) (0 : Nat), rget (r7Ru1_l3_s45 v) (1 : Nat) (0 : Nat), rget (r7Ru1_l3_s45 v) (2 : Nat) (0 : Nat), rget (r7Ru1_l3_s45 v) (3 : Nat) (0 : Nat)] else r7Ru1_l3_T.a3 v) (bif r7Ru1_l3_s46 v then true else r7Ru1_l3_T.a4 v) (bif r7Ru1_l3_s46 v then true else bif rget (r7Ru1_l3_T.a2 v) (Int.toNat (r7Ru1_l3_T.a1 v)) (0 : Nat) == (0 : Int) then true else r7Ru1_l3_T.a5 v) (IntKind.wrap IntKind.i64 (r7Ru1_l3_T.a6 v + (1 : Int))))])
def r7Ru1_l3_rd : HS → Option r7Ru1_l3_T := rdS [.i, .i, .r, .r, .b, .b, .i] (fun l => r7Ru1_l3_T.mk (gI l 0) (gI l 1) (gR l 2) (gR l 3) (gB l 4) (gB l 5) (gI l 6)) r7Ru1_l3_hd
def r7Ru1_l3_sum : V.Sum := loopS r7Ru1_l3_hd r7Ru1_l3_rd r7Ru1_l3_st 18446744073709551616 [X.e (0 : Nat)] [0, 1, 2, 3, 8, 9, 10, 11, 12, 13, 14, 15, 16, 17, 18, 19, 30, 51, 62, 63, 66, 81, 91, 103, 123, 126, 149, 151, 165, 175, 186, 199, 208, 212] [0, 1, 3, 8] [1] [] [] 0
theorem r7Ru1_l3_E : ∀ v, bodyF Try.prog r7Ru1_D (ntOf Try.prog 85) [0, 1, 2, 3, 8, 9, 10, 11, 12, 13, 14, 15, 16, 17, 18, 19, 30, 51, 62, 63, 66, 81, 91, 103, 123, 126, 149, 151, 165, 175, 186, 199, 208, 212] [0, 1, 3, 8] [] 2000 [1] [] r7Ru1_l3_code 12 (r7Ru1_l3_hd v) = some ((r7Ru1_l3_st v).1, (r7Ru1_l3_st v).2.map fun q => (q.1, q.2.1, r7Ru1_l3_hd q.2.2)) := fun v => by kernel_rfl
theorem r7Ru1_l3_R : ∀ h v, r7Ru1_l3_rd h = some v → h = r7Ru1_l3_hd v := rdS_ok fun l => by kernel_rfl
set_option maxRecDepth 100000 in
theorem r7Ru1_l3_sok : SumOK Try.prog (ntOf Try.prog 85) [0, 1, 2, 3, 8, 9, 10, 11, 12, 13, 14, 15, 16, 17, 18, 19, 30, 51, 62, 63, 66, 81, 91, 103, 123, 126, 149, 151, 165, 175, 186, 199, 208, 212] (.block (blockOf (subs (bodyOf Try.prog 85) 1 3)) (.loop r7Ru1_l3_code)) r7Ru1_l3_sum := loopS_ok r7Ru1_D_ok follows r7Ru1_l3_E r7Ru1_l3_R (fun v => by kernel_rfl) (LOK_of _ _ (LOK_nil'))
def r7Ru1_0 (x2 x3 : Int) (p g : List (List Int)) (gn ov : Bool) (st : Int) : List (List Int) := r7Ru1_l3_T.a3 (V.valOf (lrun r7Ru1_l3_st (18446744073709551616 : Nat) (r7Ru1_l3_T.mk x3 x2 p g gn ov st)))
def r7Ru1_1 (x2 x3 : Int) (p g : List (List Int)) (gn ov : Bool) (st : Int) : Bool := r7Ru1_l3_T.a4 (V.valOf (lrun r7Ru1_l3_st (18446744073709551616 : Nat) (r7Ru1_l3_T.mk x3 x2 p g gn ov st)))
def r7Ru1_2 (x2 x3 : Int) (p g : List (List Int)) (gn ov : Bool) (st : Int) : Bool := r7Ru1_l3_T.a5 (V.valOf (lrun r7Ru1_l3_st (18446744073709551616 : Nat) (r7Ru1_l3_T.mk x3 x2 p g gn ov st)))
def r7Ru1_3 (x2 x3 : Int) (p g : List (List Int)) (gn ov : Bool) (st : Int) : Int := r7Ru1_l3_T.a6 (V.valOf (lrun r7Ru1_l3_st (18446744073709551616 : Nat) (r7Ru1_l3_T.mk x3 x2 p g gn ov st)))
def r7Ru1_o (x2 x3 : Int) (r0 : Bool) (p g : List (List Int)) (gn ov : Bool) (st : Int) : List Prop := [lok r7Ru1_l3_st (18446744073709551616 : Nat) (r7Ru1_l3_T.mk x3 x2 p g gn ov st)]
theorem r7Ru1_p (x2 x3 : Int) (r0 : Bool) (p g : List (List Int)) (gn ov : Bool) (st : Int) : evG Try.prog r7Ru1_D 2000 85 [0, 1, 2, 3, 8, 9, 10, 11, 12, 13, 14, 15, 16, 17, 18, 19, 30, 51, 62, 63, 66, 81, 91, 103, 123, 126, 149, 151, 165, 175, 186, 199, 208, 212] [(3, r7Ru1_l3_sum)] [1] [.a (.vec 0 0 5), .a (.ptr 1 0), .a (.int true .i64 x2), .a (.int true .i64 x3)] (padBs [⟨⟨0, 0, r0, some ⟨0, [.int .i64, .int .i64, .int .i64, .int .i64, .int .i64], p, none⟩⟩, []⟩, ⟨⟨0, 51, false, some ⟨0, [.int .i64, .int .i64, .int .i64, .int .i64], g, some 12⟩⟩, [some (.bool true gn), some (.bool true ov), some (.int true .i64 st)]⟩]) = some (r7Ru1_o x2 x3 r0 p g gn ov st, LV.t [], padOut [none, some (BC.mk (Hd.mk (nat_lit 0) (nat_lit 51) false (some (Rw.mk (nat_lit 0) [Kd.int IntKind.i64, Kd.int IntKind.i64, Kd.int IntKind.i64, Kd.int IntKind.i64] (r7Ru1_0 x2 x3 p g gn ov st) (some (nat_lit 12))))) [some (At.bool true (r7Ru1_1 x2 x3 p g gn ov st)), some (At.bool true (r7Ru1_2 x2 x3 p g gn ov st)), some (At.int true IntKind.i64 (r7Ru1_3 x2 x3 p g gn ov st))])]) := by kernel_rfl
def r7Ru1_c0 : Con
  | [.a (.vec 0 0 5), .a (.ptr 1 0), .a (.int true .i64 x2), .a (.int true .i64 x3)], [⟨⟨0, 0, r0, some ⟨0, [.int .i64, .int .i64, .int .i64, .int .i64, .int .i64], p, none⟩⟩, []⟩, ⟨⟨0, 51, false, some ⟨0, [.int .i64, .int .i64, .int .i64, .int .i64], g, some 12⟩⟩, [some (.bool true gn), some (.bool true ov), some (.int true .i64 st)]⟩] => some (r7Ru1_o x2 x3 r0 p g gn ov st, LV.t [], [none, some (BC.mk (Hd.mk (nat_lit 0) (nat_lit 51) false (some (Rw.mk (nat_lit 0) [Kd.int IntKind.i64, Kd.int IntKind.i64, Kd.int IntKind.i64, Kd.int IntKind.i64] (r7Ru1_0 x2 x3 p g gn ov st) (some (nat_lit 12))))) [some (At.bool true (r7Ru1_1 x2 x3 p g gn ov st)), some (At.bool true (r7Ru1_2 x2 x3 p g gn ov st)), some (At.int true IntKind.i64 (r7Ru1_3 x2 x3 p g gn ov st))])])
  | _, _ => none
def r7Ru1_c : Con := packC r7Ru1_c0
theorem r7Ru1_ok : ConOK Try.prog 85 (normC r7Ru1_c) := normC_ok (packC_ok (by
  intro args bs obs lv out h ho φ vs w may ha hM
  unfold r7Ru1_c0 at h
  split at h
  · simp only [Option.some.injEq, Prod.mk.injEq] at h
    obtain ⟨rfl, rfl, rfl⟩ := h
    rename_i x2 x3 r0 p g gn ov st
    exact evG_okL' r7Ru1_D_ok follows (LOK_cons (show subs (bodyOf Try.prog 85) 1 3 = [.block (blockOf (subs (bodyOf Try.prog 85) 1 3)) (.loop r7Ru1_l3_code)] from by kernel_rfl) r7Ru1_l3_sok (LOK_nil')) _ _ _ _ _ (r7Ru1_p x2 x3 r0 p g gn ov st) ho φ vs w may ha hM
  · cases h))
theorem r7Ru1_en : Enters Try.prog 85 := fun args => by kernel_rfl
-- 21296 866 11 ms

def tabUc1 : Tab := (85, normC r7Ru1_c) :: tabUc0
theorem tabUc1_ok : TOK Try.prog tabUc1 := TOK.cons r7Ru1_en r7Ru1_ok (tabUc0_ok)

end Go.Proofs.Ytcdejlgophpdjaa
end

