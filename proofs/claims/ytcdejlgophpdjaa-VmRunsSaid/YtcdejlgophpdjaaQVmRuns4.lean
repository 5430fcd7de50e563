/-
  The seat's program: what the evaluator asks of it; the empty table.
-/
import Derived.Test.YtcdejlgophpdjaaRows
import Derived.Test.YtcdejlgophpdjaaQVmRuns3
section
namespace Go.Proofs.Ytcdejlgophpdjaa
open Go Go.RowKit Go.Proofs.Ytcdejlgophpdjaa.V

theorem follows : Try.prog.follows .mixedOrders = true := by kernel_rfl

def tabVL : Tab := []
theorem tabVL_ok : TOK Try.prog tabVL := TOK.nil

end Go.Proofs.Ytcdejlgophpdjaa
end

section
namespace Go.Proofs.Ytcdejlgophpdjaa
open Go Go.RowKit Go.Proofs.Ytcdejlgophpdjaa.V

namespace V
/-- A long row of numbers, handed over as a value. -/
def gZ (z : List At) (j : Nat) : Int := match z[j]? with
  | some (.int _ _ n) => n
  | _ => 0
def rdI : List At → Nat → Bool
  | [], 0 => true
  | .int true .i64 _ :: z, k + 1 => rdI z k
  | _, _ => false
def mkZ (z : List At) : Nat → Nat → List At
  | 0, _ => []
  | k + 1, j => .int true .i64 (gZ z j) :: mkZ z k (j + 1)
theorem rdI_go (z : List At) : ∀ (k j : Nat) (l : List At), rdI l k = true → (∀ i x, l[i]? = some x → z[j + i]? = some x) → l = mkZ z k j
  | 0, j, [], _, _ => rfl
  | 0, j, _ :: _, h, _ => by simp [rdI] at h
  | k + 1, j, [], h, _ => by simp [rdI] at h
  | k + 1, j, x :: l, h, hz => by
    have hx := hz 0 x rfl
    unfold rdI at h
    split at h
    · rename_i e; cases e
    · rename_i e1 e2
      rename_i n m
      simp only [List.cons.injEq] at e1
      obtain ⟨rfl, rfl⟩ := e1
      first | (simp only [Nat.add_right_cancel_iff] at e2; subst e2) | (obtain rfl := Nat.succ.inj e2) | skip
      rw [mkZ, ← rdI_go z _ (j + 1) _ h (fun i x hi => by rw [Nat.add_right_comm]; exact hz (i + 1) x hi)]
      congr 1
      unfold gZ
      rw [Nat.add_zero] at hx
      rw [hx]
    · cases h
/-- Its numbers. -/
def gZs : List At → List Int
  | [] => []
  | .int _ _ n :: l => n :: gZs l
  | _ :: l => 0 :: gZs l
def mkZs (l : List Int) : Nat → Nat → List At
  | 0, _ => []
  | k + 1, j => .int true .i64 (l.getD j 0) :: mkZs l k (j + 1)
theorem gZs_get : ∀ (z : List At) (j : Nat), (gZs z).getD j 0 = gZ z j
  | [], j => by unfold gZ; rfl
  | x :: z, 0 => by cases x <;> rfl
  | x :: z, j + 1 => by
    have := gZs_get z j
    have e : (gZs (x :: z)).getD (j + 1) 0 = (gZs z).getD j 0 := by cases x <;> rfl
    rw [e, this]; rfl
theorem mkZs_eq (z : List At) : ∀ (k j : Nat), mkZs (gZs z) k j = mkZ z k j
  | 0, _ => rfl
  | k + 1, j => by
    show .int true .i64 ((gZs z).getD j 0) :: mkZs (gZs z) k (j + 1) = .int true .i64 (gZ z j) :: mkZ z k (j + 1)
    rw [gZs_get, mkZs_eq z k (j + 1)]
theorem rdI_ok {z : List At} {k : Nat} (h : rdI z k = true) : z = mkZ z k 0 := rdI_go z k 0 z h fun i x hi => by rw [Nat.zero_add]; exact hi
theorem rdI_oks {z : List At} {k : Nat} (h : rdI z k = true) : z = mkZs (gZs z) k 0 := (rdI_ok h).trans (mkZs_eq z k 0).symm
end V

/-- It asks for what isn't. -/
def dumI_c : Con
  | [.a (.int _ .i64 _), .a (.int _ .i64 _)], [] => some ([False], .a (.int true .i64 0), [])
  | _, _ => none
theorem dumI_ok {f : Nat} : ConOK Try.prog f (normC dumI_c) := normC_ok (by
  intro args bs obs lv out h ho φ vs w may ha hM
  unfold dumI_c at h
  split at h
  · simp only [Option.some.injEq, Prod.mk.injEq] at h
    obtain ⟨rfl, rfl, rfl⟩ := h
    exact ho.1.elim
  · cases h)
theorem dumI_en : Enters Try.prog 141 := fun args => by kernel_rfl
theorem rowU_en : Enters Try.prog 2 := fun args => by kernel_rfl
def tabUa0 : Tab := (2, rowC [(232, (0, 4, 12)), (166, (0, 4, 12))]) :: (141, normC dumI_c) :: tabVL
theorem tabUa0_ok : TOK Try.prog tabUa0 := TOK.cons rowU_en rowC_con (TOK.cons dumI_en dumI_ok tabVL_ok)

end Go.Proofs.Ytcdejlgophpdjaa
end

section
namespace Go.Proofs.Ytcdejlgophpdjaa
open Go Go.RowKit Go.Proofs.Ytcdejlgophpdjaa.V
set_option linter.unusedVariables false

/-! azulejo/fix.Within -/
def fWi_s0 (x0 x1 : Int) : Int := if x1 < x0 then x1 else x0
def fWi_s1 (x1 : Int) : Int := IntKind.wrap IntKind.i64 ((0 : Int) - x1)
def fWi_0 (x0 x1 : Int) : Int := if fWi_s0 x0 x1 < fWi_s1 x1 then fWi_s1 x1 else fWi_s0 x0 x1
theorem fWi_p (x0 x1 : Int) : evG Try.prog tabUa0 2000 109 [0, 1, 4] [] [] [.a (.int true .i64 x0), .a (.int true .i64 x1)] [] = some ([], LV.a (At.int true IntKind.i64 (fWi_0 x0 x1)), []) := by kernel_rfl
def fWi_c : Con
  | [.a (.int true .i64 x0), .a (.int true .i64 x1)], [] => some ([], LV.a (At.int true IntKind.i64 (fWi_0 x0 x1)), [])
  | _, _ => none
theorem fWi_ok : ConOK Try.prog 109 (normC fWi_c) := normC_ok (by
  intro args bs obs lv out h ho φ vs w may ha hM
  unfold fWi_c at h
  split at h
  · simp only [Option.some.injEq, Prod.mk.injEq] at h
    obtain ⟨rfl, rfl, rfl⟩ := h
    rename_i x0 x1
    exact evG_ok tabUa0_ok follows _ _ _ _ _ (fWi_p x0 x1) ho φ vs w may ha hM
  · cases h)
theorem fWi_en : Enters Try.prog 109 := fun args => by kernel_rfl
-- 62 4 5 ms

/-! azulejo/vm.all -/
theorem vAll_p (x0 : Int) : evG Try.prog tabUa0 2000 142 [0, 2] [] [] [.a (.int true .i64 x0)] [] = some ([], LV.g [At.int true IntKind.i64 x0, At.int true IntKind.i64 x0, At.int true IntKind.i64 x0, At.int true IntKind.i64 x0], []) := by kernel_rfl
def vAll_c : Con
  | [.a (.int true .i64 x0)], [] => some ([], LV.g [At.int true IntKind.i64 x0, At.int true IntKind.i64 x0, At.int true IntKind.i64 x0, At.int true IntKind.i64 x0], [])
  | _, _ => none
theorem vAll_ok : ConOK Try.prog 142 (normC vAll_c) := normC_ok (by
  intro args bs obs lv out h ho φ vs w may ha hM
  unfold vAll_c at h
  split at h
  · simp only [Option.some.injEq, Prod.mk.injEq] at h
    obtain ⟨rfl, rfl, rfl⟩ := h
    rename_i x0
    exact evG_ok tabUa0_ok follows _ _ _ _ _ (vAll_p x0) ho φ vs w may ha hM
  · cases h)
theorem vAll_en : Enters Try.prog 142 := fun args => by kernel_rfl
-- 97 0 0 ms

/-! azulejo/azulejoref01.Clamp -/
def rCl_0 (x0 : Int) : Int := bif decide ((2147483647 : Int) < x0) then (2147483647 : Int) else bif decide (x0 < (-2147483647 : Int)) then (-2147483647 : Int) else x0
theorem rCl_p (x0 : Int) : evG Try.prog tabUa0 2000 124 [0, 2, 4, 6] [] [] [.a (.int true .i64 x0)] [] = some ([], LV.a (At.int true IntKind.i64 (rCl_0 x0)), []) := by kernel_rfl
def rCl_c : Con
  | [.a (.int true .i64 x0)], [] => some ([], LV.a (At.int true IntKind.i64 (rCl_0 x0)), [])
  | _, _ => none
theorem rCl_ok : ConOK Try.prog 124 (normC rCl_c) := normC_ok (by
  intro args bs obs lv out h ho φ vs w may ha hM
  unfold rCl_c at h
  split at h
  · simp only [Option.some.injEq, Prod.mk.injEq] at h
    obtain ⟨rfl, rfl, rfl⟩ := h
    rename_i x0
    exact evG_ok tabUa0_ok follows _ _ _ _ _ (rCl_p x0) ho φ vs w may ha hM
  · cases h)
theorem rCl_en : Enters Try.prog 124 := fun args => by kernel_rfl
-- 73 9 3 ms

/-! azulejo/vm.Colour -/
def vCol_s0 (x0_0 : Int) : Int := if x0_0 < (0 : Int) then (0 : Int) else x0_0
def vCol_0 (x0_0 : Int) : Int := if (65536 : Int) < vCol_s0 x0_0 then (65536 : Int) else vCol_s0 x0_0
def vCol_s1 (x0_1 : Int) : Int := if x0_1 < (0 : Int) then (0 : Int) else x0_1
def vCol_1 (x0_1 : Int) : Int := if (65536 : Int) < vCol_s1 x0_1 then (65536 : Int) else vCol_s1 x0_1
def vCol_s2 (x0_2 : Int) : Int := if x0_2 < (0 : Int) then (0 : Int) else x0_2
def vCol_2 (x0_2 : Int) : Int := if (65536 : Int) < vCol_s2 x0_2 then (65536 : Int) else vCol_s2 x0_2
def vCol_s3 (x0_3 : Int) : Int := if x0_3 < (0 : Int) then (0 : Int) else x0_3
def vCol_3 (x0_3 : Int) : Int := if (65536 : Int) < vCol_s3 x0_3 then (65536 : Int) else vCol_s3 x0_3
theorem vCol_p (x0_0 x0_1 x0_2 x0_3 : Int) : evG Try.prog tabUa0 2000 94 [0, 1, 2, 3, 4, 5, 6, 7] [] [] [.g [.int true .i64 x0_0, .int true .i64 x0_1, .int true .i64 x0_2, .int true .i64 x0_3]] [] = some ([], LV.g [At.int true IntKind.i64 (vCol_0 x0_0), At.int true IntKind.i64 (vCol_1 x0_1), At.int true IntKind.i64 (vCol_2 x0_2), At.int true IntKind.i64 (vCol_3 x0_3)], []) := by kernel_rfl
def vCol_c : Con
  | [.g [.int true .i64 x0_0, .int true .i64 x0_1, .int true .i64 x0_2, .int true .i64 x0_3]], [] => some ([], LV.g [At.int true IntKind.i64 (vCol_0 x0_0), At.int true IntKind.i64 (vCol_1 x0_1), At.int true IntKind.i64 (vCol_2 x0_2), At.int true IntKind.i64 (vCol_3 x0_3)], [])
  | _, _ => none
theorem vCol_ok : ConOK Try.prog 94 (normC vCol_c) := normC_ok (by
  intro args bs obs lv out h ho φ vs w may ha hM
  unfold vCol_c at h
  split at h
  · simp only [Option.some.injEq, Prod.mk.injEq] at h
    obtain ⟨rfl, rfl, rfl⟩ := h
    rename_i x0_0 x0_1 x0_2 x0_3
    exact evG_ok tabUa0_ok follows _ _ _ _ _ (vCol_p x0_0 x0_1 x0_2 x0_3) ho φ vs w may ha hM
  · cases h)
theorem vCol_en : Enters Try.prog 94 := fun args => by kernel_rfl
-- 276 10 9 ms

/-! azulejo/azulejoref07.Within -/
def r7Wi_s0 (x0_0 x1 : Int) : Int := bif decide (x0_0 < x1) then x1 else x0_0
def r7Wi_0 (x0_0 x1 x2 : Int) : Int := bif decide (x2 < r7Wi_s0 x0_0 x1) then x2 else r7Wi_s0 x0_0 x1
def r7Wi_s1 (x0_1 x1 : Int) : Int := bif decide (x0_1 < x1) then x1 else x0_1
def r7Wi_1 (x0_1 x1 x2 : Int) : Int := bif decide (x2 < r7Wi_s1 x0_1 x1) then x2 else r7Wi_s1 x0_1 x1
def r7Wi_s2 (x0_2 x1 : Int) : Int := bif decide (x0_2 < x1) then x1 else x0_2
def r7Wi_2 (x0_2 x1 x2 : Int) : Int := bif decide (x2 < r7Wi_s2 x0_2 x1) then x2 else r7Wi_s2 x0_2 x1
def r7Wi_s3 (x0_3 x1 : Int) : Int := bif decide (x0_3 < x1) then x1 else x0_3
def r7Wi_3 (x0_3 x1 x2 : Int) : Int := bif decide (x2 < r7Wi_s3 x0_3 x1) then x2 else r7Wi_s3 x0_3 x1
theorem r7Wi_p (x0_0 x0_1 x0_2 x0_3 x1 x2 : Int) : evG Try.prog tabUa0 2000 95 [0, 1, 2, 3, 6, 7, 9, 16, 24] [] [] [.g [.int true .i64 x0_0, .int true .i64 x0_1, .int true .i64 x0_2, .int true .i64 x0_3], .a (.int true .i64 x1), .a (.int true .i64 x2)] [] = some ([], LV.g [At.int true IntKind.i64 (r7Wi_0 x0_0 x1 x2), At.int true IntKind.i64 (r7Wi_1 x0_1 x1 x2), At.int true IntKind.i64 (r7Wi_2 x0_2 x1 x2), At.int true IntKind.i64 (r7Wi_3 x0_3 x1 x2)], []) := by kernel_rfl
def r7Wi_c : Con
  | [.g [.int true .i64 x0_0, .int true .i64 x0_1, .int true .i64 x0_2, .int true .i64 x0_3], .a (.int true .i64 x1), .a (.int true .i64 x2)], [] => some ([], LV.g [At.int true IntKind.i64 (r7Wi_0 x0_0 x1 x2), At.int true IntKind.i64 (r7Wi_1 x0_1 x1 x2), At.int true IntKind.i64 (r7Wi_2 x0_2 x1 x2), At.int true IntKind.i64 (r7Wi_3 x0_3 x1 x2)], [])
  | _, _ => none
theorem r7Wi_ok : ConOK Try.prog 95 (normC r7Wi_c) := normC_ok (by
  intro args bs obs lv out h ho φ vs w may ha hM
  unfold r7Wi_c at h
  split at h
  · simp only [Option.some.injEq, Prod.mk.injEq] at h
    obtain ⟨rfl, rfl, rfl⟩ := h
    rename_i x0_0 x0_1 x0_2 x0_3 x1 x2
    exact evG_ok tabUa0_ok follows _ _ _ _ _ (r7Wi_p x0_0 x0_1 x0_2 x0_3 x1 x2) ho φ vs w may ha hM
  · cases h)
theorem r7Wi_en : Enters Try.prog 95 := fun args => by kernel_rfl
-- 380 153 9 ms

/-! azulejo/azulejoref01.Floor -/
def rFlo0_s0 (x1 : Int) : Bool := decide (x1 < (0 : Int))
def rFlo0_s1 (x0 : Int) : Bool := decide ((0 : Int) ≤ x0)
def rFlo0_0 (x0 x1 : Int) : Int := bif x1 == (0 : Int) then (0 : Int) else bif rFlo0_s0 x1 then (0 : Int) else bif rFlo0_s1 x0 then IntKind.wrap IntKind.i64 (Int.tdiv x0 x1) else IntKind.wrap IntKind.i64 ((0 : Int) - IntKind.wrap IntKind.i64 (Int.tdiv (IntKind.wrap IntKind.i64 (IntKind.wrap IntKind.i64 (x1 - (1 : Int)) - x0)) x1))
def rFlo0_o (x0 x1 : Int) : List Prop := [(!x1 == (0 : Int)) = true → rFlo0_s0 x1 = true → False, (!x1 == (0 : Int)) = true → (!rFlo0_s0 x1) = true → rFlo0_s1 x0 = true → x1 ≠ (0 : Int), (!x1 == (0 : Int)) = true → (!rFlo0_s0 x1) = true → (!rFlo0_s1 x0) = true → x1 ≠ (0 : Int)]
theorem rFlo0_p (x0 x1 : Int) : evG Try.prog tabUa0 2000 141 [0, 1, 4, 6, 8, 15] [] [] [.a (.int true .i64 x0), .a (.int true .i64 x1)] [] = some (rFlo0_o x0 x1, LV.a (At.int true IntKind.i64 (rFlo0_0 x0 x1)), []) := by kernel_rfl
def rFlo0_c : Con
  | [.a (.int true .i64 x0), .a (.int true .i64 x1)], [] => some (rFlo0_o x0 x1, LV.a (At.int true IntKind.i64 (rFlo0_0 x0 x1)), [])
  | _, _ => none
theorem rFlo0_ok : ConOK Try.prog 141 (normC rFlo0_c) := normC_ok (by
  intro args bs obs lv out h ho φ vs w may ha hM
  unfold rFlo0_c at h
  split at h
  · simp only [Option.some.injEq, Prod.mk.injEq] at h
    obtain ⟨rfl, rfl, rfl⟩ := h
    rename_i x0 x1
    exact evG_ok tabUa0_ok follows _ _ _ _ _ (rFlo0_p x0 x1) ho φ vs w may ha hM
  · cases h)
theorem rFlo0_en : Enters Try.prog 141 := fun args => by kernel_rfl
-- 147 21 6 ms

/-! (azulejo/isa.Program).Body -/
def pBo_s0 (x1 : Int) : Bool := decide (x1 < (0 : Int))
def pBo_s1 (x1 : Int) (p : List (List Int)) : Bool := decide (Int.ofNat (List.length p) ≤ x1)
def pBo_s2 (x1 : Int) (p : List (List Int)) : Bool := bif pBo_s0 x1 then true else bif pBo_s1 x1 p then true else rget p (Int.toNat x1) (0 : Nat) != (12 : Int)
def pBo_s3 (x1 : Int) : Int := IntKind.wrap IntKind.i64 (x1 + (1 : Int))
def pBo_0 (x1 : Int) (p : List (List Int)) : Int := bif pBo_s2 x1 p then (0 : Int) else pBo_s3 x1
def pBo_1 (x1 : Int) (p : List (List Int)) : Int := bif pBo_s2 x1 p then (0 : Int) else IntKind.wrap IntKind.i64 (pBo_s3 x1 + IntKind.wrap IntKind.i64 (rget p (Int.toNat x1) (3 : Nat)))
def pBo_2 (x1 : Int) (p : List (List Int)) : Bool := bif pBo_s2 x1 p then false else true
def pBo_o (x1 : Int) (r0 : Bool) (p : List (List Int)) : List Prop := [pBo_s0 x1 = false → pBo_s1 x1 p = false → (0 : Int) ≤ x1 ∧ x1 < Int.ofNat (List.length p), (!pBo_s2 x1 p) = true → (0 : Int) ≤ x1 ∧ x1 < Int.ofNat (List.length p)]
theorem pBo_p (x1 : Int) (r0 : Bool) (p : List (List Int)) : evG Try.prog tabUa0 2000 151 [0, 1, 4, 5, 6, 22] [] [] [.a (.vec 0 0 5), .a (.int true .i64 x1)] [⟨⟨0, 0, r0, some ⟨0, [.int .u8, .int .u8, .int .u8, .int .u8, .int .i16], p, none⟩⟩, []⟩] = some (pBo_o x1 r0 p, LV.t [LV.a (At.int true IntKind.i64 (pBo_0 x1 p)), LV.a (At.int true IntKind.i64 (pBo_1 x1 p)), LV.a (At.bool true (pBo_2 x1 p))], [none]) := by kernel_rfl
def pBo_c : Con
  | [.a (.vec 0 0 5), .a (.int true .i64 x1)], [⟨⟨0, 0, r0, some ⟨0, [.int .u8, .int .u8, .int .u8, .int .u8, .int .i16], p, none⟩⟩, []⟩] => some (pBo_o x1 r0 p, LV.t [LV.a (At.int true IntKind.i64 (pBo_0 x1 p)), LV.a (At.int true IntKind.i64 (pBo_1 x1 p)), LV.a (At.bool true (pBo_2 x1 p))], [none])
  | _, _ => none
theorem pBo_ok : ConOK Try.prog 151 (normC pBo_c) := normC_ok (by
  intro args bs obs lv out h ho φ vs w may ha hM
  unfold pBo_c at h
  split at h
  · simp only [Option.some.injEq, Prod.mk.injEq] at h
    obtain ⟨rfl, rfl, rfl⟩ := h
    rename_i x1 r0 p
    exact evG_ok tabUa0_ok follows _ _ _ _ _ (pBo_p x1 r0 p) ho φ vs w may ha hM
  · cases h)
theorem pBo_en : Enters Try.prog 151 := fun args => by kernel_rfl
-- 373 66 11 ms

/-! (azulejo/isa.Program).Fuel -/
noncomputable def pFu_l29_code : Go.Code := loopOf (subs (bodyOf Try.prog 87) 1 29)
structure pFu_l29_T where
  a0 : Int
  a1 : Int
  a2 : Int
  a3 : Int
  a4 : List (List Int)
  deriving Inhabited
def pFu_l29_hd (v : pFu_l29_T) : HS := HS.mk [(nat_lit 2, LV.a (At.int true IntKind.i64 (pFu_l29_T.a0 v))), (nat_lit 3, LV.a (At.int true IntKind.i64 (pFu_l29_T.a1 v))), (nat_lit 8, LV.a (At.vec (nat_lit 0) (nat_lit 0) (nat_lit 5))), (nat_lit 9, LV.a (At.int true IntKind.i64 (pFu_l29_T.a2 v))), (nat_lit 10, LV.a (At.int true IntKind.i64 (pFu_l29_T.a3 v)))] [BC.mk (Hd.mk (nat_lit 0) (nat_lit 0) true (some (Rw.mk (nat_lit 0) [Kd.int IntKind.u8, Kd.int IntKind.u8, Kd.int IntKind.u8, Kd.int IntKind.u8, Kd.int IntKind.i16] (pFu_l29_T.a4 v) none))) []]
def pFu_l29_s0 (v : pFu_l29_T) : Bool := decide (pFu_l29_T.a3 v < pFu_l29_T.a2 v)
def pFu_l29_s1 (v : pFu_l29_T) : Int := IntKind.wrap IntKind.i64 (rget (pFu_l29_T.a4 v) (Int.toNat (pFu_l29_T.a3 v)) (4 : Nat))
def pFu_l29_st (v : pFu_l29_T) : List Prop × List (X × Bool × pFu_l29_T) := ([pFu_l29_s0 v = true → (0 : Int) ≤ pFu_l29_T.a3 v ∧ pFu_l29_T.a3 v < Int.ofNat (List.length (pFu_l29_T.a4 v))], [(X.e (0 : Nat), !pFu_l29_s0 v, pFu_l29_T.mk (pFu_l29_T.a0 v) (pFu_l29_T.a1 v) (pFu_l29_T.a2 v) (pFu_l29_T.a3 v) (pFu_l29_T.a4 v)), (X.n, pFu_l29_s0 v, pFu_l29_T.mk (pFu_l29_T.a0 v) (bif rget (pFu_l29_T.a4 v) (Int.toNat (pFu_l29_T.a3 v)) (0 : Nat) == (12 : Int) then IntKind.wrap IntKind.i64 (pFu_l29_T.a1 v + IntKind.wrap IntKind.i64 (IntKind.wrap IntKind.i64 (rget (pFu_l29_T.a4 v) (Int.toNat (pFu_l29_T.a3 v)) (3 : Nat)) * IntKind.wrap IntKind.i64 ((if pFu_l29_s1 v < (1 : Int) then (1 : Int) else pFu_l29_s1 v) - (1 : Int)))) else pFu_l29_T.a1 v) (pFu_l29_T.a2 v) (IntKind.wrap IntKind.i64 (pFu_l29_T.a3 v + (1 : Int))) (pFu_l29_T.a4 v))])
def pFu_l29_rd : HS → Option pFu_l29_T := rdS [.i, .i, .i, .i, .r] (fun l => pFu_l29_T.mk (gI l 0) (gI l 1) (gI l 2) (gI l 3) (gR l 4)) pFu_l29_hd
def pFu_l29_sum : V.Sum := loopS pFu_l29_hd pFu_l29_rd pFu_l29_st 18446744073709551616 [X.e (0 : Nat)] [0, 2, 3, 5, 8, 9, 10, 11, 16] [2, 3, 8, 9, 10] [] [] [] 0
theorem pFu_l29_E : ∀ v, bodyF Try.prog tabUa0 (ntOf Try.prog 87) [0, 2, 3, 5, 8, 9, 10, 11, 16] [2, 3, 8, 9, 10] [] 2000 [] [] pFu_l29_code 116 (pFu_l29_hd v) = some ((pFu_l29_st v).1, (pFu_l29_st v).2.map fun q => (q.1, q.2.1, pFu_l29_hd q.2.2)) := fun v => by kernel_rfl
theorem pFu_l29_R : ∀ h v, pFu_l29_rd h = some v → h = pFu_l29_hd v := rdS_ok fun l => by kernel_rfl
set_option maxRecDepth 100000 in
theorem pFu_l29_sok : SumOK Try.prog (ntOf Try.prog 87) [0, 2, 3, 5, 8, 9, 10, 11, 16] (.block (blockOf (subs (bodyOf Try.prog 87) 1 29)) (.loop pFu_l29_code)) pFu_l29_sum := loopS_ok tabUa0_ok follows pFu_l29_E pFu_l29_R (fun v => by kernel_rfl) (LOK_of _ _ (LOK_nil'))
def pFu_0 (p : List (List Int)) : Int := pFu_l29_T.a1 (V.valOf (lrun pFu_l29_st (18446744073709551616 : Nat) (pFu_l29_T.mk (0 : Int) (Int.ofNat (List.length p)) (Int.ofNat (List.length p)) (0 : Int) p)))
def pFu_o (r0 : Bool) (p : List (List Int)) : List Prop := [lok pFu_l29_st (18446744073709551616 : Nat) (pFu_l29_T.mk (0 : Int) (Int.ofNat (List.length p)) (Int.ofNat (List.length p)) (0 : Int) p)]
theorem pFu_p (r0 : Bool) (p : List (List Int)) : evG Try.prog tabUa0 2000 87 [0, 2, 3, 5, 8, 9, 10, 11, 16] [(29, pFu_l29_sum)] [] [.a (.vec 0 0 5)] [⟨⟨0, 0, r0, some ⟨0, [.int .u8, .int .u8, .int .u8, .int .u8, .int .i16], p, none⟩⟩, []⟩] = some (pFu_o r0 p, LV.a (At.int true IntKind.i64 (pFu_0 p)), [none]) := by kernel_rfl
def pFu_c : Con
  | [.a (.vec 0 0 5)], [⟨⟨0, 0, r0, some ⟨0, [.int .u8, .int .u8, .int .u8, .int .u8, .int .i16], p, none⟩⟩, []⟩] => some (pFu_o r0 p, LV.a (At.int true IntKind.i64 (pFu_0 p)), [none])
  | _, _ => none
theorem pFu_ok : ConOK Try.prog 87 (normC pFu_c) := normC_ok (by
  intro args bs obs lv out h ho φ vs w may ha hM
  unfold pFu_c at h
  split at h
  · simp only [Option.some.injEq, Prod.mk.injEq] at h
    obtain ⟨rfl, rfl, rfl⟩ := h
    rename_i r0 p
    exact evG_okL' tabUa0_ok follows (LOK_cons (show subs (bodyOf Try.prog 87) 1 29 = [.block (blockOf (subs (bodyOf Try.prog 87) 1 29)) (.loop pFu_l29_code)] from by kernel_rfl) pFu_l29_sok (LOK_nil')) _ _ _ _ _ (pFu_p r0 p) ho φ vs w may ha hM
  · cases h)
theorem pFu_en : Enters Try.prog 87 := fun args => by kernel_rfl
-- 1280 32 3 ms

/-! (azulejo/isa.Program).Fuel -/
def pFuN_0 : Int := (0 : Int)
theorem pFuN_p  : evG Try.prog tabUa0 2000 87 [0, 2, 3, 5, 8, 9, 10, 11, 16] [] [] [.a .nils] [] = some ([], LV.a (At.int false IntKind.i64 pFuN_0), []) := by kernel_rfl
def pFuN_c : Con
  | [.a .nils], [] => some ([], LV.a (At.int false IntKind.i64 pFuN_0), [])
  | _, _ => none
theorem pFuN_ok : ConOK Try.prog 87 (normC pFuN_c) := normC_ok (by
  intro args bs obs lv out h ho φ vs w may ha hM
  unfold pFuN_c at h
  split at h
  · simp only [Option.some.injEq, Prod.mk.injEq] at h
    obtain ⟨rfl, rfl, rfl⟩ := h
    exact evG_ok tabUa0_ok follows _ _ _ _ _ (pFuN_p ) ho φ vs w may ha hM
  · cases h)
theorem pFuN_en : Enters Try.prog 87 := fun args => by kernel_rfl
-- 71 1 1 ms

def tabUa1 : Tab := (109, normC fWi_c) :: (142, normC vAll_c) :: (124, normC rCl_c) :: (94, normC vCol_c) :: (95, normC r7Wi_c) :: (141, normC rFlo0_c) :: (151, normC pBo_c) :: (87, normC pFu_c) :: (87, normC pFuN_c) :: tabUa0
theorem tabUa1_ok : TOK Try.prog tabUa1 := TOK.cons fWi_en fWi_ok (TOK.cons vAll_en vAll_ok (TOK.cons rCl_en rCl_ok (TOK.cons vCol_en vCol_ok (TOK.cons r7Wi_en r7Wi_ok (TOK.cons rFlo0_en rFlo0_ok (TOK.cons pBo_en pBo_ok (TOK.cons pFu_en pFu_ok (TOK.cons pFuN_en pFuN_ok (tabUa0_ok)))))))))

end Go.Proofs.Ytcdejlgophpdjaa
end

section
namespace Go.Proofs.Ytcdejlgophpdjaa
open Go Go.RowKit Go.Proofs.Ytcdejlgophpdjaa.V
set_option linter.unusedVariables false

/-! azulejo/fix.Clamp -/
def fCla_0 (x0 : Int) : Int := fWi_0 x0 (2147483647 : Int)
theorem fCla_p (x0 : Int) : evG Try.prog tabUa1 2000 137 [0, 2] [] [] [.a (.int true .i64 x0)] [] = some ([], LV.a (At.int true IntKind.i64 (fCla_0 x0)), []) := by kernel_rfl
def fCla_c : Con
  | [.a (.int true .i64 x0)], [] => some ([], LV.a (At.int true IntKind.i64 (fCla_0 x0)), [])
  | _, _ => none
theorem fCla_ok : ConOK Try.prog 137 (normC fCla_c) := normC_ok (by
  intro args bs obs lv out h ho φ vs w may ha hM
  unfold fCla_c at h
  split at h
  · simp only [Option.some.injEq, Prod.mk.injEq] at h
    obtain ⟨rfl, rfl, rfl⟩ := h
    rename_i x0
    exact evG_ok tabUa1_ok follows _ _ _ _ _ (fCla_p x0) ho φ vs w may ha hM
  · cases h)
theorem fCla_en : Enters Try.prog 137 := fun args => by kernel_rfl
-- 39 1 2 ms

/-! (azulejo/vec.Vec).Within -/
theorem vWi_p (x0_0 x0_1 x0_2 x0_3 x1 : Int) : evG Try.prog tabUa1 2000 90 [0, 1, 2, 4, 5, 6, 7, 8, 9] [] [] [.g [.int true .i64 x0_0, .int true .i64 x0_1, .int true .i64 x0_2, .int true .i64 x0_3], .a (.int true .i64 x1)] [] = some ([], LV.g [At.int true IntKind.i64 (fWi_0 x0_0 x1), At.int true IntKind.i64 (fWi_0 x0_1 x1), At.int true IntKind.i64 (fWi_0 x0_2 x1), At.int true IntKind.i64 (fWi_0 x0_3 x1)], []) := by kernel_rfl
def vWi_c : Con
  | [.g [.int true .i64 x0_0, .int true .i64 x0_1, .int true .i64 x0_2, .int true .i64 x0_3], .a (.int true .i64 x1)], [] => some ([], LV.g [At.int true IntKind.i64 (fWi_0 x0_0 x1), At.int true IntKind.i64 (fWi_0 x0_1 x1), At.int true IntKind.i64 (fWi_0 x0_2 x1), At.int true IntKind.i64 (fWi_0 x0_3 x1)], [])
  | _, _ => none
theorem vWi_ok : ConOK Try.prog 90 (normC vWi_c) := normC_ok (by
  intro args bs obs lv out h ho φ vs w may ha hM
  unfold vWi_c at h
  split at h
  · simp only [Option.some.injEq, Prod.mk.injEq] at h
    obtain ⟨rfl, rfl, rfl⟩ := h
    rename_i x0_0 x0_1 x0_2 x0_3 x1
    exact evG_ok tabUa1_ok follows _ _ _ _ _ (vWi_p x0_0 x0_1 x0_2 x0_3 x1) ho φ vs w may ha hM
  · cases h)
theorem vWi_en : Enters Try.prog 90 := fun args => by kernel_rfl
-- 195 2 0 ms

/-! azulejo/azulejoref01.Add -/
def rAd_0 (x0 x1 : Int) : Int := rCl_0 (IntKind.wrap IntKind.i64 (rCl_0 x0 + rCl_0 x1))
theorem rAd_p (x0 x1 : Int) : evG Try.prog tabUa1 2000 134 [0, 1, 4] [] [] [.a (.int true .i64 x0), .a (.int true .i64 x1)] [] = some ([], LV.a (At.int true IntKind.i64 (rAd_0 x0 x1)), []) := by kernel_rfl
def rAd_c : Con
  | [.a (.int true .i64 x0), .a (.int true .i64 x1)], [] => some ([], LV.a (At.int true IntKind.i64 (rAd_0 x0 x1)), [])
  | _, _ => none
theorem rAd_ok : ConOK Try.prog 134 (normC rAd_c) := normC_ok (by
  intro args bs obs lv out h ho φ vs w may ha hM
  unfold rAd_c at h
  split at h
  · simp only [Option.some.injEq, Prod.mk.injEq] at h
    obtain ⟨rfl, rfl, rfl⟩ := h
    rename_i x0 x1
    exact evG_ok tabUa1_ok follows _ _ _ _ _ (rAd_p x0 x1) ho φ vs w may ha hM
  · cases h)
theorem rAd_en : Enters Try.prog 134 := fun args => by kernel_rfl
-- 54 1 2 ms

/-! azulejo/azulejoref01.Floor -/
def rFlo_s0 (x1 : Int) : Bool := decide (x1 < (0 : Int))
def rFlo_s1 (x0 : Int) : Int := IntKind.wrap IntKind.i64 ((0 : Int) - x0)
def rFlo_s2 (x1 : Int) : Int := IntKind.wrap IntKind.i64 ((0 : Int) - x1)
def rFlo_s3 (x0 : Int) : Bool := decide ((0 : Int) ≤ x0)
def rFlo_0 (x0 x1 : Int) : Int := bif x1 == (0 : Int) then (0 : Int) else bif rFlo_s0 x1 then rFlo0_0 (rFlo_s1 x0) (rFlo_s2 x1) else bif rFlo_s3 x0 then IntKind.wrap IntKind.i64 (Int.tdiv x0 x1) else IntKind.wrap IntKind.i64 ((0 : Int) - IntKind.wrap IntKind.i64 (Int.tdiv (IntKind.wrap IntKind.i64 (IntKind.wrap IntKind.i64 (x1 - (1 : Int)) - x0)) x1))
def rFlo_o (x0 x1 : Int) : List Prop := [(!x1 == (0 : Int)) = true → rFlo_s0 x1 = true → (!rFlo_s2 x1 == (0 : Int)) = true → rFlo0_s0 (rFlo_s2 x1) = true → False, (!x1 == (0 : Int)) = true → rFlo_s0 x1 = true → (!rFlo_s2 x1 == (0 : Int)) = true → (!rFlo0_s0 (rFlo_s2 x1)) = true → rFlo0_s1 (rFlo_s1 x0) = true → rFlo_s2 x1 ≠ (0 : Int), (!x1 == (0 : Int)) = true → rFlo_s0 x1 = true → (!rFlo_s2 x1 == (0 : Int)) = true → (!rFlo0_s0 (rFlo_s2 x1)) = true → (!rFlo0_s1 (rFlo_s1 x0)) = true → rFlo_s2 x1 ≠ (0 : Int), (!x1 == (0 : Int)) = true → (!rFlo_s0 x1) = true → rFlo_s3 x0 = true → x1 ≠ (0 : Int), (!x1 == (0 : Int)) = true → (!rFlo_s0 x1) = true → (!rFlo_s3 x0) = true → x1 ≠ (0 : Int)]
theorem rFlo_p (x0 x1 : Int) : evG Try.prog tabUa1 2000 141 [0, 1, 4, 6, 8, 15] [] [] [.a (.int true .i64 x0), .a (.int true .i64 x1)] [] = some (rFlo_o x0 x1, LV.a (At.int true IntKind.i64 (rFlo_0 x0 x1)), []) := by kernel_rfl
def rFlo_c : Con
  | [.a (.int true .i64 x0), .a (.int true .i64 x1)], [] => some (rFlo_o x0 x1, LV.a (At.int true IntKind.i64 (rFlo_0 x0 x1)), [])
  | _, _ => none
theorem rFlo_ok : ConOK Try.prog 141 (normC rFlo_c) := normC_ok (by
  intro args bs obs lv out h ho φ vs w may ha hM
  unfold rFlo_c at h
  split at h
  · simp only [Option.some.injEq, Prod.mk.injEq] at h
    obtain ⟨rfl, rfl, rfl⟩ := h
    rename_i x0 x1
    exact evG_ok tabUa1_ok follows _ _ _ _ _ (rFlo_p x0 x1) ho φ vs w may ha hM
  · cases h)
theorem rFlo_en : Enters Try.prog 141 := fun args => by kernel_rfl
-- 136 19 8 ms

/-! (azulejo/isa.Program).within -/
noncomputable def pWi_l13_code : Go.Code := loopOf (subs (bodyOf Try.prog 138) 1 13)
structure pWi_l13_T where
  a0 : Int
  a1 : Int
  a2 : Int
  a3 : Bool
  a4 : Int
  a5 : Int
  a6 : List (List Int)
  deriving Inhabited
def pWi_l13_hd (v : pWi_l13_T) : HS := HS.mk [(nat_lit 0, LV.a (At.vec (nat_lit 0) (nat_lit 0) (nat_lit 5))), (nat_lit 1, LV.a (At.int true IntKind.i64 (pWi_l13_T.a0 v))), (nat_lit 4, LV.a (At.int true IntKind.i64 (pWi_l13_T.a1 v))), (nat_lit 5, LV.a (At.int true IntKind.i64 (pWi_l13_T.a2 v))), (nat_lit 6, LV.a (At.bool true (pWi_l13_T.a3 v))), (nat_lit 12, LV.a (At.int true IntKind.i64 (pWi_l13_T.a4 v))), (nat_lit 13, LV.a (At.int true IntKind.i64 (pWi_l13_T.a5 v)))] [BC.mk (Hd.mk (nat_lit 0) (nat_lit 0) true (some (Rw.mk (nat_lit 0) [Kd.int IntKind.u8, Kd.int IntKind.u8, Kd.int IntKind.u8, Kd.int IntKind.u8, Kd.int IntKind.i16] (pWi_l13_T.a6 v) none))) []]
def pWi_l13_s0 (v : pWi_l13_T) : Bool := decide (pWi_l13_T.a5 v < pWi_l13_T.a4 v)
def pWi_l13_s1 (v : pWi_l13_T) : Bool := bif pBo_2 (pWi_l13_T.a5 v) (pWi_l13_T.a6 v) then bif decide (pBo_0 (pWi_l13_T.a5 v) (pWi_l13_T.a6 v) ≤ pWi_l13_T.a0 v) then decide (pWi_l13_T.a0 v < pBo_1 (pWi_l13_T.a5 v) (pWi_l13_T.a6 v)) else false else false
def pWi_l13_st (v : pWi_l13_T) : List Prop × List (X × Bool × pWi_l13_T) := ([pWi_l13_s0 v = true → pBo_s0 (pWi_l13_T.a5 v) = false → pBo_s1 (pWi_l13_T.a5 v) (pWi_l13_T.a6 v) = false → (0 : Int) ≤ pWi_l13_T.a5 v ∧ pWi_l13_T.a5 v < Int.ofNat (List.length (pWi_l13_T.a6 v)), pWi_l13_s0 v = true → (!pBo_s2 (pWi_l13_T.a5 v) (pWi_l13_T.a6 v)) = true → (0 : Int) ≤ pWi_l13_T.a5 v ∧ pWi_l13_T.a5 v < Int.ofNat (List.length (pWi_l13_T.a6 v))], [(X.e (0 : Nat), !pWi_l13_s0 v, pWi_l13_T.mk (pWi_l13_T.a0 v) (pWi_l13_T.a1 v) (pWi_l13_T.a2 v) (pWi_l13_T.a3 v) (pWi_l13_T.a4 v) (pWi_l13_T.a5 v) (pWi_l13_T.a6 v)), (X.r, pWi_l13_s0 v && pWi_l13_s1 v, pWi_l13_T.mk (pWi_l13_T.a0 v) (pBo_0 (pWi_l13_T.a5 v) (pWi_l13_T.a6 v)) (pBo_1 (pWi_l13_T.a5 v) (pWi_l13_T.a6 v)) (true) (pWi_l13_T.a4 v) (pWi_l13_T.a5 v) (pWi_l13_T.a6 v)), (X.n, pWi_l13_s0 v && !pWi_l13_s1 v, pWi_l13_T.mk (pWi_l13_T.a0 v) (pWi_l13_T.a1 v) (pWi_l13_T.a2 v) (pWi_l13_T.a3 v) (pWi_l13_T.a4 v) (IntKind.wrap IntKind.i64 (pWi_l13_T.a5 v + (1 : Int))) (pWi_l13_T.a6 v))])
def pWi_l13_rd : HS → Option pWi_l13_T := rdS [.i, .i, .i, .b, .i, .i, .r] (fun l => pWi_l13_T.mk (gI l 0) (gI l 1) (gI l 2) (gB l 3) (gI l 4) (gI l 5) (gR l 6)) pWi_l13_hd
def pWi_l13_sum : V.Sum := loopS pWi_l13_hd pWi_l13_rd pWi_l13_st 18446744073709551616 [X.e (0 : Nat), X.r] [0, 1, 4, 5, 6, 7, 8, 9, 10, 12, 13, 14, 33] [0, 1, 4, 5, 6, 12, 13] [] [] [] 0
theorem pWi_l13_E : ∀ v, bodyF Try.prog tabUa1 (ntOf Try.prog 138) [0, 1, 4, 5, 6, 7, 8, 9, 10, 12, 13, 14, 33] [0, 1, 4, 5, 6, 12, 13] [] 2000 [] [] pWi_l13_code 52 (pWi_l13_hd v) = some ((pWi_l13_st v).1, (pWi_l13_st v).2.map fun q => (q.1, q.2.1, pWi_l13_hd q.2.2)) := fun v => by kernel_rfl
theorem pWi_l13_R : ∀ h v, pWi_l13_rd h = some v → h = pWi_l13_hd v := rdS_ok fun l => by kernel_rfl
set_option maxRecDepth 100000 in
theorem pWi_l13_sok : SumOK Try.prog (ntOf Try.prog 138) [0, 1, 4, 5, 6, 7, 8, 9, 10, 12, 13, 14, 33] (.block (blockOf (subs (bodyOf Try.prog 138) 1 13)) (.loop pWi_l13_code)) pWi_l13_sum := loopS_ok tabUa1_ok follows pWi_l13_E pWi_l13_R (fun v => by kernel_rfl) (LOK_of _ _ (LOK_nil'))
def pWi_s0 (x1 : Int) (p : List (List Int)) : Option (X × pWi_l13_T) := lrun pWi_l13_st (18446744073709551616 : Nat) (pWi_l13_T.mk x1 (0 : Int) (0 : Int) false (Int.ofNat (List.length p)) (0 : Int) p)
def pWi_0 (x1 : Int) (p : List (List Int)) : Int := bif isX X.r (pWi_s0 x1 p) then pWi_l13_T.a1 (V.valOf (pWi_s0 x1 p)) else (0 : Int)
def pWi_1 (x1 : Int) (p : List (List Int)) : Int := bif isX X.r (pWi_s0 x1 p) then pWi_l13_T.a2 (V.valOf (pWi_s0 x1 p)) else (0 : Int)
def pWi_2 (x1 : Int) (p : List (List Int)) : Bool := bif isX X.r (pWi_s0 x1 p) then pWi_l13_T.a3 (V.valOf (pWi_s0 x1 p)) else false
def pWi_o (x1 : Int) (r0 : Bool) (p : List (List Int)) : List Prop := [lok pWi_l13_st (18446744073709551616 : Nat) (pWi_l13_T.mk x1 (0 : Int) (0 : Int) false (Int.ofNat (List.length p)) (0 : Int) p)]
theorem pWi_p (x1 : Int) (r0 : Bool) (p : List (List Int)) : evG Try.prog tabUa1 2000 138 [0, 1, 4, 5, 6, 7, 8, 9, 10, 12, 13, 14, 33] [(13, pWi_l13_sum)] [] [.a (.vec 0 0 5), .a (.int true .i64 x1)] [⟨⟨0, 0, r0, some ⟨0, [.int .u8, .int .u8, .int .u8, .int .u8, .int .i16], p, none⟩⟩, []⟩] = some (pWi_o x1 r0 p, LV.t [LV.a (At.int true IntKind.i64 (pWi_0 x1 p)), LV.a (At.int true IntKind.i64 (pWi_1 x1 p)), LV.a (At.bool true (pWi_2 x1 p))], [none]) := by kernel_rfl
def pWi_c : Con
  | [.a (.vec 0 0 5), .a (.int true .i64 x1)], [⟨⟨0, 0, r0, some ⟨0, [.int .u8, .int .u8, .int .u8, .int .u8, .int .i16], p, none⟩⟩, []⟩] => some (pWi_o x1 r0 p, LV.t [LV.a (At.int true IntKind.i64 (pWi_0 x1 p)), LV.a (At.int true IntKind.i64 (pWi_1 x1 p)), LV.a (At.bool true (pWi_2 x1 p))], [none])
  | _, _ => none
theorem pWi_ok : ConOK Try.prog 138 (normC pWi_c) := normC_ok (by
  intro args bs obs lv out h ho φ vs w may ha hM
  unfold pWi_c at h
  split at h
  · simp only [Option.some.injEq, Prod.mk.injEq] at h
    obtain ⟨rfl, rfl, rfl⟩ := h
    rename_i x1 r0 p
    exact evG_okL' tabUa1_ok follows (LOK_cons (show subs (bodyOf Try.prog 138) 1 13 = [.block (blockOf (subs (bodyOf Try.prog 138) 1 13)) (.loop pWi_l13_code)] from by kernel_rfl) pWi_l13_sok (LOK_nil')) _ _ _ _ _ (pWi_p x1 r0 p) ho φ vs w may ha hM
  · cases h)
theorem pWi_en : Enters Try.prog 138 := fun args => by kernel_rfl
-- 1378 108 9 ms

/-! azulejo/azulejolaw07.Ref -/
noncomputable def pRef_l29_code : Go.Code := loopOf (subs (bodyOf Try.prog 84) 1 29)
structure pRef_l29_T where
  a0 : Int
  a1 : Int
  a2 : List (List Int)
  a3 : List (List Int)
  deriving Inhabited
def pRef_l29_hd (v : pRef_l29_T) : HS := HS.mk [(nat_lit 2, LV.a At.nils), (nat_lit 3, LV.a (At.vec (nat_lit 1) (nat_lit 0) (nat_lit 5))), (nat_lit 6, LV.a (At.vec (nat_lit 0) (nat_lit 0) (nat_lit 5))), (nat_lit 7, LV.a (At.int true IntKind.i64 (pRef_l29_T.a0 v))), (nat_lit 8, LV.a (At.int true IntKind.i64 (pRef_l29_T.a1 v)))] [BC.mk (Hd.mk (nat_lit 0) (nat_lit 0) true (some (Rw.mk (nat_lit 0) [Kd.int IntKind.u8, Kd.int IntKind.u8, Kd.int IntKind.u8, Kd.int IntKind.u8, Kd.int IntKind.i16] (pRef_l29_T.a2 v) none))) [], BC.mk (Hd.mk (nat_lit 0) (nat_lit 0) false (some (Rw.mk (nat_lit 0) [Kd.int IntKind.i64, Kd.int IntKind.i64, Kd.int IntKind.i64, Kd.int IntKind.i64, Kd.int IntKind.i64] (pRef_l29_T.a3 v) none))) []]
def pRef_l29_s0 (v : pRef_l29_T) : Bool := decide (pRef_l29_T.a1 v < pRef_l29_T.a0 v)
def pRef_l29_s1 (v : pRef_l29_T) : List (List Int) := pRef_l29_T.a3 v ++ [[IntKind.wrap IntKind.i64 (rget (pRef_l29_T.a2 v) (Int.toNat (pRef_l29_T.a1 v)) (0 : Nat)), IntKind.wrap IntKind.i64 (rget (pRef_l29_T.a2 v) (Int.toNat (pRef_l29_T.a1 v)) (1 : Nat)), IntKind.wrap IntKind.i64 (rget (pRef_l29_T.a2 v) (Int.toNat (pRef_l29_T.a1 v)) (2 : Nat)), IntKind.wrap IntKind.i64 (rget (pRef_l29_T.a2 v) (Int.toNat (pRef_l29_T.a1 v)) (3 : Nat)), IntKind.wrap IntKind.i64 (rget (pRef_l29_T.a2 v) (Int.toNat (pRef_l29_T.a1 v)) (4 : Nat))]]
def pRef_l29_st (v : pRef_l29_T) : List Prop × List (X × Bool × pRef_l29_T) := ([pRef_l29_s0 v = true → (0 : Int) ≤ pRef_l29_T.a1 v ∧ pRef_l29_T.a1 v < Int.ofNat (List.length (pRef_l29_T.a2 v)), pRef_l29_s0 v = true → List.length (pRef_l29_s1 v) * (40 : Nat) ≤ (70368744177664 : Nat)], [(X.e (0 : Nat), !pRef_l29_s0 v, pRef_l29_T.mk (pRef_l29_T.a0 v) (pRef_l29_T.a1 v) (pRef_l29_T.a2 v) (pRef_l29_T.a3 v)), (X.n, pRef_l29_s0 v, pRef_l29_T.mk (pRef_l29_T.a0 v) (IntKind.wrap IntKind.i64 (pRef_l29_T.a1 v + (1 : Int))) (pRef_l29_T.a2 v) (pRef_l29_s1 v))])
def pRef_l29_rd : HS → Option pRef_l29_T := rdS [.i, .i, .r, .r] (fun l => pRef_l29_T.mk (gI l 0) (gI l 1) (gR l 2) (gR l 3)) pRef_l29_hd
def pRef_l29_sum : V.Sum := loopS pRef_l29_hd pRef_l29_rd pRef_l29_st 18446744073709551616 [X.e (0 : Nat)] [0, 2, 3, 5, 6, 7, 8, 9] [2, 3, 6, 7, 8] [1] [1] [(3, [.int .i64, .int .i64, .int .i64, .int .i64, .int .i64])] 0
theorem pRef_l29_E : ∀ v, bodyF Try.prog tabUa1 (ntOf Try.prog 84) [0, 2, 3, 5, 6, 7, 8, 9] [2, 3, 6, 7, 8] [] 2000 [1] [1] pRef_l29_code 116 (pRef_l29_hd v) = some ((pRef_l29_st v).1, (pRef_l29_st v).2.map fun q => (q.1, q.2.1, pRef_l29_hd q.2.2)) := fun v => by kernel_rfl
theorem pRef_l29_R : ∀ h v, pRef_l29_rd h = some v → h = pRef_l29_hd v := rdS_ok fun l => by kernel_rfl
set_option maxRecDepth 100000 in
theorem pRef_l29_sok : SumOK Try.prog (ntOf Try.prog 84) [0, 2, 3, 5, 6, 7, 8, 9] (.block (blockOf (subs (bodyOf Try.prog 84) 1 29)) (.loop pRef_l29_code)) pRef_l29_sum := loopS_ok tabUa1_ok follows pRef_l29_E pRef_l29_R (fun v => by kernel_rfl) (LOK_of _ _ (LOK_nil'))
def pRef_0 (p : List (List Int)) : List (List Int) := pRef_l29_T.a3 (V.valOf (lrun pRef_l29_st (18446744073709551616 : Nat) (pRef_l29_T.mk (Int.ofNat (List.length p)) (0 : Int) p [])))
def pRef_o (r0 : Bool) (p : List (List Int)) : List Prop := [lok pRef_l29_st (18446744073709551616 : Nat) (pRef_l29_T.mk (Int.ofNat (List.length p)) (0 : Int) p [])]
theorem pRef_p (r0 : Bool) (p : List (List Int)) : evG Try.prog tabUa1 2000 84 [0, 2, 3, 5, 6, 7, 8, 9] [(29, pRef_l29_sum)] [] [.a (.vec 0 0 5)] [⟨⟨0, 0, r0, some ⟨0, [.int .u8, .int .u8, .int .u8, .int .u8, .int .i16], p, none⟩⟩, []⟩] = some (pRef_o r0 p, LV.a (At.vec (nat_lit 1) (nat_lit 1) (nat_lit 5)), [none, some (BC.mk (Hd.mk (nat_lit 1) (nat_lit 0) false (some (Rw.mk (nat_lit 0) [Kd.int IntKind.i64, Kd.int IntKind.i64, Kd.int IntKind.i64, Kd.int IntKind.i64, Kd.int IntKind.i64] (pRef_0 p) none))) [])]) := by kernel_rfl
def pRef_c : Con
  | [.a (.vec 0 0 5)], [⟨⟨0, 0, r0, some ⟨0, [.int .u8, .int .u8, .int .u8, .int .u8, .int .i16], p, none⟩⟩, []⟩] => some (pRef_o r0 p, LV.a (At.vec (nat_lit 1) (nat_lit 1) (nat_lit 5)), [none, some (BC.mk (Hd.mk (nat_lit 1) (nat_lit 0) false (some (Rw.mk (nat_lit 0) [Kd.int IntKind.i64, Kd.int IntKind.i64, Kd.int IntKind.i64, Kd.int IntKind.i64, Kd.int IntKind.i64] (pRef_0 p) none))) [])])
  | _, _ => none
theorem pRef_ok : ConOK Try.prog 84 (normC pRef_c) := normC_ok (by
  intro args bs obs lv out h ho φ vs w may ha hM
  unfold pRef_c at h
  split at h
  · simp only [Option.some.injEq, Prod.mk.injEq] at h
    obtain ⟨rfl, rfl, rfl⟩ := h
    rename_i r0 p
    exact evG_okL' tabUa1_ok follows (LOK_cons (show subs (bodyOf Try.prog 84) 1 29 = [.block (blockOf (subs (bodyOf Try.prog 84) 1 29)) (.loop pRef_l29_code)] from by kernel_rfl) pRef_l29_sok (LOK_nil')) _ _ _ _ _ (pRef_p r0 p) ho φ vs w may ha hM
  · cases h)
theorem pRef_en : Enters Try.prog 84 := fun args => by kernel_rfl
-- 1400 35 3 ms

def tabUa2 : Tab := (137, normC fCla_c) :: (90, normC vWi_c) :: (134, normC rAd_c) :: (141, normC rFlo_c) :: (138, normC pWi_c) :: (84, normC pRef_c) :: tabUa1
theorem tabUa2_ok : TOK Try.prog tabUa2 := TOK.cons fCla_en fCla_ok (TOK.cons vWi_en vWi_ok (TOK.cons rAd_en rAd_ok (TOK.cons rFlo_en rFlo_ok (TOK.cons pWi_en pWi_ok (TOK.cons pRef_en pRef_ok (tabUa1_ok))))))

end Go.Proofs.Ytcdejlgophpdjaa
end

section
namespace Go.Proofs.Ytcdejlgophpdjaa
open Go Go.RowKit Go.Proofs.Ytcdejlgophpdjaa.V
set_option linter.unusedVariables false

/-! azulejo/fix.Of -/
def fOf_0 (x0 : Int) : Int := fCla_0 (IntKind.wrap IntKind.i64 (fWi_0 x0 (65536 : Int) * (2 : Int) ^ min (Int.toNat (16 : Int)) (IntKind.bits IntKind.i64)))
theorem fOf_p (x0 : Int) : evG Try.prog tabUa2 2000 128 [0, 2] [] [] [.a (.int true .i64 x0)] [] = some ([], LV.a (At.int true IntKind.i64 (fOf_0 x0)), []) := by kernel_rfl
def fOf_c : Con
  | [.a (.int true .i64 x0)], [] => some ([], LV.a (At.int true IntKind.i64 (fOf_0 x0)), [])
  | _, _ => none
theorem fOf_ok : ConOK Try.prog 128 (normC fOf_c) := normC_ok (by
  intro args bs obs lv out h ho φ vs w may ha hM
  unfold fOf_c at h
  split at h
  · simp only [Option.some.injEq, Prod.mk.injEq] at h
    obtain ⟨rfl, rfl, rfl⟩ := h
    rename_i x0
    exact evG_ok tabUa2_ok follows _ _ _ _ _ (fOf_p x0) ho φ vs w may ha hM
  · cases h)
theorem fOf_en : Enters Try.prog 128 := fun args => by kernel_rfl
-- 56 2 3 ms

/-! azulejo/fix.Add -/
def fAd_0 (x0 x1 : Int) : Int := fCla_0 (IntKind.wrap IntKind.i64 (fCla_0 x0 + fCla_0 x1))
theorem fAd_p (x0 x1 : Int) : evG Try.prog tabUa2 2000 153 [0, 1, 4] [] [] [.a (.int true .i64 x0), .a (.int true .i64 x1)] [] = some ([], LV.a (At.int true IntKind.i64 (fAd_0 x0 x1)), []) := by kernel_rfl
def fAd_c : Con
  | [.a (.int true .i64 x0), .a (.int true .i64 x1)], [] => some ([], LV.a (At.int true IntKind.i64 (fAd_0 x0 x1)), [])
  | _, _ => none
theorem fAd_ok : ConOK Try.prog 153 (normC fAd_c) := normC_ok (by
  intro args bs obs lv out h ho φ vs w may ha hM
  unfold fAd_c at h
  split at h
  · simp only [Option.some.injEq, Prod.mk.injEq] at h
    obtain ⟨rfl, rfl, rfl⟩ := h
    rename_i x0 x1
    exact evG_ok tabUa2_ok follows _ _ _ _ _ (fAd_p x0 x1) ho φ vs w may ha hM
  · cases h)
theorem fAd_en : Enters Try.prog 153 := fun args => by kernel_rfl
-- 41 2 2 ms

/-! azulejo/fix.Sub -/
def fSu_0 (x0 x1 : Int) : Int := fCla_0 (IntKind.wrap IntKind.i64 (fCla_0 x0 - fCla_0 x1))
theorem fSu_p (x0 x1 : Int) : evG Try.prog tabUa2 2000 154 [0, 1, 4] [] [] [.a (.int true .i64 x0), .a (.int true .i64 x1)] [] = some ([], LV.a (At.int true IntKind.i64 (fSu_0 x0 x1)), []) := by kernel_rfl
def fSu_c : Con
  | [.a (.int true .i64 x0), .a (.int true .i64 x1)], [] => some ([], LV.a (At.int true IntKind.i64 (fSu_0 x0 x1)), [])
  | _, _ => none
theorem fSu_ok : ConOK Try.prog 154 (normC fSu_c) := normC_ok (by
  intro args bs obs lv out h ho φ vs w may ha hM
  unfold fSu_c at h
  split at h
  · simp only [Option.some.injEq, Prod.mk.injEq] at h
    obtain ⟨rfl, rfl, rfl⟩ := h
    rename_i x0 x1
    exact evG_ok tabUa2_ok follows _ _ _ _ _ (fSu_p x0 x1) ho φ vs w may ha hM
  · cases h)
theorem fSu_en : Enters Try.prog 154 := fun args => by kernel_rfl
-- 57 1 3 ms

/-! azulejo/fix.Mul -/
def fMu_0 (x0 x1 : Int) : Int := fCla_0 (Int.fdiv (IntKind.wrap IntKind.i64 (fCla_0 x0 * fCla_0 x1)) ((2 : Int) ^ min (Int.toNat (16 : Int)) (IntKind.bits IntKind.i64)))
theorem fMu_p (x0 x1 : Int) : evG Try.prog tabUa2 2000 155 [0, 1, 4] [] [] [.a (.int true .i64 x0), .a (.int true .i64 x1)] [] = some ([], LV.a (At.int true IntKind.i64 (fMu_0 x0 x1)), []) := by kernel_rfl
def fMu_c : Con
  | [.a (.int true .i64 x0), .a (.int true .i64 x1)], [] => some ([], LV.a (At.int true IntKind.i64 (fMu_0 x0 x1)), [])
  | _, _ => none
theorem fMu_ok : ConOK Try.prog 155 (normC fMu_c) := normC_ok (by
  intro args bs obs lv out h ho φ vs w may ha hM
  unfold fMu_c at h
  split at h
  · simp only [Option.some.injEq, Prod.mk.injEq] at h
    obtain ⟨rfl, rfl, rfl⟩ := h
    rename_i x0 x1
    exact evG_ok tabUa2_ok follows _ _ _ _ _ (fMu_p x0 x1) ho φ vs w may ha hM
  · cases h)
theorem fMu_en : Enters Try.prog 155 := fun args => by kernel_rfl
-- 45 2 3 ms

/-! (azulejo/vec.Vec).Min$1 -/
def vMi1_0 (x0 x1 : Int) : Int := if fCla_0 x1 < fCla_0 x0 then fCla_0 x1 else fCla_0 x0
theorem vMi1_p (x0 x1 : Int) : evG Try.prog tabUa2 2000 156 [0, 1, 4] [] [] [.a (.int true .i64 x0), .a (.int true .i64 x1)] [] = some ([], LV.a (At.int true IntKind.i64 (vMi1_0 x0 x1)), []) := by kernel_rfl
def vMi1_c : Con
  | [.a (.int true .i64 x0), .a (.int true .i64 x1)], [] => some ([], LV.a (At.int true IntKind.i64 (vMi1_0 x0 x1)), [])
  | _, _ => none
theorem vMi1_ok : ConOK Try.prog 156 (normC vMi1_c) := normC_ok (by
  intro args bs obs lv out h ho φ vs w may ha hM
  unfold vMi1_c at h
  split at h
  · simp only [Option.some.injEq, Prod.mk.injEq] at h
    obtain ⟨rfl, rfl, rfl⟩ := h
    rename_i x0 x1
    exact evG_ok tabUa2_ok follows _ _ _ _ _ (vMi1_p x0 x1) ho φ vs w may ha hM
  · cases h)
theorem vMi1_en : Enters Try.prog 156 := fun args => by kernel_rfl
-- 62 4 2 ms

/-! (azulejo/vec.Vec).Max$1 -/
def vMa1_0 (x0 x1 : Int) : Int := if fCla_0 x0 < fCla_0 x1 then fCla_0 x1 else fCla_0 x0
theorem vMa1_p (x0 x1 : Int) : evG Try.prog tabUa2 2000 157 [0, 1, 4] [] [] [.a (.int true .i64 x0), .a (.int true .i64 x1)] [] = some ([], LV.a (At.int true IntKind.i64 (vMa1_0 x0 x1)), []) := by kernel_rfl
def vMa1_c : Con
  | [.a (.int true .i64 x0), .a (.int true .i64 x1)], [] => some ([], LV.a (At.int true IntKind.i64 (vMa1_0 x0 x1)), [])
  | _, _ => none
theorem vMa1_ok : ConOK Try.prog 157 (normC vMa1_c) := normC_ok (by
  intro args bs obs lv out h ho φ vs w may ha hM
  unfold vMa1_c at h
  split at h
  · simp only [Option.some.injEq, Prod.mk.injEq] at h
    obtain ⟨rfl, rfl, rfl⟩ := h
    rename_i x0 x1
    exact evG_ok tabUa2_ok follows _ _ _ _ _ (vMa1_p x0 x1) ho φ vs w may ha hM
  · cases h)
theorem vMa1_en : Enters Try.prog 157 := fun args => by kernel_rfl
-- 61 3 3 ms

/-! azulejo/azulejoref01.Mul -/
def rMu_s0 (x0 x1 : Int) : Int := IntKind.wrap IntKind.i64 (rCl_0 x0 * rCl_0 x1)
def rMu_0 (x0 x1 : Int) : Int := rCl_0 (rFlo_0 (rMu_s0 x0 x1) (65536 : Int))
def rMu_o (x0 x1 : Int) : List Prop := [(!(65536 : Int) == (0 : Int)) = true → rFlo_s0 (65536 : Int) = true → (!rFlo_s2 (65536 : Int) == (0 : Int)) = true → rFlo0_s0 (rFlo_s2 (65536 : Int)) = true → False, (!(65536 : Int) == (0 : Int)) = true → rFlo_s0 (65536 : Int) = true → (!rFlo_s2 (65536 : Int) == (0 : Int)) = true → (!rFlo0_s0 (rFlo_s2 (65536 : Int))) = true → rFlo0_s1 (rFlo_s1 (rMu_s0 x0 x1)) = true → rFlo_s2 (65536 : Int) ≠ (0 : Int), (!(65536 : Int) == (0 : Int)) = true → rFlo_s0 (65536 : Int) = true → (!rFlo_s2 (65536 : Int) == (0 : Int)) = true → (!rFlo0_s0 (rFlo_s2 (65536 : Int))) = true → (!rFlo0_s1 (rFlo_s1 (rMu_s0 x0 x1))) = true → rFlo_s2 (65536 : Int) ≠ (0 : Int), (!(65536 : Int) == (0 : Int)) = true → (!rFlo_s0 (65536 : Int)) = true → rFlo_s3 (rMu_s0 x0 x1) = true → (65536 : Int) ≠ (0 : Int), (!(65536 : Int) == (0 : Int)) = true → (!rFlo_s0 (65536 : Int)) = true → (!rFlo_s3 (rMu_s0 x0 x1)) = true → (65536 : Int) ≠ (0 : Int)]
theorem rMu_ot (x0 x1 : Int) : Alls (rMu_o x0 x1) := by exact ⟨fun _ k => absurd k (by decide), fun _ k => absurd k (by decide), fun _ k => absurd k (by decide), fun _ _ _ => by decide, fun _ _ _ => by decide, trivial⟩
theorem rMu_p (x0 x1 : Int) : evG Try.prog tabUa2 2000 135 [0, 1, 4] [] [] [.a (.int true .i64 x0), .a (.int true .i64 x1)] [] = some (rMu_o x0 x1, LV.a (At.int true IntKind.i64 (rMu_0 x0 x1)), []) := by kernel_rfl
def rMu_c : Con
  | [.a (.int true .i64 x0), .a (.int true .i64 x1)], [] => some ([], LV.a (At.int true IntKind.i64 (rMu_0 x0 x1)), [])
  | _, _ => none
theorem rMu_ok : ConOK Try.prog 135 (normC rMu_c) := normC_ok (by
  intro args bs obs lv out h ho φ vs w may ha hM
  unfold rMu_c at h
  split at h
  · simp only [Option.some.injEq, Prod.mk.injEq] at h
    obtain ⟨rfl, rfl, rfl⟩ := h
    rename_i x0 x1
    exact evG_ok tabUa2_ok follows _ _ _ _ _ (rMu_p x0 x1) (rMu_ot x0 x1) φ vs w may ha hM
  · cases h)
theorem rMu_en : Enters Try.prog 135 := fun args => by kernel_rfl
-- 76 2 3 ms

/-! (azulejo/isa.Program).check -/
def pCk_s0 (x2_0 : Int) (x3 : Bool) : Bool := bif decide ((15 : Int) ≤ x2_0) then true else bif x2_0 == (13 : Int) then !x3 else false
def pCk_s1 (x2_0 x2_2 : Int) : Bool := bif x2_0 == (14 : Int) then decide ((8 : Int) < x2_2) else false
def pCk_s2 (x2_0 x2_1 x2_2 x2_3 : Int) : Bool := bif decide ((12 : Int) ≤ x2_1) then true else bif decide ((12 : Int) ≤ x2_2) then true else bif x2_0 != (12 : Int) then bif decide ((12 : Int) ≤ x2_3) then true else pCk_s1 x2_0 x2_2 else pCk_s1 x2_0 x2_2
def pCk_s3 (p : List (List Int)) : Int := ↑(List.length (Rw.l (Rw.mk (0 : Nat) [Kd.int IntKind.u8, Kd.int IntKind.u8, Kd.int IntKind.u8, Kd.int IntKind.u8, Kd.int IntKind.i16] p none)))
def pCk_s4 (x2_4 : Int) : Bool := decide (x2_4 < (1 : Int))
def pCk_s5 (x1 x2_0 x2_3 x2_4 : Int) (p : List (List Int)) : Bool := bif x2_0 == (12 : Int) then bif pWi_2 x1 p then true else bif decide (x2_3 < (1 : Int)) then true else bif decide (IntKind.wrap IntKind.i64 (IntKind.wrap IntKind.i64 (Int.ofNat (List.length p) - x1) - (1 : Int)) < IntKind.wrap IntKind.i64 x2_3) then true else bif pCk_s4 x2_4 then true else decide ((8 : Int) < x2_4) else false
def pCk_s6 (x1 x2_4 : Int) : Int := IntKind.wrap IntKind.i64 (IntKind.wrap IntKind.i64 (x1 + (1 : Int)) + IntKind.wrap IntKind.i64 x2_4)
def pCk_s7 (x1 x2_4 : Int) (p : List (List Int)) : Bool := bif pCk_s4 x2_4 then true else bif decide (Int.ofNat (List.length p) < pCk_s6 x1 x2_4) then true else bif pWi_2 x1 p then decide (pWi_1 x1 p < pCk_s6 x1 x2_4) else false
def pCk_0 (x1 x2_0 x2_1 x2_2 x2_3 x2_4 : Int) (x3 : Bool) (p : List (List Int)) : Int := bif bif pCk_s0 x2_0 x3 then true else bif pCk_s2 x2_0 x2_1 x2_2 x2_3 then true else pCk_s5 x1 x2_0 x2_3 x2_4 p then bif pCk_s0 x2_0 x3 then (5 : Int) else bif pCk_s2 x2_0 x2_1 x2_2 x2_3 then (2 : Int) else (12 : Int) else bif x2_0 != (11 : Int) then (0 : Int) else bif pCk_s7 x1 x2_4 p then (12 : Int) else bif bif pWi_2 (pCk_s6 x1 x2_4) p then bif pWi_2 x1 p then !pWi_0 (pCk_s6 x1 x2_4) p == pWi_0 x1 p else !false else false then (12 : Int) else (0 : Int)
def pCk_o (x1 x2_0 x2_1 x2_2 x2_3 x2_4 : Int) (x3 r0 : Bool) (p : List (List Int)) : List Prop := [lok pWi_l13_st (18446744073709551616 : Nat) (pWi_l13_T.mk x1 (0 : Int) (0 : Int) false (Int.ofNat (List.length p)) (0 : Int) p), (!pCk_s0 x2_0 x3 && (!pCk_s2 x2_0 x2_1 x2_2 x2_3 && !pCk_s5 x1 x2_0 x2_3 x2_4 p)) = true → (!x2_0 != (11 : Int)) = true → (!pCk_s7 x1 x2_4 p) = true → lok pWi_l13_st (18446744073709551616 : Nat) (pWi_l13_T.mk (pCk_s6 x1 x2_4) (0 : Int) (0 : Int) false (Int.ofNat (List.length p)) (0 : Int) p)]
theorem pCk_p (x1 x2_0 x2_1 x2_2 x2_3 x2_4 : Int) (x3 r0 : Bool) (p : List (List Int)) : evG Try.prog tabUa2 2000 129 [0, 1, 2, 3, 6, 8, 9, 10, 11, 12, 13, 15, 23, 36, 65, 100, 123, 140] [] [] [.a (.vec 0 0 5), .a (.int true .i64 x1), .g [.int true .u8 x2_0, .int true .u8 x2_1, .int true .u8 x2_2, .int true .u8 x2_3, .int true .i16 x2_4], .a (.bool true x3)] [⟨⟨0, 0, r0, some ⟨0, [.int .u8, .int .u8, .int .u8, .int .u8, .int .i16], p, none⟩⟩, []⟩] = some (pCk_o x1 x2_0 x2_1 x2_2 x2_3 x2_4 x3 r0 p, LV.a (At.int true IntKind.i64 (pCk_0 x1 x2_0 x2_1 x2_2 x2_3 x2_4 x3 p)), [none]) := by kernel_rfl
def pCk_c : Con
  | [.a (.vec 0 0 5), .a (.int true .i64 x1), .g [.int true .u8 x2_0, .int true .u8 x2_1, .int true .u8 x2_2, .int true .u8 x2_3, .int true .i16 x2_4], .a (.bool true x3)], [⟨⟨0, 0, r0, some ⟨0, [.int .u8, .int .u8, .int .u8, .int .u8, .int .i16], p, none⟩⟩, []⟩] => some (pCk_o x1 x2_0 x2_1 x2_2 x2_3 x2_4 x3 r0 p, LV.a (At.int true IntKind.i64 (pCk_0 x1 x2_0 x2_1 x2_2 x2_3 x2_4 x3 p)), [none])
  | _, _ => none
theorem pCk_ok : ConOK Try.prog 129 (normC pCk_c) := normC_ok (by
  intro args bs obs lv out h ho φ vs w may ha hM
  unfold pCk_c at h
  split at h
  · simp only [Option.some.injEq, Prod.mk.injEq] at h
    obtain ⟨rfl, rfl, rfl⟩ := h
    rename_i x1 x2_0 x2_1 x2_2 x2_3 x2_4 x3 r0 p
    exact evG_ok tabUa2_ok follows _ _ _ _ _ (pCk_p x1 x2_0 x2_1 x2_2 x2_3 x2_4 x3 r0 p) ho φ vs w may ha hM
  · cases h)
theorem pCk_en : Enters Try.prog 129 := fun args => by kernel_rfl
-- 1252 493 23 ms

def tabUa3 : Tab := (128, normC fOf_c) :: (153, normC fAd_c) :: (154, normC fSu_c) :: (155, normC fMu_c) :: (156, normC vMi1_c) :: (157, normC vMa1_c) :: (135, normC rMu_c) :: (129, normC pCk_c) :: tabUa2
theorem tabUa3_ok : TOK Try.prog tabUa3 := TOK.cons fOf_en fOf_ok (TOK.cons fAd_en fAd_ok (TOK.cons fSu_en fSu_ok (TOK.cons fMu_en fMu_ok (TOK.cons vMi1_en vMi1_ok (TOK.cons vMa1_en vMa1_ok (TOK.cons rMu_en rMu_ok (TOK.cons pCk_en pCk_ok (tabUa2_ok))))))))

end Go.Proofs.Ytcdejlgophpdjaa
end

section
namespace Go.Proofs.Ytcdejlgophpdjaa
open Go Go.RowKit Go.Proofs.Ytcdejlgophpdjaa.V
set_option linter.unusedVariables false

/-! azulejo/vec.each -/
theorem eAd_p (x0_0 x0_1 x0_2 x0_3 x1_0 x1_1 x1_2 x1_3 : Int) : evG Try.prog tabUa3 2000 152 [0, 1, 2, 3, 4, 6, 7, 8, 9, 10] [] [] [.g [.int true .i64 x0_0, .int true .i64 x0_1, .int true .i64 x0_2, .int true .i64 x0_3], .g [.int true .i64 x1_0, .int true .i64 x1_1, .int true .i64 x1_2, .int true .i64 x1_3], .a (.fn 153 [])] [] = some ([], LV.g [At.int true IntKind.i64 (fAd_0 x0_0 x1_0), At.int true IntKind.i64 (fAd_0 x0_1 x1_1), At.int true IntKind.i64 (fAd_0 x0_2 x1_2), At.int true IntKind.i64 (fAd_0 x0_3 x1_3)], []) := by kernel_rfl
def eAd_c : Con
  | [.g [.int true .i64 x0_0, .int true .i64 x0_1, .int true .i64 x0_2, .int true .i64 x0_3], .g [.int true .i64 x1_0, .int true .i64 x1_1, .int true .i64 x1_2, .int true .i64 x1_3], .a (.fn 153 [])], [] => some ([], LV.g [At.int true IntKind.i64 (fAd_0 x0_0 x1_0), At.int true IntKind.i64 (fAd_0 x0_1 x1_1), At.int true IntKind.i64 (fAd_0 x0_2 x1_2), At.int true IntKind.i64 (fAd_0 x0_3 x1_3)], [])
  | _, _ => none
theorem eAd_ok : ConOK Try.prog 152 (normC eAd_c) := normC_ok (by
  intro args bs obs lv out h ho φ vs w may ha hM
  unfold eAd_c at h
  split at h
  · simp only [Option.some.injEq, Prod.mk.injEq] at h
    obtain ⟨rfl, rfl, rfl⟩ := h
    rename_i x0_0 x0_1 x0_2 x0_3 x1_0 x1_1 x1_2 x1_3
    exact evG_ok tabUa3_ok follows _ _ _ _ _ (eAd_p x0_0 x0_1 x0_2 x0_3 x1_0 x1_1 x1_2 x1_3) ho φ vs w may ha hM
  · cases h)
theorem eAd_en : Enters Try.prog 152 := fun args => by kernel_rfl
-- 456 2 0 ms

/-! azulejo/vec.each -/
theorem eSu_p (x0_0 x0_1 x0_2 x0_3 x1_0 x1_1 x1_2 x1_3 : Int) : evG Try.prog tabUa3 2000 152 [0, 1, 2, 3, 4, 6, 7, 8, 9, 10] [] [] [.g [.int true .i64 x0_0, .int true .i64 x0_1, .int true .i64 x0_2, .int true .i64 x0_3], .g [.int true .i64 x1_0, .int true .i64 x1_1, .int true .i64 x1_2, .int true .i64 x1_3], .a (.fn 154 [])] [] = some ([], LV.g [At.int true IntKind.i64 (fSu_0 x0_0 x1_0), At.int true IntKind.i64 (fSu_0 x0_1 x1_1), At.int true IntKind.i64 (fSu_0 x0_2 x1_2), At.int true IntKind.i64 (fSu_0 x0_3 x1_3)], []) := by kernel_rfl
def eSu_c : Con
  | [.g [.int true .i64 x0_0, .int true .i64 x0_1, .int true .i64 x0_2, .int true .i64 x0_3], .g [.int true .i64 x1_0, .int true .i64 x1_1, .int true .i64 x1_2, .int true .i64 x1_3], .a (.fn 154 [])], [] => some ([], LV.g [At.int true IntKind.i64 (fSu_0 x0_0 x1_0), At.int true IntKind.i64 (fSu_0 x0_1 x1_1), At.int true IntKind.i64 (fSu_0 x0_2 x1_2), At.int true IntKind.i64 (fSu_0 x0_3 x1_3)], [])
  | _, _ => none
theorem eSu_ok : ConOK Try.prog 152 (normC eSu_c) := normC_ok (by
  intro args bs obs lv out h ho φ vs w may ha hM
  unfold eSu_c at h
  split at h
  · simp only [Option.some.injEq, Prod.mk.injEq] at h
    obtain ⟨rfl, rfl, rfl⟩ := h
    rename_i x0_0 x0_1 x0_2 x0_3 x1_0 x1_1 x1_2 x1_3
    exact evG_ok tabUa3_ok follows _ _ _ _ _ (eSu_p x0_0 x0_1 x0_2 x0_3 x1_0 x1_1 x1_2 x1_3) ho φ vs w may ha hM
  · cases h)
theorem eSu_en : Enters Try.prog 152 := fun args => by kernel_rfl
-- 454 3 0 ms

/-! azulejo/vec.each -/
theorem eMu_p (x0_0 x0_1 x0_2 x0_3 x1_0 x1_1 x1_2 x1_3 : Int) : evG Try.prog tabUa3 2000 152 [0, 1, 2, 3, 4, 6, 7, 8, 9, 10] [] [] [.g [.int true .i64 x0_0, .int true .i64 x0_1, .int true .i64 x0_2, .int true .i64 x0_3], .g [.int true .i64 x1_0, .int true .i64 x1_1, .int true .i64 x1_2, .int true .i64 x1_3], .a (.fn 155 [])] [] = some ([], LV.g [At.int true IntKind.i64 (fMu_0 x0_0 x1_0), At.int true IntKind.i64 (fMu_0 x0_1 x1_1), At.int true IntKind.i64 (fMu_0 x0_2 x1_2), At.int true IntKind.i64 (fMu_0 x0_3 x1_3)], []) := by kernel_rfl
def eMu_c : Con
  | [.g [.int true .i64 x0_0, .int true .i64 x0_1, .int true .i64 x0_2, .int true .i64 x0_3], .g [.int true .i64 x1_0, .int true .i64 x1_1, .int true .i64 x1_2, .int true .i64 x1_3], .a (.fn 155 [])], [] => some ([], LV.g [At.int true IntKind.i64 (fMu_0 x0_0 x1_0), At.int true IntKind.i64 (fMu_0 x0_1 x1_1), At.int true IntKind.i64 (fMu_0 x0_2 x1_2), At.int true IntKind.i64 (fMu_0 x0_3 x1_3)], [])
  | _, _ => none
theorem eMu_ok : ConOK Try.prog 152 (normC eMu_c) := normC_ok (by
  intro args bs obs lv out h ho φ vs w may ha hM
  unfold eMu_c at h
  split at h
  · simp only [Option.some.injEq, Prod.mk.injEq] at h
    obtain ⟨rfl, rfl, rfl⟩ := h
    rename_i x0_0 x0_1 x0_2 x0_3 x1_0 x1_1 x1_2 x1_3
    exact evG_ok tabUa3_ok follows _ _ _ _ _ (eMu_p x0_0 x0_1 x0_2 x0_3 x1_0 x1_1 x1_2 x1_3) ho φ vs w may ha hM
  · cases h)
theorem eMu_en : Enters Try.prog 152 := fun args => by kernel_rfl
-- 456 2 0 ms

/-! azulejo/vec.each -/
theorem eMi_p (x0_0 x0_1 x0_2 x0_3 x1_0 x1_1 x1_2 x1_3 : Int) : evG Try.prog tabUa3 2000 152 [0, 1, 2, 3, 4, 6, 7, 8, 9, 10] [] [] [.g [.int true .i64 x0_0, .int true .i64 x0_1, .int true .i64 x0_2, .int true .i64 x0_3], .g [.int true .i64 x1_0, .int true .i64 x1_1, .int true .i64 x1_2, .int true .i64 x1_3], .a (.fn 156 [])] [] = some ([], LV.g [At.int true IntKind.i64 (vMi1_0 x0_0 x1_0), At.int true IntKind.i64 (vMi1_0 x0_1 x1_1), At.int true IntKind.i64 (vMi1_0 x0_2 x1_2), At.int true IntKind.i64 (vMi1_0 x0_3 x1_3)], []) := by kernel_rfl
def eMi_c : Con
  | [.g [.int true .i64 x0_0, .int true .i64 x0_1, .int true .i64 x0_2, .int true .i64 x0_3], .g [.int true .i64 x1_0, .int true .i64 x1_1, .int true .i64 x1_2, .int true .i64 x1_3], .a (.fn 156 [])], [] => some ([], LV.g [At.int true IntKind.i64 (vMi1_0 x0_0 x1_0), At.int true IntKind.i64 (vMi1_0 x0_1 x1_1), At.int true IntKind.i64 (vMi1_0 x0_2 x1_2), At.int true IntKind.i64 (vMi1_0 x0_3 x1_3)], [])
  | _, _ => none
theorem eMi_ok : ConOK Try.prog 152 (normC eMi_c) := normC_ok (by
  intro args bs obs lv out h ho φ vs w may ha hM
  unfold eMi_c at h
  split at h
  · simp only [Option.some.injEq, Prod.mk.injEq] at h
    obtain ⟨rfl, rfl, rfl⟩ := h
    rename_i x0_0 x0_1 x0_2 x0_3 x1_0 x1_1 x1_2 x1_3
    exact evG_ok tabUa3_ok follows _ _ _ _ _ (eMi_p x0_0 x0_1 x0_2 x0_3 x1_0 x1_1 x1_2 x1_3) ho φ vs w may ha hM
  · cases h)
theorem eMi_en : Enters Try.prog 152 := fun args => by kernel_rfl
-- 465 2 0 ms

/-! azulejo/vec.each -/
theorem eMa_p (x0_0 x0_1 x0_2 x0_3 x1_0 x1_1 x1_2 x1_3 : Int) : evG Try.prog tabUa3 2000 152 [0, 1, 2, 3, 4, 6, 7, 8, 9, 10] [] [] [.g [.int true .i64 x0_0, .int true .i64 x0_1, .int true .i64 x0_2, .int true .i64 x0_3], .g [.int true .i64 x1_0, .int true .i64 x1_1, .int true .i64 x1_2, .int true .i64 x1_3], .a (.fn 157 [])] [] = some ([], LV.g [At.int true IntKind.i64 (vMa1_0 x0_0 x1_0), At.int true IntKind.i64 (vMa1_0 x0_1 x1_1), At.int true IntKind.i64 (vMa1_0 x0_2 x1_2), At.int true IntKind.i64 (vMa1_0 x0_3 x1_3)], []) := by kernel_rfl
def eMa_c : Con
  | [.g [.int true .i64 x0_0, .int true .i64 x0_1, .int true .i64 x0_2, .int true .i64 x0_3], .g [.int true .i64 x1_0, .int true .i64 x1_1, .int true .i64 x1_2, .int true .i64 x1_3], .a (.fn 157 [])], [] => some ([], LV.g [At.int true IntKind.i64 (vMa1_0 x0_0 x1_0), At.int true IntKind.i64 (vMa1_0 x0_1 x1_1), At.int true IntKind.i64 (vMa1_0 x0_2 x1_2), At.int true IntKind.i64 (vMa1_0 x0_3 x1_3)], [])
  | _, _ => none
theorem eMa_ok : ConOK Try.prog 152 (normC eMa_c) := normC_ok (by
  intro args bs obs lv out h ho φ vs w may ha hM
  unfold eMa_c at h
  split at h
  · simp only [Option.some.injEq, Prod.mk.injEq] at h
    obtain ⟨rfl, rfl, rfl⟩ := h
    rename_i x0_0 x0_1 x0_2 x0_3 x1_0 x1_1 x1_2 x1_3
    exact evG_ok tabUa3_ok follows _ _ _ _ _ (eMa_p x0_0 x0_1 x0_2 x0_3 x1_0 x1_1 x1_2 x1_3) ho φ vs w may ha hM
  · cases h)
theorem eMa_en : Enters Try.prog 152 := fun args => by kernel_rfl
-- 294 2 1 ms

/-! azulejo/azulejoref01.Dot -/
def rDo_0 (x0_0 x0_1 x0_2 x0_3 x1_0 x1_1 x1_2 x1_3 : Int) : Int := rAd_0 (rAd_0 (rAd_0 (rMu_0 x0_0 x1_0) (rMu_0 x0_1 x1_1)) (rMu_0 x0_2 x1_2)) (rMu_0 x0_3 x1_3)
theorem rDo_p (x0_0 x0_1 x0_2 x0_3 x1_0 x1_1 x1_2 x1_3 : Int) : evG Try.prog tabUa3 2000 125 [0, 1, 2, 3, 4] [] [] [.g [.int true .i64 x0_0, .int true .i64 x0_1, .int true .i64 x0_2, .int true .i64 x0_3], .g [.int true .i64 x1_0, .int true .i64 x1_1, .int true .i64 x1_2, .int true .i64 x1_3]] [] = some ([], LV.a (At.int true IntKind.i64 (rDo_0 x0_0 x0_1 x0_2 x0_3 x1_0 x1_1 x1_2 x1_3)), []) := by kernel_rfl
def rDo_c : Con
  | [.g [.int true .i64 x0_0, .int true .i64 x0_1, .int true .i64 x0_2, .int true .i64 x0_3], .g [.int true .i64 x1_0, .int true .i64 x1_1, .int true .i64 x1_2, .int true .i64 x1_3]], [] => some ([], LV.a (At.int true IntKind.i64 (rDo_0 x0_0 x0_1 x0_2 x0_3 x1_0 x1_1 x1_2 x1_3)), [])
  | _, _ => none
theorem rDo_ok : ConOK Try.prog 125 (normC rDo_c) := normC_ok (by
  intro args bs obs lv out h ho φ vs w may ha hM
  unfold rDo_c at h
  split at h
  · simp only [Option.some.injEq, Prod.mk.injEq] at h
    obtain ⟨rfl, rfl, rfl⟩ := h
    rename_i x0_0 x0_1 x0_2 x0_3 x1_0 x1_1 x1_2 x1_3
    exact evG_ok tabUa3_ok follows _ _ _ _ _ (rDo_p x0_0 x0_1 x0_2 x0_3 x1_0 x1_1 x1_2 x1_3) ho φ vs w may ha hM
  · cases h)
theorem rDo_en : Enters Try.prog 125 := fun args => by kernel_rfl
-- 248 2 3 ms

/-! azulejo/azulejoref07.number -/
def r7n_0 (x0 x1 x2 : Int) : Int := bif x0 == (3 : Int) then rAd_0 x1 x2 else bif x0 == (4 : Int) then rAd_0 x1 (IntKind.wrap IntKind.i64 ((0 : Int) - x2)) else bif x0 == (5 : Int) then rMu_0 x1 x2 else bif (x0 == (6 : Int)) == decide (x1 < x2) then x1 else x2
theorem r7n_p (x0 x1 x2 : Int) : evG Try.prog tabUa3 2000 126 [0, 1, 2, 6, 8, 13, 19, 28] [] [] [.a (.int true .i64 x0), .a (.int true .i64 x1), .a (.int true .i64 x2)] [] = some ([], LV.a (At.int true IntKind.i64 (r7n_0 x0 x1 x2)), []) := by kernel_rfl
def r7n_c : Con
  | [.a (.int true .i64 x0), .a (.int true .i64 x1), .a (.int true .i64 x2)], [] => some ([], LV.a (At.int true IntKind.i64 (r7n_0 x0 x1 x2)), [])
  | _, _ => none
theorem r7n_ok : ConOK Try.prog 126 (normC r7n_c) := normC_ok (by
  intro args bs obs lv out h ho φ vs w may ha hM
  unfold r7n_c at h
  split at h
  · simp only [Option.some.injEq, Prod.mk.injEq] at h
    obtain ⟨rfl, rfl, rfl⟩ := h
    rename_i x0 x1 x2
    exact evG_ok tabUa3_ok follows _ _ _ _ _ (r7n_p x0 x1 x2) ho φ vs w may ha hM
  · cases h)
theorem r7n_en : Enters Try.prog 126 := fun args => by kernel_rfl
-- 144 34 3 ms

/-! (azulejo/isa.Program).Check -/
noncomputable def pCh_l29_code : Go.Code := loopOf (subs (bodyOf Try.prog 89) 1 29)
structure pCh_l29_T where
  a0 : Bool
  a1 : Int
  a2 : Int
  a3 : Int
  a4 : List (List Int)
  deriving Inhabited
def pCh_l29_hd (v : pCh_l29_T) : HS := HS.mk [(nat_lit 0, LV.a (At.vec (nat_lit 0) (nat_lit 0) (nat_lit 5))), (nat_lit 1, LV.a (At.bool true (pCh_l29_T.a0 v))), (nat_lit 4, LV.a (At.int true IntKind.i64 (pCh_l29_T.a1 v))), (nat_lit 11, LV.a (At.vec (nat_lit 0) (nat_lit 0) (nat_lit 5))), (nat_lit 12, LV.a (At.int true IntKind.i64 (pCh_l29_T.a2 v))), (nat_lit 13, LV.a (At.int true IntKind.i64 (pCh_l29_T.a3 v)))] [BC.mk (Hd.mk (nat_lit 0) (nat_lit 0) true (some (Rw.mk (nat_lit 0) [Kd.int IntKind.u8, Kd.int IntKind.u8, Kd.int IntKind.u8, Kd.int IntKind.u8, Kd.int IntKind.i16] (pCh_l29_T.a4 v) none))) []]
def pCh_l29_s0 (v : pCh_l29_T) : Bool := decide (pCh_l29_T.a3 v < pCh_l29_T.a2 v)
def pCh_l29_s1 (v : pCh_l29_T) : Int := pCk_0 (pCh_l29_T.a3 v) (rget (pCh_l29_T.a4 v) (Int.toNat (pCh_l29_T.a3 v)) (0 : Nat)) (rget (pCh_l29_T.a4 v) (Int.toNat (pCh_l29_T.a3 v)) (1 : Nat)) (rget (pCh_l29_T.a4 v) (Int.toNat (pCh_l29_T.a3 v)) (2 : Nat)) (rget (pCh_l29_T.a4 v) (Int.toNat (pCh_l29_T.a3 v)) (3 : Nat)) (rget (pCh_l29_T.a4 v) (Int.toNat (pCh_l29_T.a3 v)) (4 : Nat)) (pCh_l29_T.a0 v) (pCh_l29_T.a4 v)
def pCh_l29_s2 (v : pCh_l29_T) : Bool := pCh_l29_s1 v != (0 : Int)
def pCh_l29_st (v : pCh_l29_T) : List Prop × List (X × Bool × pCh_l29_T) := ([pCh_l29_s0 v = true → (0 : Int) ≤ pCh_l29_T.a3 v ∧ pCh_l29_T.a3 v < Int.ofNat (List.length (pCh_l29_T.a4 v)), pCh_l29_s0 v = true → lok pWi_l13_st (18446744073709551616 : Nat) (pWi_l13_T.mk (pCh_l29_T.a3 v) (0 : Int) (0 : Int) false (Int.ofNat (List.length (pCh_l29_T.a4 v))) (0 : Int) (pCh_l29_T.a4 v)), pCh_l29_s0 v = true → (!pCk_s0 (rget (pCh_l29_T.a4 v) (Int.toNat (pCh_l29_T.a3 v)) (0 : Nat)) (pCh_l29_T.a0 v) && (!pCk_s2 (rget (pCh_l29_T.a4 v) (Int.toNat (pCh_l29_T.a3 v)) (0 : Nat)) (rget (pCh_l29_T.a4 v) (Int.toNat (pCh_l29_T.a3 v)) (1 : Nat)) (rget (pCh_l29_T.a4 v) (Int.toNat (pCh_l29_T.a3 v)) (2 : Nat)) (rget (pCh_l29_T.a4 v) (Int.toNat (pCh_l29_T.a3 v)) (3 : Nat)) && !pCk_s5 (pCh_l29_T.a3 v) (rget (pCh_l29_T.a4 v) (Int.toNat (pCh_l29_T.a3 v)) (0 : Nat)) (rget (pCh_l29_T.a4 v) (Int.toNat (pCh_l29_T.a3 v)) (3 : Nat)) (rget (pCh_l29_T.a4 v) (Int.toNat (pCh_l29_T.a3 v)) (4 : Nat)) (pCh_l29_T.a4 v))) = true → (!rget (pCh_l29_T.a4 v) (Int.toNat (pCh_l29_T.a3 v)) (0 : Nat) != (11 : Int)) = true → (!pCk_s7 (pCh_l29_T.a3 v) (rget (pCh_l29_T.a4 v) (Int.toNat (pCh_l29_T.a3 v)) (4 : Nat)) (pCh_l29_T.a4 v)) = true → lok pWi_l13_st (18446744073709551616 : Nat) (pWi_l13_T.mk (pCk_s6 (pCh_l29_T.a3 v) (rget (pCh_l29_T.a4 v) (Int.toNat (pCh_l29_T.a3 v)) (4 : Nat))) (0 : Int) (0 : Int) false (Int.ofNat (List.length (pCh_l29_T.a4 v))) (0 : Int) (pCh_l29_T.a4 v))], [(X.e (0 : Nat), !pCh_l29_s0 v, pCh_l29_T.mk (pCh_l29_T.a0 v) (pCh_l29_T.a1 v) (pCh_l29_T.a2 v) (pCh_l29_T.a3 v) (pCh_l29_T.a4 v)), (X.r, pCh_l29_s0 v && pCh_l29_s2 v, pCh_l29_T.mk (pCh_l29_T.a0 v) (pCh_l29_s1 v) (pCh_l29_T.a2 v) (pCh_l29_T.a3 v) (pCh_l29_T.a4 v)), (X.n, pCh_l29_s0 v && !pCh_l29_s2 v, pCh_l29_T.mk (pCh_l29_T.a0 v) (pCh_l29_T.a1 v) (pCh_l29_T.a2 v) (IntKind.wrap IntKind.i64 (pCh_l29_T.a3 v + (1 : Int))) (pCh_l29_T.a4 v))])
def pCh_l29_rd : HS → Option pCh_l29_T := rdS [.b, .i, .i, .i, .r] (fun l => pCh_l29_T.mk (gB l 0) (gI l 1) (gI l 2) (gI l 3) (gR l 4)) pCh_l29_hd
def pCh_l29_sum : V.Sum := loopS pCh_l29_hd pCh_l29_rd pCh_l29_st 18446744073709551616 [X.e (0 : Nat), X.r] [0, 1, 4, 5, 6, 7, 10, 11, 12, 13, 14, 24, 29] [0, 1, 4, 11, 12, 13] [] [] [] 0
theorem pCh_l29_E : ∀ v, bodyF Try.prog tabUa3 (ntOf Try.prog 89) [0, 1, 4, 5, 6, 7, 10, 11, 12, 13, 14, 24, 29] [0, 1, 4, 11, 12, 13] [] 2000 [] [] pCh_l29_code 116 (pCh_l29_hd v) = some ((pCh_l29_st v).1, (pCh_l29_st v).2.map fun q => (q.1, q.2.1, pCh_l29_hd q.2.2)) := fun v => by kernel_rfl
theorem pCh_l29_R : ∀ h v, pCh_l29_rd h = some v → h = pCh_l29_hd v := rdS_ok fun l => by kernel_rfl
set_option maxRecDepth 100000 in
theorem pCh_l29_sok : SumOK Try.prog (ntOf Try.prog 89) [0, 1, 4, 5, 6, 7, 10, 11, 12, 13, 14, 24, 29] (.block (blockOf (subs (bodyOf Try.prog 89) 1 29)) (.loop pCh_l29_code)) pCh_l29_sum := loopS_ok tabUa3_ok follows pCh_l29_E pCh_l29_R (fun v => by kernel_rfl) (LOK_of _ _ (LOK_nil'))
def pCh_s0 (p : List (List Int)) : Bool := decide ((24 : Int) < Int.ofNat (List.length p))
def pCh_s1 (x1 : Bool) (p : List (List Int)) : Option (X × pCh_l29_T) := lrun pCh_l29_st (18446744073709551616 : Nat) (pCh_l29_T.mk x1 (0 : Int) (Int.ofNat (List.length p)) (0 : Int) p)
def pCh_0 (x1 : Bool) (p : List (List Int)) : Int := bif pCh_s0 p then (7 : Int) else bif isX X.r (pCh_s1 x1 p) then pCh_l29_T.a1 (V.valOf (pCh_s1 x1 p)) else bif decide ((200 : Int) < pFu_0 p) then (6 : Int) else (0 : Int)
def pCh_o (x1 r0 : Bool) (p : List (List Int)) : List Prop := [(!pCh_s0 p) = true → lok pCh_l29_st (18446744073709551616 : Nat) (pCh_l29_T.mk x1 (0 : Int) (Int.ofNat (List.length p)) (0 : Int) p), (!pCh_s0 p) = true → isX (X.e (0 : Nat)) (pCh_s1 x1 p) = true → lok pFu_l29_st (18446744073709551616 : Nat) (pFu_l29_T.mk (0 : Int) (Int.ofNat (List.length p)) (Int.ofNat (List.length p)) (0 : Int) p)]
theorem pCh_p (x1 r0 : Bool) (p : List (List Int)) : evG Try.prog tabUa3 2000 89 [0, 1, 4, 5, 6, 7, 10, 11, 12, 13, 14, 24, 29] [(29, pCh_l29_sum)] [] [.a (.vec 0 0 5), .a (.bool true x1)] [⟨⟨0, 0, r0, some ⟨0, [.int .u8, .int .u8, .int .u8, .int .u8, .int .i16], p, none⟩⟩, []⟩] = some (pCh_o x1 r0 p, LV.a (At.int true IntKind.i64 (pCh_0 x1 p)), [none]) := by kernel_rfl
def pCh_c : Con
  | [.a (.vec 0 0 5), .a (.bool true x1)], [⟨⟨0, 0, r0, some ⟨0, [.int .u8, .int .u8, .int .u8, .int .u8, .int .i16], p, none⟩⟩, []⟩] => some (pCh_o x1 r0 p, LV.a (At.int true IntKind.i64 (pCh_0 x1 p)), [none])
  | _, _ => none
theorem pCh_ok : ConOK Try.prog 89 (normC pCh_c) := normC_ok (by
  intro args bs obs lv out h ho φ vs w may ha hM
  unfold pCh_c at h
  split at h
  · simp only [Option.some.injEq, Prod.mk.injEq] at h
    obtain ⟨rfl, rfl, rfl⟩ := h
    rename_i x1 r0 p
    exact evG_okL' tabUa3_ok follows (LOK_cons (show subs (bodyOf Try.prog 89) 1 29 = [.block (blockOf (subs (bodyOf Try.prog 89) 1 29)) (.loop pCh_l29_code)] from by kernel_rfl) pCh_l29_sok (LOK_nil')) _ _ _ _ _ (pCh_p x1 r0 p) ho φ vs w may ha hM
  · cases h)
theorem pCh_en : Enters Try.prog 89 := fun args => by kernel_rfl
-- 1329 100 8 ms

/-! (azulejo/isa.Program).Check -/
def pChN_0 : Int := (0 : Int)
theorem pChN_p (x1 : Bool) : evG Try.prog tabUa3 2000 89 [0, 1, 4, 5, 6, 7, 10, 11, 12, 13, 14, 24, 29] [] [] [.a .nils, .a (.bool true x1)] [] = some ([], LV.a (At.int false IntKind.i64 pChN_0), []) := by kernel_rfl
def pChN_c : Con
  | [.a .nils, .a (.bool true x1)], [] => some ([], LV.a (At.int false IntKind.i64 pChN_0), [])
  | _, _ => none
theorem pChN_ok : ConOK Try.prog 89 (normC pChN_c) := normC_ok (by
  intro args bs obs lv out h ho φ vs w may ha hM
  unfold pChN_c at h
  split at h
  · simp only [Option.some.injEq, Prod.mk.injEq] at h
    obtain ⟨rfl, rfl, rfl⟩ := h
    rename_i x1
    exact evG_ok tabUa3_ok follows _ _ _ _ _ (pChN_p x1) ho φ vs w may ha hM
  · cases h)
theorem pChN_en : Enters Try.prog 89 := fun args => by kernel_rfl
-- 89 1 2 ms

def tabUa4 : Tab := (152, normC eAd_c) :: (152, normC eSu_c) :: (152, normC eMu_c) :: (152, normC eMi_c) :: (152, normC eMa_c) :: (125, normC rDo_c) :: (126, normC r7n_c) :: (89, normC pCh_c) :: (89, normC pChN_c) :: tabUa3
theorem tabUa4_ok : TOK Try.prog tabUa4 := TOK.cons eAd_en eAd_ok (TOK.cons eSu_en eSu_ok (TOK.cons eMu_en eMu_ok (TOK.cons eMi_en eMi_ok (TOK.cons eMa_en eMa_ok (TOK.cons rDo_en rDo_ok (TOK.cons r7n_en r7n_ok (TOK.cons pCh_en pCh_ok (TOK.cons pChN_en pChN_ok (tabUa3_ok)))))))))

end Go.Proofs.Ytcdejlgophpdjaa
end

section
namespace Go.Proofs.Ytcdejlgophpdjaa
open Go Go.RowKit Go.Proofs.Ytcdejlgophpdjaa.V
set_option linter.unusedVariables false

/-! (azulejo/vec.Vec).Add -/
theorem vAd_p (x0_0 x0_1 x0_2 x0_3 x1_0 x1_1 x1_2 x1_3 : Int) : evG Try.prog tabUa4 2000 143 [0, 1, 2, 3, 4] [] [] [.g [.int true .i64 x0_0, .int true .i64 x0_1, .int true .i64 x0_2, .int true .i64 x0_3], .g [.int true .i64 x1_0, .int true .i64 x1_1, .int true .i64 x1_2, .int true .i64 x1_3]] [] = some ([], LV.g [At.int true IntKind.i64 (fAd_0 x0_0 x1_0), At.int true IntKind.i64 (fAd_0 x0_1 x1_1), At.int true IntKind.i64 (fAd_0 x0_2 x1_2), At.int true IntKind.i64 (fAd_0 x0_3 x1_3)], []) := by kernel_rfl
def vAd_c : Con
  | [.g [.int true .i64 x0_0, .int true .i64 x0_1, .int true .i64 x0_2, .int true .i64 x0_3], .g [.int true .i64 x1_0, .int true .i64 x1_1, .int true .i64 x1_2, .int true .i64 x1_3]], [] => some ([], LV.g [At.int true IntKind.i64 (fAd_0 x0_0 x1_0), At.int true IntKind.i64 (fAd_0 x0_1 x1_1), At.int true IntKind.i64 (fAd_0 x0_2 x1_2), At.int true IntKind.i64 (fAd_0 x0_3 x1_3)], [])
  | _, _ => none
theorem vAd_ok : ConOK Try.prog 143 (normC vAd_c) := normC_ok (by
  intro args bs obs lv out h ho φ vs w may ha hM
  unfold vAd_c at h
  split at h
  · simp only [Option.some.injEq, Prod.mk.injEq] at h
    obtain ⟨rfl, rfl, rfl⟩ := h
    rename_i x0_0 x0_1 x0_2 x0_3 x1_0 x1_1 x1_2 x1_3
    exact evG_ok tabUa4_ok follows _ _ _ _ _ (vAd_p x0_0 x0_1 x0_2 x0_3 x1_0 x1_1 x1_2 x1_3) ho φ vs w may ha hM
  · cases h)
theorem vAd_en : Enters Try.prog 143 := fun args => by kernel_rfl
-- 113 2 0 ms

/-! (azulejo/vec.Vec).Sub -/
theorem vSu_p (x0_0 x0_1 x0_2 x0_3 x1_0 x1_1 x1_2 x1_3 : Int) : evG Try.prog tabUa4 2000 144 [0, 1, 2, 3, 4] [] [] [.g [.int true .i64 x0_0, .int true .i64 x0_1, .int true .i64 x0_2, .int true .i64 x0_3], .g [.int true .i64 x1_0, .int true .i64 x1_1, .int true .i64 x1_2, .int true .i64 x1_3]] [] = some ([], LV.g [At.int true IntKind.i64 (fSu_0 x0_0 x1_0), At.int true IntKind.i64 (fSu_0 x0_1 x1_1), At.int true IntKind.i64 (fSu_0 x0_2 x1_2), At.int true IntKind.i64 (fSu_0 x0_3 x1_3)], []) := by kernel_rfl
def vSu_c : Con
  | [.g [.int true .i64 x0_0, .int true .i64 x0_1, .int true .i64 x0_2, .int true .i64 x0_3], .g [.int true .i64 x1_0, .int true .i64 x1_1, .int true .i64 x1_2, .int true .i64 x1_3]], [] => some ([], LV.g [At.int true IntKind.i64 (fSu_0 x0_0 x1_0), At.int true IntKind.i64 (fSu_0 x0_1 x1_1), At.int true IntKind.i64 (fSu_0 x0_2 x1_2), At.int true IntKind.i64 (fSu_0 x0_3 x1_3)], [])
  | _, _ => none
theorem vSu_ok : ConOK Try.prog 144 (normC vSu_c) := normC_ok (by
  intro args bs obs lv out h ho φ vs w may ha hM
  unfold vSu_c at h
  split at h
  · simp only [Option.some.injEq, Prod.mk.injEq] at h
    obtain ⟨rfl, rfl, rfl⟩ := h
    rename_i x0_0 x0_1 x0_2 x0_3 x1_0 x1_1 x1_2 x1_3
    exact evG_ok tabUa4_ok follows _ _ _ _ _ (vSu_p x0_0 x0_1 x0_2 x0_3 x1_0 x1_1 x1_2 x1_3) ho φ vs w may ha hM
  · cases h)
theorem vSu_en : Enters Try.prog 144 := fun args => by kernel_rfl
-- 115 2 0 ms

/-! (azulejo/vec.Vec).Mul -/
theorem vMu_p (x0_0 x0_1 x0_2 x0_3 x1_0 x1_1 x1_2 x1_3 : Int) : evG Try.prog tabUa4 2000 145 [0, 1, 2, 3, 4] [] [] [.g [.int true .i64 x0_0, .int true .i64 x0_1, .int true .i64 x0_2, .int true .i64 x0_3], .g [.int true .i64 x1_0, .int true .i64 x1_1, .int true .i64 x1_2, .int true .i64 x1_3]] [] = some ([], LV.g [At.int true IntKind.i64 (fMu_0 x0_0 x1_0), At.int true IntKind.i64 (fMu_0 x0_1 x1_1), At.int true IntKind.i64 (fMu_0 x0_2 x1_2), At.int true IntKind.i64 (fMu_0 x0_3 x1_3)], []) := by kernel_rfl
def vMu_c : Con
  | [.g [.int true .i64 x0_0, .int true .i64 x0_1, .int true .i64 x0_2, .int true .i64 x0_3], .g [.int true .i64 x1_0, .int true .i64 x1_1, .int true .i64 x1_2, .int true .i64 x1_3]], [] => some ([], LV.g [At.int true IntKind.i64 (fMu_0 x0_0 x1_0), At.int true IntKind.i64 (fMu_0 x0_1 x1_1), At.int true IntKind.i64 (fMu_0 x0_2 x1_2), At.int true IntKind.i64 (fMu_0 x0_3 x1_3)], [])
  | _, _ => none
theorem vMu_ok : ConOK Try.prog 145 (normC vMu_c) := normC_ok (by
  intro args bs obs lv out h ho φ vs w may ha hM
  unfold vMu_c at h
  split at h
  · simp only [Option.some.injEq, Prod.mk.injEq] at h
    obtain ⟨rfl, rfl, rfl⟩ := h
    rename_i x0_0 x0_1 x0_2 x0_3 x1_0 x1_1 x1_2 x1_3
    exact evG_ok tabUa4_ok follows _ _ _ _ _ (vMu_p x0_0 x0_1 x0_2 x0_3 x1_0 x1_1 x1_2 x1_3) ho φ vs w may ha hM
  · cases h)
theorem vMu_en : Enters Try.prog 145 := fun args => by kernel_rfl
-- 106 2 0 ms

/-! (azulejo/vec.Vec).Min -/
theorem vMi_p (x0_0 x0_1 x0_2 x0_3 x1_0 x1_1 x1_2 x1_3 : Int) : evG Try.prog tabUa4 2000 146 [0, 1, 2, 3, 4] [] [] [.g [.int true .i64 x0_0, .int true .i64 x0_1, .int true .i64 x0_2, .int true .i64 x0_3], .g [.int true .i64 x1_0, .int true .i64 x1_1, .int true .i64 x1_2, .int true .i64 x1_3]] [] = some ([], LV.g [At.int true IntKind.i64 (vMi1_0 x0_0 x1_0), At.int true IntKind.i64 (vMi1_0 x0_1 x1_1), At.int true IntKind.i64 (vMi1_0 x0_2 x1_2), At.int true IntKind.i64 (vMi1_0 x0_3 x1_3)], []) := by kernel_rfl
def vMi_c : Con
  | [.g [.int true .i64 x0_0, .int true .i64 x0_1, .int true .i64 x0_2, .int true .i64 x0_3], .g [.int true .i64 x1_0, .int true .i64 x1_1, .int true .i64 x1_2, .int true .i64 x1_3]], [] => some ([], LV.g [At.int true IntKind.i64 (vMi1_0 x0_0 x1_0), At.int true IntKind.i64 (vMi1_0 x0_1 x1_1), At.int true IntKind.i64 (vMi1_0 x0_2 x1_2), At.int true IntKind.i64 (vMi1_0 x0_3 x1_3)], [])
  | _, _ => none
theorem vMi_ok : ConOK Try.prog 146 (normC vMi_c) := normC_ok (by
  intro args bs obs lv out h ho φ vs w may ha hM
  unfold vMi_c at h
  split at h
  · simp only [Option.some.injEq, Prod.mk.injEq] at h
    obtain ⟨rfl, rfl, rfl⟩ := h
    rename_i x0_0 x0_1 x0_2 x0_3 x1_0 x1_1 x1_2 x1_3
    exact evG_ok tabUa4_ok follows _ _ _ _ _ (vMi_p x0_0 x0_1 x0_2 x0_3 x1_0 x1_1 x1_2 x1_3) ho φ vs w may ha hM
  · cases h)
theorem vMi_en : Enters Try.prog 146 := fun args => by kernel_rfl
-- 76 2 0 ms

/-! (azulejo/vec.Vec).Max -/
theorem vMa_p (x0_0 x0_1 x0_2 x0_3 x1_0 x1_1 x1_2 x1_3 : Int) : evG Try.prog tabUa4 2000 147 [0, 1, 2, 3, 4] [] [] [.g [.int true .i64 x0_0, .int true .i64 x0_1, .int true .i64 x0_2, .int true .i64 x0_3], .g [.int true .i64 x1_0, .int true .i64 x1_1, .int true .i64 x1_2, .int true .i64 x1_3]] [] = some ([], LV.g [At.int true IntKind.i64 (vMa1_0 x0_0 x1_0), At.int true IntKind.i64 (vMa1_0 x0_1 x1_1), At.int true IntKind.i64 (vMa1_0 x0_2 x1_2), At.int true IntKind.i64 (vMa1_0 x0_3 x1_3)], []) := by kernel_rfl
def vMa_c : Con
  | [.g [.int true .i64 x0_0, .int true .i64 x0_1, .int true .i64 x0_2, .int true .i64 x0_3], .g [.int true .i64 x1_0, .int true .i64 x1_1, .int true .i64 x1_2, .int true .i64 x1_3]], [] => some ([], LV.g [At.int true IntKind.i64 (vMa1_0 x0_0 x1_0), At.int true IntKind.i64 (vMa1_0 x0_1 x1_1), At.int true IntKind.i64 (vMa1_0 x0_2 x1_2), At.int true IntKind.i64 (vMa1_0 x0_3 x1_3)], [])
  | _, _ => none
theorem vMa_ok : ConOK Try.prog 147 (normC vMa_c) := normC_ok (by
  intro args bs obs lv out h ho φ vs w may ha hM
  unfold vMa_c at h
  split at h
  · simp only [Option.some.injEq, Prod.mk.injEq] at h
    obtain ⟨rfl, rfl, rfl⟩ := h
    rename_i x0_0 x0_1 x0_2 x0_3 x1_0 x1_1 x1_2 x1_3
    exact evG_ok tabUa4_ok follows _ _ _ _ _ (vMa_p x0_0 x0_1 x0_2 x0_3 x1_0 x1_1 x1_2 x1_3) ho φ vs w may ha hM
  · cases h)
theorem vMa_en : Enters Try.prog 147 := fun args => by kernel_rfl
-- 78 2 0 ms

def tabUa5 : Tab := (143, normC vAd_c) :: (144, normC vSu_c) :: (145, normC vMu_c) :: (146, normC vMi_c) :: (147, normC vMa_c) :: tabUa4
theorem tabUa5_ok : TOK Try.prog tabUa5 := TOK.cons vAd_en vAd_ok (TOK.cons vSu_en vSu_ok (TOK.cons vMu_en vMu_ok (TOK.cons vMi_en vMi_ok (TOK.cons vMa_en vMa_ok (tabUa4_ok)))))

end Go.Proofs.Ytcdejlgophpdjaa
end

section
namespace Go.Proofs.Ytcdejlgophpdjaa
open Go Go.RowKit Go.Proofs.Ytcdejlgophpdjaa.V
set_option linter.unusedVariables false

/-! (azulejo/vec.Vec).Dot -/
def vDo_0 (x0_0 x0_1 x0_2 x0_3 x1_0 x1_1 x1_2 x1_3 : Int) : Int := fAd_0 (fAd_0 (fAd_0 (fAd_0 (0 : Int) (fMu_0 x0_0 x1_0)) (fMu_0 x0_1 x1_1)) (fMu_0 x0_2 x1_2)) (fMu_0 x0_3 x1_3)
theorem vDo_p (x0_0 x0_1 x0_2 x0_3 x1_0 x1_1 x1_2 x1_3 : Int) : evG Try.prog tabUa5 2000 148 [0, 1, 2, 3, 4, 5, 7, 10, 11, 12] [] [] [.g [.int true .i64 x0_0, .int true .i64 x0_1, .int true .i64 x0_2, .int true .i64 x0_3], .g [.int true .i64 x1_0, .int true .i64 x1_1, .int true .i64 x1_2, .int true .i64 x1_3]] [] = some ([], LV.a (At.int true IntKind.i64 (vDo_0 x0_0 x0_1 x0_2 x0_3 x1_0 x1_1 x1_2 x1_3)), []) := by kernel_rfl
def vDo_c : Con
  | [.g [.int true .i64 x0_0, .int true .i64 x0_1, .int true .i64 x0_2, .int true .i64 x0_3], .g [.int true .i64 x1_0, .int true .i64 x1_1, .int true .i64 x1_2, .int true .i64 x1_3]], [] => some ([], LV.a (At.int true IntKind.i64 (vDo_0 x0_0 x0_1 x0_2 x0_3 x1_0 x1_1 x1_2 x1_3)), [])
  | _, _ => none
theorem vDo_ok : ConOK Try.prog 148 (normC vDo_c) := normC_ok (by
  intro args bs obs lv out h ho φ vs w may ha hM
  unfold vDo_c at h
  split at h
  · simp only [Option.some.injEq, Prod.mk.injEq] at h
    obtain ⟨rfl, rfl, rfl⟩ := h
    rename_i x0_0 x0_1 x0_2 x0_3 x1_0 x1_1 x1_2 x1_3
    exact evG_ok tabUa5_ok follows _ _ _ _ _ (vDo_p x0_0 x0_1 x0_2 x0_3 x1_0 x1_1 x1_2 x1_3) ho φ vs w may ha hM
  · cases h)
theorem vDo_en : Enters Try.prog 148 := fun args => by kernel_rfl
-- 237 1 3 ms

def tabUa6 : Tab := (148, normC vDo_c) :: tabUa5
theorem tabUa6_ok : TOK Try.prog tabUa6 := TOK.cons vDo_en vDo_ok (tabUa5_ok)

end Go.Proofs.Ytcdejlgophpdjaa
end

section
namespace Go.Proofs.Ytcdejlgophpdjaa
open Go Go.RowKit Go.Proofs.Ytcdejlgophpdjaa.V
set_option linter.unusedVariables false

/-! (azulejo/vec.Mat).Times -/
def vTi_0 (x0_0 x0_1 x0_2 x0_3 x1_0 x1_1 x1_2 x1_3 : Int) : Int := vDo_0 x0_0 x0_1 x0_2 x0_3 x1_0 x1_1 x1_2 x1_3
def vTi_1 (x0_4 x0_5 x0_6 x0_7 x1_0 x1_1 x1_2 x1_3 : Int) : Int := vDo_0 x0_4 x0_5 x0_6 x0_7 x1_0 x1_1 x1_2 x1_3
def vTi_2 (x0_8 x0_9 x0_10 x0_11 x1_0 x1_1 x1_2 x1_3 : Int) : Int := vDo_0 x0_8 x0_9 x0_10 x0_11 x1_0 x1_1 x1_2 x1_3
def vTi_3 (x0_12 x0_13 x0_14 x0_15 x1_0 x1_1 x1_2 x1_3 : Int) : Int := vDo_0 x0_12 x0_13 x0_14 x0_15 x1_0 x1_1 x1_2 x1_3
theorem vTi_p (x0_0 x0_1 x0_2 x0_3 x0_4 x0_5 x0_6 x0_7 x0_8 x0_9 x0_10 x0_11 x0_12 x0_13 x0_14 x0_15 x1_0 x1_1 x1_2 x1_3 : Int) : evG Try.prog tabUa6 2000 150 [0, 1, 2, 3, 4] [] [] [.g [.int true .i64 x0_0, .int true .i64 x0_1, .int true .i64 x0_2, .int true .i64 x0_3, .int true .i64 x0_4, .int true .i64 x0_5, .int true .i64 x0_6, .int true .i64 x0_7, .int true .i64 x0_8, .int true .i64 x0_9, .int true .i64 x0_10, .int true .i64 x0_11, .int true .i64 x0_12, .int true .i64 x0_13, .int true .i64 x0_14, .int true .i64 x0_15], .g [.int true .i64 x1_0, .int true .i64 x1_1, .int true .i64 x1_2, .int true .i64 x1_3]] [] = some ([], LV.g [At.int true IntKind.i64 (vTi_0 x0_0 x0_1 x0_2 x0_3 x1_0 x1_1 x1_2 x1_3), At.int true IntKind.i64 (vTi_1 x0_4 x0_5 x0_6 x0_7 x1_0 x1_1 x1_2 x1_3), At.int true IntKind.i64 (vTi_2 x0_8 x0_9 x0_10 x0_11 x1_0 x1_1 x1_2 x1_3), At.int true IntKind.i64 (vTi_3 x0_12 x0_13 x0_14 x0_15 x1_0 x1_1 x1_2 x1_3)], []) := by kernel_rfl
def vTi_c : Con
  | [.g [.int true .i64 x0_0, .int true .i64 x0_1, .int true .i64 x0_2, .int true .i64 x0_3, .int true .i64 x0_4, .int true .i64 x0_5, .int true .i64 x0_6, .int true .i64 x0_7, .int true .i64 x0_8, .int true .i64 x0_9, .int true .i64 x0_10, .int true .i64 x0_11, .int true .i64 x0_12, .int true .i64 x0_13, .int true .i64 x0_14, .int true .i64 x0_15], .g [.int true .i64 x1_0, .int true .i64 x1_1, .int true .i64 x1_2, .int true .i64 x1_3]], [] => some ([], LV.g [At.int true IntKind.i64 (vTi_0 x0_0 x0_1 x0_2 x0_3 x1_0 x1_1 x1_2 x1_3), At.int true IntKind.i64 (vTi_1 x0_4 x0_5 x0_6 x0_7 x1_0 x1_1 x1_2 x1_3), At.int true IntKind.i64 (vTi_2 x0_8 x0_9 x0_10 x0_11 x1_0 x1_1 x1_2 x1_3), At.int true IntKind.i64 (vTi_3 x0_12 x0_13 x0_14 x0_15 x1_0 x1_1 x1_2 x1_3)], [])
  | _, _ => none
theorem vTi_ok : ConOK Try.prog 150 (normC vTi_c) := normC_ok (by
  intro args bs obs lv out h ho φ vs w may ha hM
  unfold vTi_c at h
  split at h
  · simp only [Option.some.injEq, Prod.mk.injEq] at h
    obtain ⟨rfl, rfl, rfl⟩ := h
    rename_i x0_0 x0_1 x0_2 x0_3 x0_4 x0_5 x0_6 x0_7 x0_8 x0_9 x0_10 x0_11 x0_12 x0_13 x0_14 x0_15 x1_0 x1_1 x1_2 x1_3
    exact evG_ok tabUa6_ok follows _ _ _ _ _ (vTi_p x0_0 x0_1 x0_2 x0_3 x0_4 x0_5 x0_6 x0_7 x0_8 x0_9 x0_10 x0_11 x0_12 x0_13 x0_14 x0_15 x1_0 x1_1 x1_2 x1_3) ho φ vs w may ha hM
  · cases h)
theorem vTi_en : Enters Try.prog 150 := fun args => by kernel_rfl
-- 220 2 6 ms

def tabUa7 : Tab := (150, normC vTi_c) :: tabUa6
theorem tabUa7_ok : TOK Try.prog tabUa7 := TOK.cons vTi_en vTi_ok (tabUa6_ok)

end Go.Proofs.Ytcdejlgophpdjaa
end

section
namespace Go.Proofs.Ytcdejlgophpdjaa
open Go Go.RowKit Go.Proofs.Ytcdejlgophpdjaa.V

def dumL_c : Con
  | [.a (.ptr _ _), .a (.int _ .i64 _), .a (.int _ .i64 _)], [_, _] => some ([False], .t [.a (.int true .i64 0), .a (.bool true false)], [none, none])
  | _, _ => none
theorem dumL_ok : ConOK Try.prog 149 (normC dumL_c) := normC_ok (by
  intro args bs obs lv out h ho φ vs w may ha hM
  unfold dumL_c at h
  split at h
  · simp only [Option.some.injEq, Prod.mk.injEq] at h
    obtain ⟨rfl, rfl, rfl⟩ := h
    exact ho.1.elim
  · cases h)
theorem dumL_en : Enters Try.prog 149 := fun args => by kernel_rfl
def dumR_c : Con
  | [.a (.vec _ _ _), .a (.ptr _ _), .a (.int _ .i64 _), .a (.int _ .i64 _)], [_, _] => some ([False], .t [], [none, none])
  | _, _ => none
theorem dumR_ok : ConOK Try.prog 85 (normC dumR_c) := normC_ok (by
  intro args bs obs lv out h ho φ vs w may ha hM
  unfold dumR_c at h
  split at h
  · simp only [Option.some.injEq, Prod.mk.injEq] at h
    obtain ⟨rfl, rfl, rfl⟩ := h
    exact ho.1.elim
  · cases h)
theorem dumR_en : Enters Try.prog 85 := fun args => by kernel_rfl
def tabUb0 : Tab := (149, normC dumL_c) :: (85, normC dumR_c) :: tabUa7
theorem tabUb0_ok : TOK Try.prog tabUb0 := TOK.cons dumL_en dumL_ok (TOK.cons dumR_en dumR_ok tabUa7_ok)

end Go.Proofs.Ytcdejlgophpdjaa
end

section
namespace Go.Proofs.Ytcdejlgophpdjaa
open Go Go.RowKit Go.Proofs.Ytcdejlgophpdjaa.V
set_option linter.unusedVariables false

/-! (*azulejo/vm.machine).step -/
def vSt1_s0 (x1 : Int) (p : List (List Int)) : Bool := rget p (Int.toNat x1) (0 : Nat) == (0 : Int)
def vSt1_s1 (x1 : Int) (p : List (List Int)) : Bool := rget p (Int.toNat x1) (0 : Nat) == (1 : Int)
def vSt1_s2 (x1 : Int) (p : List (List Int)) : Bool := rget p (Int.toNat x1) (0 : Nat) == (2 : Int)
def vSt1_s3 (x1 : Int) (p : List (List Int)) : Bool := rget p (Int.toNat x1) (0 : Nat) == (3 : Int)
def vSt1_s4 (x1 : Int) (p : List (List Int)) : Bool := rget p (Int.toNat x1) (0 : Nat) == (4 : Int)
def vSt1_s5 (x1 : Int) (p : List (List Int)) : Bool := rget p (Int.toNat x1) (0 : Nat) == (5 : Int)
def vSt1_s6 (x1 : Int) (p : List (List Int)) : Bool := rget p (Int.toNat x1) (0 : Nat) == (6 : Int)
def vSt1_s7 (x1 : Int) (p : List (List Int)) : Bool := rget p (Int.toNat x1) (0 : Nat) == (7 : Int)
def vSt1_s8 (x1 : Int) (p : List (List Int)) : Bool := rget p (Int.toNat x1) (0 : Nat) == (8 : Int)
def vSt1_s9 (x1 : Int) (p : List (List Int)) : Bool := rget p (Int.toNat x1) (0 : Nat) == (9 : Int)
def vSt1_s10 (x1 : Int) (p : List (List Int)) : Bool := rget p (Int.toNat x1) (0 : Nat) == (10 : Int)
def vSt1_s11 (x1 : Int) (p : List (List Int)) : Bool := rget p (Int.toNat x1) (0 : Nat) == (11 : Int)
def vSt1_s12 (x1 : Int) (g p : List (List Int)) : Int := rget g (Int.toNat (rget p (Int.toNat x1) (2 : Nat))) (0 : Nat)
def vSt1_s13 (p : List (List Int)) : List (List Int) := Rw.l (Rw.mk (0 : Nat) [Kd.int IntKind.u8, Kd.int IntKind.u8, Kd.int IntKind.u8, Kd.int IntKind.u8, Kd.int IntKind.i16] p none)
def vSt1_s14 : Nat := (0 : Nat) + (1 : Nat) + (1 : Nat)
def vSt1_s15 (x1 : Int) (g p : List (List Int)) : Bool := decide (vSt1_s12 x1 g p < (0 : Int))
def vSt1_s16 (x1 : Int) (p : List (List Int)) : Bool := rget p (Int.toNat x1) (0 : Nat) == (12 : Int)
def vSt1_s17 (x1 : Int) (p : List (List Int)) : Bool := rget p (Int.toNat x1) (0 : Nat) == (13 : Int)
def vSt1_s18 (x1 : Int) (g p : List (List Int)) : Bool := bif vSt1_s0 x1 p then true else !vSt1_s1 x1 p && (!vSt1_s2 x1 p && (!vSt1_s3 x1 p && (!vSt1_s4 x1 p && (!vSt1_s5 x1 p && (!vSt1_s6 x1 p && (!vSt1_s7 x1 p && (!vSt1_s8 x1 p && (!vSt1_s9 x1 p && (!vSt1_s10 x1 p && bif vSt1_s11 x1 p then vSt1_s15 x1 g p else bif vSt1_s16 x1 p then true else vSt1_s17 x1 p && vSt1_s15 x1 g p)))))))))
def vSt1_s19 (x1 : Int) : Int := IntKind.wrap IntKind.i64 (x1 + (1 : Int))
def vSt1_0 (x1 : Int) (g p : List (List Int)) : Int := bif vSt1_s18 x1 g p then bif vSt1_s0 x1 p then (0 : Int) else bif vSt1_s11 x1 p then IntKind.wrap IntKind.i64 (vSt1_s19 x1 + IntKind.wrap IntKind.i64 (rget p (Int.toNat x1) (4 : Nat))) else bif vSt1_s16 x1 p then (0 : Int) else (0 : Int) else vSt1_s19 x1
def vSt1_1 (x1 : Int) (g p : List (List Int)) : Bool := bif vSt1_s18 x1 g p then bif vSt1_s0 x1 p then false else bif vSt1_s11 x1 p then true else bif vSt1_s16 x1 p then false else false else true
def vSt1_s20 (x1 : Int) (g p : List (List Int)) : Int := rget g (Int.toNat (rget p (Int.toNat x1) (2 : Nat))) (1 : Nat)
def vSt1_s21 (x1 : Int) (g p : List (List Int)) : Int := rget g (Int.toNat (rget p (Int.toNat x1) (2 : Nat))) (2 : Nat)
def vSt1_s22 (x1 : Int) (g p : List (List Int)) : Int := rget g (Int.toNat (rget p (Int.toNat x1) (2 : Nat))) (3 : Nat)
def vSt1_s23 (x1 : Int) (g p : List (List Int)) : List Int := [vSt1_s12 x1 g p, vSt1_s20 x1 g p, vSt1_s21 x1 g p, vSt1_s22 x1 g p]
def vSt1_s24 (x1 : Int) (p : List (List Int)) : Int := IntKind.wrap IntKind.i64 (IntKind.wrap IntKind.i64 (rget p (Int.toNat x1) (4 : Nat)) * (2 : Int) ^ min (Int.toNat (8 : Int)) (IntKind.bits IntKind.i64))
def vSt1_s25 (x1 : Int) (p : List (List Int)) : Bool := decide (rget p (Int.toNat x1) (3 : Nat) < (12 : Int))
def vSt1_s26 (x1 : Int) (g p : List (List Int)) : Int := bif vSt1_s25 x1 p then rget g (Int.toNat (rget p (Int.toNat x1) (3 : Nat))) (0 : Nat) else (0 : Int)
def vSt1_s27 (x1 : Int) (g p : List (List Int)) : Int := bif vSt1_s25 x1 p then rget g (Int.toNat (rget p (Int.toNat x1) (3 : Nat))) (1 : Nat) else (0 : Int)
def vSt1_s28 (x1 : Int) (g p : List (List Int)) : Int := bif vSt1_s25 x1 p then rget g (Int.toNat (rget p (Int.toNat x1) (3 : Nat))) (2 : Nat) else (0 : Int)
def vSt1_s29 (x1 : Int) (g p : List (List Int)) : Int := bif vSt1_s25 x1 p then rget g (Int.toNat (rget p (Int.toNat x1) (3 : Nat))) (3 : Nat) else (0 : Int)
def vSt1_s30 (x1 : Int) (g p : List (List Int)) : Int := vDo_0 (vSt1_s12 x1 g p) (vSt1_s20 x1 g p) (vSt1_s21 x1 g p) (vSt1_s22 x1 g p) (vSt1_s26 x1 g p) (vSt1_s27 x1 g p) (vSt1_s28 x1 g p) (vSt1_s29 x1 g p)
def vSt1_s31 : Int := Int.ofNat ((2 : Nat) ^ IntKind.bits IntKind.u8)
def vSt1_s32 (x1 : Int) (p : List (List Int)) : Int := IntKind.wrap IntKind.u8 (Int.ofNat (Int.toNat (rget p (Int.toNat x1) (3 : Nat) % vSt1_s31) &&& Int.toNat ((3 : Int) % vSt1_s31)))
def vSt1_s33 (x1 : Int) (g p : List (List Int)) : Int := List.getD (vSt1_s23 x1 g p) (Int.toNat (vSt1_s32 x1 p)) (0 : Int)
def vSt1_s34 : Int := Int.ofNat ((2 : Nat) ^ IntKind.bits IntKind.i16)
def vSt1_s35 (x1 : Int) (p : List (List Int)) : Int := IntKind.wrap IntKind.i16 (Int.ofNat (Int.toNat (rget p (Int.toNat x1) (4 : Nat) % vSt1_s34) &&& Int.toNat ((3 : Int) % vSt1_s34)))
def vSt1_s36 (x1 : Int) (p : List (List Int)) : Bool := rget p (Int.toNat x1) (0 : Nat) == (14 : Int)
def vSt1_s37 (x1 : Int) (p : List (List Int)) : Int := IntKind.wrap IntKind.u8 (rget p (Int.toNat x1) (2 : Nat) + (1 : Int))
def vSt1_s38 (x1 : Int) (p : List (List Int)) : Int := IntKind.wrap IntKind.u8 (rget p (Int.toNat x1) (2 : Nat) + (2 : Int))
def vSt1_s39 (x1 : Int) (p : List (List Int)) : Int := IntKind.wrap IntKind.u8 (rget p (Int.toNat x1) (2 : Nat) + (3 : Int))
def vSt1_2 (x1 : Int) (g p : List (List Int)) : List (List Int) := bif vSt1_s18 x1 g p then g else bif vSt1_s1 x1 p then List.set g (Int.toNat (rget p (Int.toNat x1) (1 : Nat))) (vSt1_s23 x1 g p) else bif vSt1_s2 x1 p then List.set g (Int.toNat (rget p (Int.toNat x1) (1 : Nat))) [vSt1_s24 x1 p, vSt1_s24 x1 p, vSt1_s24 x1 p, vSt1_s24 x1 p] else bif vSt1_s3 x1 p then List.set g (Int.toNat (rget p (Int.toNat x1) (1 : Nat))) [fAd_0 (vSt1_s12 x1 g p) (vSt1_s26 x1 g p), fAd_0 (vSt1_s20 x1 g p) (vSt1_s27 x1 g p), fAd_0 (vSt1_s21 x1 g p) (vSt1_s28 x1 g p), fAd_0 (vSt1_s22 x1 g p) (vSt1_s29 x1 g p)] else bif vSt1_s4 x1 p then List.set g (Int.toNat (rget p (Int.toNat x1) (1 : Nat))) [fSu_0 (vSt1_s12 x1 g p) (vSt1_s26 x1 g p), fSu_0 (vSt1_s20 x1 g p) (vSt1_s27 x1 g p), fSu_0 (vSt1_s21 x1 g p) (vSt1_s28 x1 g p), fSu_0 (vSt1_s22 x1 g p) (vSt1_s29 x1 g p)] else bif vSt1_s5 x1 p then List.set g (Int.toNat (rget p (Int.toNat x1) (1 : Nat))) [fMu_0 (vSt1_s12 x1 g p) (vSt1_s26 x1 g p), fMu_0 (vSt1_s20 x1 g p) (vSt1_s27 x1 g p), fMu_0 (vSt1_s21 x1 g p) (vSt1_s28 x1 g p), fMu_0 (vSt1_s22 x1 g p) (vSt1_s29 x1 g p)] else bif vSt1_s6 x1 p then List.set g (Int.toNat (rget p (Int.toNat x1) (1 : Nat))) [vMi1_0 (vSt1_s12 x1 g p) (vSt1_s26 x1 g p), vMi1_0 (vSt1_s20 x1 g p) (vSt1_s27 x1 g p), vMi1_0 (vSt1_s21 x1 g p) (vSt1_s28 x1 g p), vMi1_0 (vSt1_s22 x1 g p) (vSt1_s29 x1 g p)] else bif vSt1_s7 x1 p then List.set g (Int.toNat (rget p (Int.toNat x1) (1 : Nat))) [vMa1_0 (vSt1_s12 x1 g p) (vSt1_s26 x1 g p), vMa1_0 (vSt1_s20 x1 g p) (vSt1_s27 x1 g p), vMa1_0 (vSt1_s21 x1 g p) (vSt1_s28 x1 g p), vMa1_0 (vSt1_s22 x1 g p) (vSt1_s29 x1 g p)] else bif vSt1_s8 x1 p then List.set g (Int.toNat (rget p (Int.toNat x1) (1 : Nat))) [vSt1_s30 x1 g p, vSt1_s30 x1 g p, vSt1_s30 x1 g p, vSt1_s30 x1 g p] else bif vSt1_s9 x1 p then List.set g (Int.toNat (rget p (Int.toNat x1) (1 : Nat))) [vSt1_s33 x1 g p, vSt1_s33 x1 g p, vSt1_s33 x1 g p, vSt1_s33 x1 g p] else bif vSt1_s10 x1 p then rset g (Int.toNat (rget p (Int.toNat x1) (1 : Nat))) ((0 : Nat) + Int.toNat (vSt1_s32 x1 p)) [List.getD (vSt1_s23 x1 g p) (Int.toNat (vSt1_s35 x1 p)) (0 : Int)] else bif vSt1_s11 x1 p then g else bif vSt1_s17 x1 p then g else bif vSt1_s36 x1 p then List.set g (Int.toNat (rget p (Int.toNat x1) (1 : Nat))) [vTi_0 (vSt1_s12 x1 g p) (vSt1_s20 x1 g p) (vSt1_s21 x1 g p) (vSt1_s22 x1 g p) (vSt1_s26 x1 g p) (vSt1_s27 x1 g p) (vSt1_s28 x1 g p) (vSt1_s29 x1 g p), vTi_1 (rget g (Int.toNat (vSt1_s37 x1 p)) (0 : Nat)) (rget g (Int.toNat (vSt1_s37 x1 p)) (1 : Nat)) (rget g (Int.toNat (vSt1_s37 x1 p)) (2 : Nat)) (rget g (Int.toNat (vSt1_s37 x1 p)) (3 : Nat)) (vSt1_s26 x1 g p) (vSt1_s27 x1 g p) (vSt1_s28 x1 g p) (vSt1_s29 x1 g p), vTi_2 (rget g (Int.toNat (vSt1_s38 x1 p)) (0 : Nat)) (rget g (Int.toNat (vSt1_s38 x1 p)) (1 : Nat)) (rget g (Int.toNat (vSt1_s38 x1 p)) (2 : Nat)) (rget g (Int.toNat (vSt1_s38 x1 p)) (3 : Nat)) (vSt1_s26 x1 g p) (vSt1_s27 x1 g p) (vSt1_s28 x1 g p) (vSt1_s29 x1 g p), vTi_3 (rget g (Int.toNat (vSt1_s39 x1 p)) (0 : Nat)) (rget g (Int.toNat (vSt1_s39 x1 p)) (1 : Nat)) (rget g (Int.toNat (vSt1_s39 x1 p)) (2 : Nat)) (rget g (Int.toNat (vSt1_s39 x1 p)) (3 : Nat)) (vSt1_s26 x1 g p) (vSt1_s27 x1 g p) (vSt1_s28 x1 g p) (vSt1_s29 x1 g p)] else g
def vSt1_3 (x1 : Int) (g : List (List Int)) (gn : Bool) (p : List (List Int)) : Bool := bif vSt1_s18 x1 g p then bif vSt1_s0 x1 p then gn else bif vSt1_s11 x1 p then gn else bif vSt1_s16 x1 p then gn else true else gn
def vSt1_4 (st : Int) : Int := IntKind.wrap IntKind.i64 (st + (1 : Int))
def vSt1_o (x1 : Int) (g : List (List Int)) (gn : Bool) (st : Int) (r0 : Bool) (p : List (List Int)) : List Prop := [(0 : Int) ≤ x1 ∧ x1 < Int.ofNat (List.length p), (0 : Int) ≤ rget p (Int.toNat x1) (2 : Nat) ∧ rget p (Int.toNat x1) (2 : Nat) < Int.ofNat (12 : Nat), (0 : Int) ≤ rget p (Int.toNat x1) (1 : Nat) ∧ rget p (Int.toNat x1) (1 : Nat) < Int.ofNat (12 : Nat), vSt1_s25 x1 p = true → (0 : Int) ≤ rget p (Int.toNat x1) (3 : Nat) ∧ rget p (Int.toNat x1) (3 : Nat) < Int.ofNat (12 : Nat), vSt1_s0 x1 p = false → vSt1_s1 x1 p = false → vSt1_s2 x1 p = false → vSt1_s3 x1 p = false → vSt1_s4 x1 p = false → vSt1_s5 x1 p = false → vSt1_s6 x1 p = false → vSt1_s7 x1 p = false → vSt1_s8 x1 p = false → vSt1_s9 x1 p = true → (0 : Int) ≤ vSt1_s32 x1 p ∧ vSt1_s32 x1 p < Int.ofNat (4 : Nat), vSt1_s0 x1 p = false → vSt1_s1 x1 p = false → vSt1_s2 x1 p = false → vSt1_s3 x1 p = false → vSt1_s4 x1 p = false → vSt1_s5 x1 p = false → vSt1_s6 x1 p = false → vSt1_s7 x1 p = false → vSt1_s8 x1 p = false → vSt1_s9 x1 p = true → Int.toNat (vSt1_s32 x1 p) < (4 : Nat), vSt1_s0 x1 p = false → vSt1_s1 x1 p = false → vSt1_s2 x1 p = false → vSt1_s3 x1 p = false → vSt1_s4 x1 p = false → vSt1_s5 x1 p = false → vSt1_s6 x1 p = false → vSt1_s7 x1 p = false → vSt1_s8 x1 p = false → vSt1_s9 x1 p = false → vSt1_s10 x1 p = true → (0 : Int) ≤ vSt1_s35 x1 p ∧ vSt1_s35 x1 p < Int.ofNat (4 : Nat), vSt1_s0 x1 p = false → vSt1_s1 x1 p = false → vSt1_s2 x1 p = false → vSt1_s3 x1 p = false → vSt1_s4 x1 p = false → vSt1_s5 x1 p = false → vSt1_s6 x1 p = false → vSt1_s7 x1 p = false → vSt1_s8 x1 p = false → vSt1_s9 x1 p = false → vSt1_s10 x1 p = true → Int.toNat (vSt1_s35 x1 p) < (4 : Nat), vSt1_s0 x1 p = false → vSt1_s1 x1 p = false → vSt1_s2 x1 p = false → vSt1_s3 x1 p = false → vSt1_s4 x1 p = false → vSt1_s5 x1 p = false → vSt1_s6 x1 p = false → vSt1_s7 x1 p = false → vSt1_s8 x1 p = false → vSt1_s9 x1 p = false → vSt1_s10 x1 p = true → (0 : Int) ≤ vSt1_s32 x1 p ∧ vSt1_s32 x1 p < Int.ofNat (4 : Nat), vSt1_s0 x1 p = false → vSt1_s1 x1 p = false → vSt1_s2 x1 p = false → vSt1_s3 x1 p = false → vSt1_s4 x1 p = false → vSt1_s5 x1 p = false → vSt1_s6 x1 p = false → vSt1_s7 x1 p = false → vSt1_s8 x1 p = false → vSt1_s9 x1 p = false → vSt1_s10 x1 p = false → vSt1_s11 x1 p = false → vSt1_s16 x1 p = true → False, vSt1_s0 x1 p = false → vSt1_s1 x1 p = false → vSt1_s2 x1 p = false → vSt1_s3 x1 p = false → vSt1_s4 x1 p = false → vSt1_s5 x1 p = false → vSt1_s6 x1 p = false → vSt1_s7 x1 p = false → vSt1_s8 x1 p = false → vSt1_s9 x1 p = false → vSt1_s10 x1 p = false → vSt1_s11 x1 p = false → vSt1_s16 x1 p = false → vSt1_s17 x1 p = false → vSt1_s36 x1 p = true → (0 : Int) ≤ vSt1_s37 x1 p ∧ vSt1_s37 x1 p < Int.ofNat (12 : Nat), vSt1_s0 x1 p = false → vSt1_s1 x1 p = false → vSt1_s2 x1 p = false → vSt1_s3 x1 p = false → vSt1_s4 x1 p = false → vSt1_s5 x1 p = false → vSt1_s6 x1 p = false → vSt1_s7 x1 p = false → vSt1_s8 x1 p = false → vSt1_s9 x1 p = false → vSt1_s10 x1 p = false → vSt1_s11 x1 p = false → vSt1_s16 x1 p = false → vSt1_s17 x1 p = false → vSt1_s36 x1 p = true → (0 : Int) ≤ vSt1_s38 x1 p ∧ vSt1_s38 x1 p < Int.ofNat (12 : Nat), vSt1_s0 x1 p = false → vSt1_s1 x1 p = false → vSt1_s2 x1 p = false → vSt1_s3 x1 p = false → vSt1_s4 x1 p = false → vSt1_s5 x1 p = false → vSt1_s6 x1 p = false → vSt1_s7 x1 p = false → vSt1_s8 x1 p = false → vSt1_s9 x1 p = false → vSt1_s10 x1 p = false → vSt1_s11 x1 p = false → vSt1_s16 x1 p = false → vSt1_s17 x1 p = false → vSt1_s36 x1 p = true → (0 : Int) ≤ vSt1_s39 x1 p ∧ vSt1_s39 x1 p < Int.ofNat (12 : Nat)]
theorem vSt1_p (x1 : Int) (g : List (List Int)) (gn : Bool) (st : Int) (r0 : Bool) (p : List (List Int)) : evG Try.prog tabUb0 2000 136 [0, 1, 4, 5, 6, 7, 8, 9, 43, 53, 54, 56, 61, 70, 77, 84, 91, 98, 105, 113, 123, 136, 140, 147, 157, 161, 166] [] [0] [.a (.ptr 0 0), .a (.int true .i64 x1)] (padBs [⟨⟨0, 51, false, some ⟨0, [.int .i64, .int .i64, .int .i64, .int .i64], g, some 12⟩⟩, [some (.bool true gn), some (.int true .i64 st), some (.vec 1 0 5)]⟩, ⟨⟨0, 0, r0, some ⟨0, [.int .u8, .int .u8, .int .u8, .int .u8, .int .i16], p, none⟩⟩, []⟩]) = some (vSt1_o x1 g gn st r0 p, LV.t [LV.a (At.int true IntKind.i64 (vSt1_0 x1 g p)), LV.a (At.bool true (vSt1_1 x1 g p))], padOut [some (BC.mk (Hd.mk (nat_lit 0) (nat_lit 51) false (some (Rw.mk (nat_lit 0) [Kd.int IntKind.i64, Kd.int IntKind.i64, Kd.int IntKind.i64, Kd.int IntKind.i64] (vSt1_2 x1 g p) (some (nat_lit 12))))) [some (At.bool true (vSt1_3 x1 g gn p)), some (At.int true IntKind.i64 (vSt1_4 st)), some (At.vec (nat_lit 1) (nat_lit 0) (nat_lit 5))]), none]) := by kernel_rfl
def vSt1_c0 : Con
  | [.a (.ptr 0 0), .a (.int true .i64 x1)], [⟨⟨0, 51, false, some ⟨0, [.int .i64, .int .i64, .int .i64, .int .i64], g, some 12⟩⟩, [some (.bool true gn), some (.int true .i64 st), some (.vec 1 0 5)]⟩, ⟨⟨0, 0, r0, some ⟨0, [.int .u8, .int .u8, .int .u8, .int .u8, .int .i16], p, none⟩⟩, []⟩] => some (vSt1_o x1 g gn st r0 p, LV.t [LV.a (At.int true IntKind.i64 (vSt1_0 x1 g p)), LV.a (At.bool true (vSt1_1 x1 g p))], [some (BC.mk (Hd.mk (nat_lit 0) (nat_lit 51) false (some (Rw.mk (nat_lit 0) [Kd.int IntKind.i64, Kd.int IntKind.i64, Kd.int IntKind.i64, Kd.int IntKind.i64] (vSt1_2 x1 g p) (some (nat_lit 12))))) [some (At.bool true (vSt1_3 x1 g gn p)), some (At.int true IntKind.i64 (vSt1_4 st)), some (At.vec (nat_lit 1) (nat_lit 0) (nat_lit 5))]), none])
  | _, _ => none
def vSt1_c : Con := packC vSt1_c0
theorem vSt1_ok : ConOK Try.prog 136 (normC vSt1_c) := normC_ok (packC_ok (by
  intro args bs obs lv out h ho φ vs w may ha hM
  unfold vSt1_c0 at h
  split at h
  · simp only [Option.some.injEq, Prod.mk.injEq] at h
    obtain ⟨rfl, rfl, rfl⟩ := h
    rename_i x1 g gn st r0 p
    exact evG_ok tabUb0_ok follows _ _ _ _ _ (vSt1_p x1 g gn st r0 p) ho φ vs w may ha hM
  · cases h))
theorem vSt1_en : Enters Try.prog 136 := fun args => by kernel_rfl
-- 3256 5823 101 ms

def tabUb1 : Tab := (136, normC vSt1_c) :: tabUb0
theorem tabUb1_ok : TOK Try.prog tabUb1 := TOK.cons vSt1_en vSt1_ok (tabUb0_ok)

end Go.Proofs.Ytcdejlgophpdjaa
end

section
namespace Go.Proofs.Ytcdejlgophpdjaa
open Go Go.RowKit Go.Proofs.Ytcdejlgophpdjaa.V
set_option linter.unusedVariables false

/-! (*azulejo/vm.machine).range_ -/
noncomputable def vRa2_l13_code : Go.Code := loopOf (subs (bodyOf Try.prog 127) 1 13)
structure vRa2_l13_T where
  a0 : Int
  a1 : Bool
  a2 : Int
  a3 : List (List Int)
  a4 : Bool
  a5 : Int
  a6 : List (List Int)
  deriving Inhabited
def vRa2_l13_hd0 (v : vRa2_l13_T) : HS := HS.mk [(nat_lit 0, LV.a (At.ptr (nat_lit 0) (nat_lit 0))), (nat_lit 2, LV.a (At.int true IntKind.i64 (vRa2_l13_T.a0 v))), (nat_lit 6, LV.a (At.bool true (vRa2_l13_T.a1 v))), (nat_lit 7, LV.a (At.int true IntKind.i64 (vRa2_l13_T.a2 v)))] [BC.mk (Hd.mk (nat_lit 0) (nat_lit 51) false (some (Rw.mk (nat_lit 0) [Kd.int IntKind.i64, Kd.int IntKind.i64, Kd.int IntKind.i64, Kd.int IntKind.i64] (vRa2_l13_T.a3 v) (some (nat_lit 12))))) [some (At.bool true (vRa2_l13_T.a4 v)), some (At.int true IntKind.i64 (vRa2_l13_T.a5 v)), some (At.vec (nat_lit 1) (nat_lit 0) (nat_lit 5))], BC.mk (Hd.mk (nat_lit 0) (nat_lit 0) true (some (Rw.mk (nat_lit 0) [Kd.int IntKind.u8, Kd.int IntKind.u8, Kd.int IntKind.u8, Kd.int IntKind.u8, Kd.int IntKind.i16] (vRa2_l13_T.a6 v) none))) []]
def vRa2_l13_hd (v : vRa2_l13_T) : HS := padH (vRa2_l13_hd0 v)
def vRa2_l13_s0 (v : vRa2_l13_T) : Bool := decide (vRa2_l13_T.a2 v < vRa2_l13_T.a0 v)
def vRa2_l13_st (v : vRa2_l13_T) : List Prop × List (X × Bool × vRa2_l13_T) := ([vRa2_l13_s0 v = true → (0 : Int) ≤ vRa2_l13_T.a2 v ∧ vRa2_l13_T.a2 v < Int.ofNat (List.length (vRa2_l13_T.a6 v)), vRa2_l13_s0 v = true → (0 : Int) ≤ rget (vRa2_l13_T.a6 v) (Int.toNat (vRa2_l13_T.a2 v)) (2 : Nat) ∧ rget (vRa2_l13_T.a6 v) (Int.toNat (vRa2_l13_T.a2 v)) (2 : Nat) < Int.ofNat (12 : Nat), vRa2_l13_s0 v = true → (0 : Int) ≤ rget (vRa2_l13_T.a6 v) (Int.toNat (vRa2_l13_T.a2 v)) (1 : Nat) ∧ rget (vRa2_l13_T.a6 v) (Int.toNat (vRa2_l13_T.a2 v)) (1 : Nat) < Int.ofNat (12 : Nat), vRa2_l13_s0 v = true → vSt1_s25 (vRa2_l13_T.a2 v) (vRa2_l13_T.a6 v) = true → (0 : Int) ≤ rget (vRa2_l13_T.a6 v) (Int.toNat (vRa2_l13_T.a2 v)) (3 : Nat) ∧ rget (vRa2_l13_T.a6 v) (Int.toNat (vRa2_l13_T.a2 v)) (3 : Nat) < Int.ofNat (12 : Nat), vRa2_l13_s0 v = true → vSt1_s0 (vRa2_l13_T.a2 v) (vRa2_l13_T.a6 v) = false → vSt1_s1 (vRa2_l13_T.a2 v) (vRa2_l13_T.a6 v) = false → vSt1_s2 (vRa2_l13_T.a2 v) (vRa2_l13_T.a6 v) = false → vSt1_s3 (vRa2_l13_T.a2 v) (vRa2_l13_T.a6 v) = false → vSt1_s4 (vRa2_l13_T.a2 v) (vRa2_l13_T.a6 v) = false → vSt1_s5 (vRa2_l13_T.a2 v) (vRa2_l13_T.a6 v) = false → vSt1_s6 (vRa2_l13_T.a2 v) (vRa2_l13_T.a6 v) = false → vSt1_s7 (vRa2_l13_T.a2 v) (vRa2_l13_T.a6 v) = false → vSt1_s8 (vRa2_l13_T.a2 v) (vRa2_l13_T.a6 v) = false → vSt1_s9 (vRa2_l13_T.a2 v) (vRa2_l13_T.a6 v) = true → (0 : Int) ≤ vSt1_s32 (vRa2_l13_T.a2 v) (vRa2_l13_T.a6 v) ∧ vSt1_s32 (vRa2_l13_T.a2 v) (vRa2_l13_T.a6 v) < Int.ofNat (4 : Nat), vRa2_l13_s0 v = true → vSt1_s0 (vRa2_l13_T.a2 v) (vRa2_l13_T.a6 v) = false → vSt1_s1 (vRa2_l13_T.a2 v) (vRa2_l13_T.a6 v) = false → vSt1_s2 (vRa2_l13_T.a2 v) (vRa2_l13_T.a6 v) = false → vSt1_s3 (vRa2_l13_T.a2 v) (vRa2_l13_T.a6 v) = false → vSt1_s4 (vRa2_l13_T.a2 v) (vRa2_l13_T.a6 v) = false → vSt1_s5 (vRa2_l13_T.a2 v) (vRa2_l13_T.a6 v) = false → vSt1_s6 (vRa2_l13_T.a2 v) (vRa2_l13_T.a6 v) = false → vSt1_s7 (vRa2_l13_T.a2 v) (vRa2_l13_T.a6 v) = false → vSt1_s8 (vRa2_l13_T.a2 v) (vRa2_l13_T.a6 v) = false → vSt1_s9 (vRa2_l13_T.a2 v) (vRa2_l13_T.a6 v) = true → Int.toNat (vSt1_s32 (vRa2_l13_T.a2 v) (vRa2_l13_T.a6 v)) < (4 : Nat), vRa2_l13_s0 v = true → vSt1_s0 (vRa2_l13_T.a2 v) (vRa2_l13_T.a6 v) = false → vSt1_s1 (vRa2_l13_T.a2 v) (vRa2_l13_T.a6 v) = false → vSt1_s2 (vRa2_l13_T.a2 v) (vRa2_l13_T.a6 v) = false → vSt1_s3 (vRa2_l13_T.a2 v) (vRa2_l13_T.a6 v) = false → vSt1_s4 (vRa2_l13_T.a2 v) (vRa2_l13_T.a6 v) = false → vSt1_s5 (vRa2_l13_T.a2 v) (vRa2_l13_T.a6 v) = false → vSt1_s6 (vRa2_l13_T.a2 v) (vRa2_l13_T.a6 v) = false → vSt1_s7 (vRa2_l13_T.a2 v) (vRa2_l13_T.a6 v) = false → vSt1_s8 (vRa2_l13_T.a2 v) (vRa2_l13_T.a6 v) = false → vSt1_s9 (vRa2_l13_T.a2 v) (vRa2_l13_T.a6 v) = false → vSt1_s10 (vRa2_l13_T.a2 v) (vRa2_l13_T.a6 v) = true → (0 : Int) ≤ vSt1_s35 (vRa2_l13_T.a2 v) (vRa2_l13_T.a6 v) ∧ vSt1_s35 (vRa2_l13_T.a2 v) (vRa2_l13_T.a6 v) < Int.ofNat (4 : Nat), vRa2_l13_s0 v = true → vSt1_s0 (vRa2_l13_T.a2 v) (vRa2_l13_T.a6 v) = false → vSt1_s1 (vRa2_l13_T.a2 v) (vRa2_l13_T.a6 v) = false → vSt1_s2 (vRa2_l13_T.a2 v) (vRa2_l13_T.a6 v) = false → vSt1_s3 (vRa2_l13_T.a2 v) (vRa2_l13_T.a6 v) = false → vSt1_s4 (vRa2_l13_T.a2 v) (vRa2_l13_T.a6 v) = false → vSt1_s5 (vRa2_l13_T.a2 v) (vRa2_l13_T.a6 v) = false → vSt1_s6 (vRa2_l13_T.a2 v) (vRa2_l13_T.a6 v) = false → vSt1_s7 (vRa2_l13_T.a2 v) (vRa2_l13_T.a6 v) = false → vSt1_s8 (vRa2_l13_T.a2 v) (vRa2_l13_T.a6 v) = false → vSt1_s9 (vRa2_l13_T.a2 v) (vRa2_l13_T.a6 v) = false → vSt1_s10 (vRa2_l13_T.a2 v) (vRa2_l13_T.a6 v) = true → Int.toNat (vSt1_s35 (vRa2_l13_T.a2 v) (vRa2_l13_T.a6 v)) < (4 : Nat), vRa2_l13_s0 v = true → vSt1_s0 (vRa2_l13_T.a2 v) (vRa2_l13_T.a6 v) = false → vSt1_s1 (vRa2_l13_T.a2 v) (vRa2_l13_T.a6 v) = false → vSt1_s2 (vRa2_l13_T.a2 v) (vRa2_l13_T.a6 v) = false → vSt1_s3 (vRa2_l13_T.a2 v) (vRa2_l13_T.a6 v) = false → vSt1_s4 (vRa2_l13_T.a2 v) (vRa2_l13_T.a6 v) = false → vSt1_s5 (vRa2_l13_T.a2 v) (vRa2_l13_T.a6 v) = false → vSt1_s6 (vRa2_l13_T.a2 v) (vRa2_l13_T.a6 v) = false → vSt1_s7 (vRa2_l13_T.a2 v) (vRa2_l13_T.a6 v) = false → vSt1_s8 (vRa2_l13_T.a2 v) (vRa2_l13_T.a6 v) = false → vSt1_s9 (vRa2_l13_T.a2 v) (vRa2_l13_T.a6 v) = false → vSt1_s10 (vRa2_l13_T.a2 v) (vRa2_l13_T.a6 v) = true → (0 : Int) ≤ vSt1_s32 (vRa2_l13_T.a2 v) (vRa2_l13_T.a6 v) ∧ vSt1_s32 (vRa2_l13_T.a2 v) (vRa2_l13_T.a6 v) < Int.ofNat (4 : Nat), vRa2_l13_s0 v = true → vSt1_s0 (vRa2_l13_T.a2 v) (vRa2_l13_T.a6 v) = false → vSt1_s1 (vRa2_l13_T.a2 v) (vRa2_l13_T.a6 v) = false → vSt1_s2 (vRa2_l13_T.a2 v) (vRa2_l13_T.a6 v) = false → vSt1_s3 (vRa2_l13_T.a2 v) (vRa2_l13_T.a6 v) = false → vSt1_s4 (vRa2_l13_T.a2 v) (vRa2_l13_T.a6 v) = false → vSt1_s5 (vRa2_l13_T.a2 v) (vRa2_l13_T.a6 v) = false → vSt1_s6 (vRa2_l13_T.a2 v) (vRa2_l13_T.a6 v) = false → vSt1_s7 (vRa2_l13_T.a2 v) (vRa2_l13_T.a6 v) = false → vSt1_s8 (vRa2_l13_T.a2 v) (vRa2_l13_T.a6 v) = false → vSt1_s9 (vRa2_l13_T.a2 v) (vRa2_l13_T.a6 v) = false → vSt1_s10 (vRa2_l13_T.a2 v) (vRa2_l13_T.a6 v) = false → vSt1_s11 (vRa2_l13_T.a2 v) (vRa2_l13_T.a6 v) = false → vSt1_s16 (vRa2_l13_T.a2 v) (vRa2_l13_T.a6 v) = true → False, vRa2_l13_s0 v = true → vSt1_s0 (vRa2_l13_T.a2 v) (vRa2_l13_T.a6 v) = false → vSt1_s1 (vRa2_l13_T.a2 v) (vRa2_l13_T.a6 v) = false → vSt1_s2 (vRa2_l13_T.a2 v) (vRa2_l13_T.a6 v) = false → vSt1_s3 (vRa2_l13_T.a2 v) (vRa2_l13_T.a6 v) = false → vSt1_s4 (vRa2_l13_T.a2 v) (vRa2_l13_T.a6 v) = false → vSt1_s5 (vRa2_l13_T.a2 v) (vRa2_l13_T.a6 v) = false → vSt1_s6 (vRa2_l13_T.a2 v) (vRa2_l13_T.a6 v) = false → vSt1_s7 (vRa2_l13_T.a2 v) (vRa2_l13_T.a6 v) = false → vSt1_s8 (vRa2_l13_T.a2 v) (vRa2_l13_T.a6 v) = false → vSt1_s9 (vRa2_l13_T.a2 v) (vRa2_l13_T.a6 v) = false → vSt1_s10 (vRa2_l13_T.a2 v) (vRa2_l13_T.a6 v) = false → vSt1_s11 (vRa2_l13_T.a2 v) (vRa2_l13_T.a6 v) = false → vSt1_s16 (vRa2_l13_T.a2 v) (vRa2_l13_T.a6 v) = false → vSt1_s17 (vRa2_l13_T.a2 v) (vRa2_l13_T.a6 v) = false → vSt1_s36 (vRa2_l13_T.a2 v) (vRa2_l13_T.a6 v) = true → (0 : Int) ≤ vSt1_s37 (vRa2_l13_T.a2 v) (vRa2_l13_T.a6 v) ∧ vSt1_s37 (vRa2_l13_T.a2 v) (vRa2_l13_T.a6 v) < Int.ofNat (12 : Nat), vRa2_l13_s0 v = true → vSt1_s0 (vRa2_l13_T.a2 v) (vRa2_l13_T.a6 v) = false → vSt1_s1 (vRa2_l13_T.a2 v) (vRa2_l13_T.a6 v) = false → vSt1_s2 (vRa2_l13_T.a2 v) (vRa2_l13_T.a6 v) = false → vSt1_s3 (vRa2_l13_T.a2 v) (vRa2_l13_T.a6 v) = false → vSt1_s4 (vRa2_l13_T.a2 v) (vRa2_l13_T.a6 v) = false → vSt1_s5 (vRa2_l13_T.a2 v) (vRa2_l13_T.a6 v) = false → vSt1_s6 (vRa2_l13_T.a2 v) (vRa2_l13_T.a6 v) = false → vSt1_s7 (vRa2_l13_T.a2 v) (vRa2_l13_T.a6 v) = false → vSt1_s8 (vRa2_l13_T.a2 v) (vRa2_l13_T.a6 v) = false → vSt1_s9 (vRa2_l13_T.a2 v) (vRa2_l13_T.a6 v) = false → vSt1_s10 (vRa2_l13_T.a2 v) (vRa2_l13_T.a6 v) = false → vSt1_s11 (vRa2_l13_T.a2 v) (vRa2_l13_T.a6 v) = false → vSt1_s16 (vRa2_l13_T.a2 v) (vRa2_l13_T.a6 v) = false → vSt1_s17 (vRa2_l13_T.a2 v) (vRa2_l13_T.a6 v) = false → vSt1_s36 (vRa2_l13_T.a2 v) (vRa2_l13_T.a6 v) = true → (0 : Int) ≤ vSt1_s38 (vRa2_l13_T.a2 v) (vRa2_l13_T.a6 v) ∧ vSt1_s38 (vRa2_l13_T.a2 v) (vRa2_l13_T.a6 v) < Int.ofNat (12 : Nat), vRa2_l13_s0 v = true → vSt1_s0 (vRa2_l13_T.a2 v) (vRa2_l13_T.a6 v) = false → vSt1_s1 (vRa2_l13_T.a2 v) (vRa2_l13_T.a6 v) = false → vSt1_s2 (vRa2_l13_T.a2 v) (vRa2_l13_T.a6 v) = false → vSt1_s3 (vRa2_l13_T.a2 v) (vRa2_l13_T.a6 v) = false → vSt1_s4 (vRa2_l13_T.a2 v) (vRa2_l13_T.a6 v) = false → vSt1_s5 (vRa2_l13_T.a2 v) (vRa2_l13_T.a6 v) = false → vSt1_s6 (vRa2_l13_T.a2 v) (vRa2_l13_T.a6 v) = false → vSt1_s7 (vRa2_l13_T.a2 v) (vRa2_l13_T.a6 v) = false → vSt1_s8 (vRa2_l13_T.a2 v) (vRa2_l13_T.a6 v) = false → vSt1_s9 (vRa2_l13_T.a2 v) (vRa2_l13_T.a6 v) = false → vSt1_s10 (vRa2_l13_T.a2 v) (vRa2_l13_T.a6 v) = false → vSt1_s11 (vRa2_l13_T.a2 v) (vRa2_l13_T.a6 v) = false → vSt1_s16 (vRa2_l13_T.a2 v) (vRa2_l13_T.a6 v) = false → vSt1_s17 (vRa2_l13_T.a2 v) (vRa2_l13_T.a6 v) = false → vSt1_s36 (vRa2_l13_T.a2 v) (vRa2_l13_T.a6 v) = true → (0 : Int) ≤ vSt1_s39 (vRa2_l13_T.a2 v) (vRa2_l13_T.a6 v) ∧ vSt1_s39 (vRa2_l13_T.a2 v) (vRa2_l13_T.a6 v) < Int.ofNat (12 : Nat)], [(X.e (0 : Nat), !vRa2_l13_s0 v, vRa2_l13_T.mk (vRa2_l13_T.a0 v) (vRa2_l13_T.a1 v) (vRa2_l13_T.a2 v) (vRa2_l13_T.a3 v) (vRa2_l13_T.a4 v) (vRa2_l13_T.a5 v) (vRa2_l13_T.a6 v)), (X.r, vRa2_l13_s0 v && !vSt1_1 (vRa2_l13_T.a2 v) (vRa2_l13_T.a3 v) (vRa2_l13_T.a6 v), vRa2_l13_T.mk (vRa2_l13_T.a0 v) (false) (vRa2_l13_T.a2 v) (vSt1_2 (vRa2_l13_T.a2 v) (vRa2_l13_T.a3 v) (vRa2_l13_T.a6 v)) (vSt1_3 (vRa2_l13_T.a2 v) (vRa2_l13_T.a3 v) (vRa2_l13_T.a4 v) (vRa2_l13_T.a6 v)) (vSt1_4 (vRa2_l13_T.a5 v)) (vRa2_l13_T.a6 v)), (X.n, vRa2_l13_s0 v && !!vSt1_1 (vRa2_l13_T.a2 v) (vRa2_l13_T.a3 v) (vRa2_l13_T.a6 v), vRa2_l13_T.mk (vRa2_l13_T.a0 v) (vRa2_l13_T.a1 v) (vSt1_0 (vRa2_l13_T.a2 v) (vRa2_l13_T.a3 v) (vRa2_l13_T.a6 v)) (vSt1_2 (vRa2_l13_T.a2 v) (vRa2_l13_T.a3 v) (vRa2_l13_T.a6 v)) (vSt1_3 (vRa2_l13_T.a2 v) (vRa2_l13_T.a3 v) (vRa2_l13_T.a4 v) (vRa2_l13_T.a6 v)) (vSt1_4 (vRa2_l13_T.a5 v)) (vRa2_l13_T.a6 v))])
def vRa2_l13_rd : HS → Option vRa2_l13_T := rdS [.i, .b, .i, .r, .b, .i, .r] (fun l => vRa2_l13_T.mk (gI l 0) (gB l 1) (gI l 2) (gR l 3) (gB l 4) (gI l 5) (gR l 6)) vRa2_l13_hd
def vRa2_l13_sum : V.Sum := loopS vRa2_l13_hd vRa2_l13_rd vRa2_l13_st 18446744073709551616 [X.e (0 : Nat), X.r] [0, 1, 2, 6, 7, 8, 9, 13, 21] [0, 2, 6, 7] [0] [] [] 0
theorem vRa2_l13_E : ∀ v, bodyF Try.prog tabUb1 (ntOf Try.prog 127) [0, 1, 2, 6, 7, 8, 9, 13, 21] [0, 2, 6, 7] [] 2000 [0] [] vRa2_l13_code 52 (vRa2_l13_hd v) = some ((vRa2_l13_st v).1, (vRa2_l13_st v).2.map fun q => (q.1, q.2.1, vRa2_l13_hd q.2.2)) := fun v => by kernel_rfl
theorem vRa2_l13_R : ∀ h v, vRa2_l13_rd h = some v → h = vRa2_l13_hd v := rdS_ok fun l => by kernel_rfl
set_option maxRecDepth 100000 in
theorem vRa2_l13_sok : SumOK Try.prog (ntOf Try.prog 127) [0, 1, 2, 6, 7, 8, 9, 13, 21] (.block (blockOf (subs (bodyOf Try.prog 127) 1 13)) (.loop vRa2_l13_code)) vRa2_l13_sum := loopS_ok tabUb1_ok follows vRa2_l13_E vRa2_l13_R (fun v => by kernel_rfl) (LOK_of _ _ (LOK_nil'))
def vRa2_s0 (x1 x2 : Int) (g : List (List Int)) (gn : Bool) (st : Int) (p : List (List Int)) : Option (X × vRa2_l13_T) := lrun vRa2_l13_st (18446744073709551616 : Nat) (vRa2_l13_T.mk x2 false x1 g gn st p)
def vRa2_0 (x1 x2 : Int) (g : List (List Int)) (gn : Bool) (st : Int) (p : List (List Int)) : Bool := bif isX X.r (vRa2_s0 x1 x2 g gn st p) then vRa2_l13_T.a1 (V.valOf (vRa2_s0 x1 x2 g gn st p)) else true
def vRa2_1 (x1 x2 : Int) (g : List (List Int)) (gn : Bool) (st : Int) (p : List (List Int)) : List (List Int) := bif isX X.r (vRa2_s0 x1 x2 g gn st p) then vRa2_l13_T.a3 (V.valOf (vRa2_s0 x1 x2 g gn st p)) else vRa2_l13_T.a3 (V.valOf (vRa2_s0 x1 x2 g gn st p))
def vRa2_2 (x1 x2 : Int) (g : List (List Int)) (gn : Bool) (st : Int) (p : List (List Int)) : Bool := bif isX X.r (vRa2_s0 x1 x2 g gn st p) then vRa2_l13_T.a4 (V.valOf (vRa2_s0 x1 x2 g gn st p)) else vRa2_l13_T.a4 (V.valOf (vRa2_s0 x1 x2 g gn st p))
def vRa2_3 (x1 x2 : Int) (g : List (List Int)) (gn : Bool) (st : Int) (p : List (List Int)) : Int := bif isX X.r (vRa2_s0 x1 x2 g gn st p) then vRa2_l13_T.a5 (V.valOf (vRa2_s0 x1 x2 g gn st p)) else vRa2_l13_T.a5 (V.valOf (vRa2_s0 x1 x2 g gn st p))
def vRa2_o (x1 x2 : Int) (g : List (List Int)) (gn : Bool) (st : Int) (r0 : Bool) (p : List (List Int)) : List Prop := [lok vRa2_l13_st (18446744073709551616 : Nat) (vRa2_l13_T.mk x2 false x1 g gn st p)]
theorem vRa2_p (x1 x2 : Int) (g : List (List Int)) (gn : Bool) (st : Int) (r0 : Bool) (p : List (List Int)) : evG Try.prog tabUb1 2000 127 [0, 1, 2, 6, 7, 8, 9, 13, 21] [(13, vRa2_l13_sum)] [0] [.a (.ptr 0 0), .a (.int true .i64 x1), .a (.int true .i64 x2)] (padBs [⟨⟨0, 51, false, some ⟨0, [.int .i64, .int .i64, .int .i64, .int .i64], g, some 12⟩⟩, [some (.bool true gn), some (.int true .i64 st), some (.vec 1 0 5)]⟩, ⟨⟨0, 0, r0, some ⟨0, [.int .u8, .int .u8, .int .u8, .int .u8, .int .i16], p, none⟩⟩, []⟩]) = some (vRa2_o x1 x2 g gn st r0 p, LV.a (At.bool true (vRa2_0 x1 x2 g gn st p)), padOut [some (BC.mk (Hd.mk (nat_lit 0) (nat_lit 51) false (some (Rw.mk (nat_lit 0) [Kd.int IntKind.i64, Kd.int IntKind.i64, Kd.int IntKind.i64, Kd.int IntKind.i64] (vRa2_1 x1 x2 g gn st p) (some (nat_lit 12))))) [some (At.bool true (vRa2_2 x1 x2 g gn st p)), some (At.int true IntKind.i64 (vRa2_3 x1 x2 g gn st p)), some (At.vec (nat_lit 1) (nat_lit 0) (nat_lit 5))]), none]) := by kernel_rfl
def vRa2_c0 : Con
  | [.a (.ptr 0 0), .a (.int true .i64 x1), .a (.int true .i64 x2)], [⟨⟨0, 51, false, some ⟨0, [.int .i64, .int .i64, .int .i64, .int .i64], g, some 12⟩⟩, [some (.bool true gn), some (.int true .i64 st), some (.vec 1 0 5)]⟩, ⟨⟨0, 0, r0, some ⟨0, [.int .u8, .int .u8, .int .u8, .int .u8, .int .i16], p, none⟩⟩, []⟩] => some (vRa2_o x1 x2 g gn st r0 p, LV.a (At.bool true (vRa2_0 x1 x2 g gn st p)), [some (BC.mk (Hd.mk (nat_lit 0) (nat_lit 51) false (some (Rw.mk (nat_lit 0) [Kd.int IntKind.i64, Kd.int IntKind.i64, Kd.int IntKind.i64, Kd.int IntKind.i64] (vRa2_1 x1 x2 g gn st p) (some (nat_lit 12))))) [some (At.bool true (vRa2_2 x1 x2 g gn st p)), some (At.int true IntKind.i64 (vRa2_3 x1 x2 g gn st p)), some (At.vec (nat_lit 1) (nat_lit 0) (nat_lit 5))]), none])
  | _, _ => none
def vRa2_c : Con := packC vRa2_c0
theorem vRa2_ok : ConOK Try.prog 127 (normC vRa2_c) := normC_ok (packC_ok (by
  intro args bs obs lv out h ho φ vs w may ha hM
  unfold vRa2_c0 at h
  split at h
  · simp only [Option.some.injEq, Prod.mk.injEq] at h
    obtain ⟨rfl, rfl, rfl⟩ := h
    rename_i x1 x2 g gn st r0 p
    exact evG_okL' tabUb1_ok follows (LOK_cons (show subs (bodyOf Try.prog 127) 1 13 = [.block (blockOf (subs (bodyOf Try.prog 127) 1 13)) (.loop vRa2_l13_code)] from by kernel_rfl) vRa2_l13_sok (LOK_nil')) _ _ _ _ _ (vRa2_p x1 x2 g gn st r0 p) ho φ vs w may ha hM
  · cases h))
theorem vRa2_en : Enters Try.prog 127 := fun args => by kernel_rfl
-- 2202 1093 16 ms

def tabUb2 : Tab := (127, normC vRa2_c) :: tabUb1
theorem tabUb2_ok : TOK Try.prog tabUb2 := TOK.cons vRa2_en vRa2_ok (tabUb1_ok)

end Go.Proofs.Ytcdejlgophpdjaa
end

section
namespace Go.Proofs.Ytcdejlgophpdjaa
open Go Go.RowKit Go.Proofs.Ytcdejlgophpdjaa.V
set_option linter.unusedVariables false

/-! (*azulejo/vm.machine).loop -/
noncomputable def vLo_l29_code : Go.Code := loopOf (subs (bodyOf Try.prog 149) 1 29)
structure vLo_l29_T where
  a0 : Int
  a1 : Bool
  a2 : Int
  a3 : Int
  a4 : Int
  a5 : Int
  a6 : List (List Int)
  a7 : Bool
  a8 : Int
  a9 : List (List Int)
  deriving Inhabited
def vLo_l29_hd0 (v : vLo_l29_T) : HS := HS.mk [(nat_lit 0, LV.a (At.ptr (nat_lit 0) (nat_lit 0))), (nat_lit 6, LV.a (At.int true IntKind.i64 (vLo_l29_T.a0 v))), (nat_lit 7, LV.a (At.bool true (vLo_l29_T.a1 v))), (nat_lit 8, LV.a (At.int true IntKind.i64 (vLo_l29_T.a2 v))), (nat_lit 9, LV.a (At.int true IntKind.i64 (vLo_l29_T.a3 v))), (nat_lit 21, LV.a (At.int true IntKind.i64 (vLo_l29_T.a4 v))), (nat_lit 22, LV.a (At.int true IntKind.i64 (vLo_l29_T.a5 v)))] [BC.mk (Hd.mk (nat_lit 0) (nat_lit 51) false (some (Rw.mk (nat_lit 0) [Kd.int IntKind.i64, Kd.int IntKind.i64, Kd.int IntKind.i64, Kd.int IntKind.i64] (vLo_l29_T.a6 v) (some (nat_lit 12))))) [some (At.bool true (vLo_l29_T.a7 v)), some (At.int true IntKind.i64 (vLo_l29_T.a8 v)), some (At.vec (nat_lit 1) (nat_lit 0) (nat_lit 5))], BC.mk (Hd.mk (nat_lit 0) (nat_lit 0) true (some (Rw.mk (nat_lit 0) [Kd.int IntKind.u8, Kd.int IntKind.u8, Kd.int IntKind.u8, Kd.int IntKind.u8, Kd.int IntKind.i16] (vLo_l29_T.a9 v) none))) []]
def vLo_l29_hd (v : vLo_l29_T) : HS := padH (vLo_l29_hd0 v)
def vLo_l29_s0 (v : vLo_l29_T) : Bool := decide (vLo_l29_T.a5 v < vLo_l29_T.a4 v)
def vLo_l29_s1 (v : vLo_l29_T) : Bool := !vRa2_0 (vLo_l29_T.a2 v) (vLo_l29_T.a3 v) (vLo_l29_T.a6 v) (vLo_l29_T.a7 v) (vLo_l29_T.a8 v) (vLo_l29_T.a9 v)
def vLo_l29_s2 (v : vLo_l29_T) : List (List Int) := vRa2_1 (vLo_l29_T.a2 v) (vLo_l29_T.a3 v) (vLo_l29_T.a6 v) (vLo_l29_T.a7 v) (vLo_l29_T.a8 v) (vLo_l29_T.a9 v)
def vLo_l29_s3 (v : vLo_l29_T) : Bool := vRa2_2 (vLo_l29_T.a2 v) (vLo_l29_T.a3 v) (vLo_l29_T.a6 v) (vLo_l29_T.a7 v) (vLo_l29_T.a8 v) (vLo_l29_T.a9 v)
def vLo_l29_s4 (v : vLo_l29_T) : Int := vRa2_3 (vLo_l29_T.a2 v) (vLo_l29_T.a3 v) (vLo_l29_T.a6 v) (vLo_l29_T.a7 v) (vLo_l29_T.a8 v) (vLo_l29_T.a9 v)
def vLo_l29_st (v : vLo_l29_T) : List Prop × List (X × Bool × vLo_l29_T) := ([vLo_l29_s0 v = true → lok vRa2_l13_st (18446744073709551616 : Nat) (vRa2_l13_T.mk (vLo_l29_T.a3 v) false (vLo_l29_T.a2 v) (vLo_l29_T.a6 v) (vLo_l29_T.a7 v) (vLo_l29_T.a8 v) (vLo_l29_T.a9 v))], [(X.e (0 : Nat), !vLo_l29_s0 v, vLo_l29_T.mk (vLo_l29_T.a0 v) (vLo_l29_T.a1 v) (vLo_l29_T.a2 v) (vLo_l29_T.a3 v) (vLo_l29_T.a4 v) (vLo_l29_T.a5 v) (vLo_l29_T.a6 v) (vLo_l29_T.a7 v) (vLo_l29_T.a8 v) (vLo_l29_T.a9 v)), (X.r, vLo_l29_s0 v && vLo_l29_s1 v, vLo_l29_T.mk ((0 : Int)) (false) (vLo_l29_T.a2 v) (vLo_l29_T.a3 v) (vLo_l29_T.a4 v) (vLo_l29_T.a5 v) (vLo_l29_s2 v) (vLo_l29_s3 v) (vLo_l29_s4 v) (vLo_l29_T.a9 v)), (X.n, vLo_l29_s0 v && !vLo_l29_s1 v, vLo_l29_T.mk (vLo_l29_T.a0 v) (vLo_l29_T.a1 v) (vLo_l29_T.a2 v) (vLo_l29_T.a3 v) (vLo_l29_T.a4 v) (IntKind.wrap IntKind.i64 (vLo_l29_T.a5 v + (1 : Int))) (vLo_l29_s2 v) (vLo_l29_s3 v) (vLo_l29_s4 v) (vLo_l29_T.a9 v))])
def vLo_l29_rd : HS → Option vLo_l29_T := rdS [.i, .b, .i, .i, .i, .i, .r, .b, .i, .r] (fun l => vLo_l29_T.mk (gI l 0) (gB l 1) (gI l 2) (gI l 3) (gI l 4) (gI l 5) (gR l 6) (gB l 7) (gI l 8) (gR l 9)) vLo_l29_hd
def vLo_l29_sum : V.Sum := loopS vLo_l29_hd vLo_l29_rd vLo_l29_st 18446744073709551616 [X.e (0 : Nat), X.r] [0, 1, 2, 6, 7, 8, 9, 21, 22, 23, 28] [0, 6, 7, 8, 9, 21, 22] [0] [] [] 0
theorem vLo_l29_E : ∀ v, bodyF Try.prog tabUb2 (ntOf Try.prog 149) [0, 1, 2, 6, 7, 8, 9, 21, 22, 23, 28] [0, 6, 7, 8, 9, 21, 22] [] 2000 [0] [] vLo_l29_code 116 (vLo_l29_hd v) = some ((vLo_l29_st v).1, (vLo_l29_st v).2.map fun q => (q.1, q.2.1, vLo_l29_hd q.2.2)) := fun v => by kernel_rfl
theorem vLo_l29_R : ∀ h v, vLo_l29_rd h = some v → h = vLo_l29_hd v := rdS_ok fun l => by kernel_rfl
set_option maxRecDepth 100000 in
theorem vLo_l29_sok : SumOK Try.prog (ntOf Try.prog 149) [0, 1, 2, 6, 7, 8, 9, 21, 22, 23, 28] (.block (blockOf (subs (bodyOf Try.prog 149) 1 29)) (.loop vLo_l29_code)) vLo_l29_sum := loopS_ok tabUb2_ok follows vLo_l29_E vLo_l29_R (fun v => by kernel_rfl) (LOK_of _ _ (LOK_nil'))
def vLo_s0 (x1 x2 : Int) (g : List (List Int)) (gn : Bool) (st : Int) (p : List (List Int)) : Option (X × vLo_l29_T) := lrun vLo_l29_st (18446744073709551616 : Nat) (vLo_l29_T.mk (0 : Int) false (pBo_0 x1 p) (pBo_1 x1 p) x2 (0 : Int) g gn st p)
def vLo_0 (x1 x2 : Int) (g : List (List Int)) (gn : Bool) (st : Int) (p : List (List Int)) : Int := bif isX X.r (vLo_s0 x1 x2 g gn st p) then vLo_l29_T.a0 (V.valOf (vLo_s0 x1 x2 g gn st p)) else vLo_l29_T.a3 (V.valOf (vLo_s0 x1 x2 g gn st p))
def vLo_1 (x1 x2 : Int) (g : List (List Int)) (gn : Bool) (st : Int) (p : List (List Int)) : Bool := bif isX X.r (vLo_s0 x1 x2 g gn st p) then vLo_l29_T.a1 (V.valOf (vLo_s0 x1 x2 g gn st p)) else true
def vLo_2 (x1 x2 : Int) (g : List (List Int)) (gn : Bool) (st : Int) (p : List (List Int)) : List (List Int) := bif isX X.r (vLo_s0 x1 x2 g gn st p) then vLo_l29_T.a6 (V.valOf (vLo_s0 x1 x2 g gn st p)) else vLo_l29_T.a6 (V.valOf (vLo_s0 x1 x2 g gn st p))
def vLo_3 (x1 x2 : Int) (g : List (List Int)) (gn : Bool) (st : Int) (p : List (List Int)) : Bool := bif isX X.r (vLo_s0 x1 x2 g gn st p) then vLo_l29_T.a7 (V.valOf (vLo_s0 x1 x2 g gn st p)) else vLo_l29_T.a7 (V.valOf (vLo_s0 x1 x2 g gn st p))
def vLo_4 (x1 x2 : Int) (g : List (List Int)) (gn : Bool) (st : Int) (p : List (List Int)) : Int := bif isX X.r (vLo_s0 x1 x2 g gn st p) then vLo_l29_T.a8 (V.valOf (vLo_s0 x1 x2 g gn st p)) else vLo_l29_T.a8 (V.valOf (vLo_s0 x1 x2 g gn st p))
def vLo_o (x1 x2 : Int) (g : List (List Int)) (gn : Bool) (st : Int) (r0 : Bool) (p : List (List Int)) : List Prop := [pBo_s0 x1 = false → pBo_s1 x1 p = false → (0 : Int) ≤ x1 ∧ x1 < Int.ofNat (List.length p), (!pBo_s2 x1 p) = true → (0 : Int) ≤ x1 ∧ x1 < Int.ofNat (List.length p), lok vLo_l29_st (18446744073709551616 : Nat) (vLo_l29_T.mk (0 : Int) false (pBo_0 x1 p) (pBo_1 x1 p) x2 (0 : Int) g gn st p)]
theorem vLo_p (x1 x2 : Int) (g : List (List Int)) (gn : Bool) (st : Int) (r0 : Bool) (p : List (List Int)) : evG Try.prog tabUb2 2000 149 [0, 1, 2, 6, 7, 8, 9, 21, 22, 23, 28] [(29, vLo_l29_sum)] [0] [.a (.ptr 0 0), .a (.int true .i64 x1), .a (.int true .i64 x2)] (padBs [⟨⟨0, 51, false, some ⟨0, [.int .i64, .int .i64, .int .i64, .int .i64], g, some 12⟩⟩, [some (.bool true gn), some (.int true .i64 st), some (.vec 1 0 5)]⟩, ⟨⟨0, 0, r0, some ⟨0, [.int .u8, .int .u8, .int .u8, .int .u8, .int .i16], p, none⟩⟩, []⟩]) = some (vLo_o x1 x2 g gn st r0 p, LV.t [LV.a (At.int true IntKind.i64 (vLo_0 x1 x2 g gn st p)), LV.a (At.bool true (vLo_1 x1 x2 g gn st p))], padOut [some (BC.mk (Hd.mk (nat_lit 0) (nat_lit 51) false (some (Rw.mk (nat_lit 0) [Kd.int IntKind.i64, Kd.int IntKind.i64, Kd.int IntKind.i64, Kd.int IntKind.i64] (vLo_2 x1 x2 g gn st p) (some (nat_lit 12))))) [some (At.bool true (vLo_3 x1 x2 g gn st p)), some (At.int true IntKind.i64 (vLo_4 x1 x2 g gn st p)), some (At.vec (nat_lit 1) (nat_lit 0) (nat_lit 5))]), none]) := by kernel_rfl
def vLo_c0 : Con
  | [.a (.ptr 0 0), .a (.int true .i64 x1), .a (.int true .i64 x2)], [⟨⟨0, 51, false, some ⟨0, [.int .i64, .int .i64, .int .i64, .int .i64], g, some 12⟩⟩, [some (.bool true gn), some (.int true .i64 st), some (.vec 1 0 5)]⟩, ⟨⟨0, 0, r0, some ⟨0, [.int .u8, .int .u8, .int .u8, .int .u8, .int .i16], p, none⟩⟩, []⟩] => some (vLo_o x1 x2 g gn st r0 p, LV.t [LV.a (At.int true IntKind.i64 (vLo_0 x1 x2 g gn st p)), LV.a (At.bool true (vLo_1 x1 x2 g gn st p))], [some (BC.mk (Hd.mk (nat_lit 0) (nat_lit 51) false (some (Rw.mk (nat_lit 0) [Kd.int IntKind.i64, Kd.int IntKind.i64, Kd.int IntKind.i64, Kd.int IntKind.i64] (vLo_2 x1 x2 g gn st p) (some (nat_lit 12))))) [some (At.bool true (vLo_3 x1 x2 g gn st p)), some (At.int true IntKind.i64 (vLo_4 x1 x2 g gn st p)), some (At.vec (nat_lit 1) (nat_lit 0) (nat_lit 5))]), none])
  | _, _ => none
def vLo_c : Con := packC vLo_c0
theorem vLo_ok : ConOK Try.prog 149 (normC vLo_c) := normC_ok (packC_ok (by
  intro args bs obs lv out h ho φ vs w may ha hM
  unfold vLo_c0 at h
  split at h
  · simp only [Option.some.injEq, Prod.mk.injEq] at h
    obtain ⟨rfl, rfl, rfl⟩ := h
    rename_i x1 x2 g gn st r0 p
    exact evG_okL' tabUb2_ok follows (LOK_cons (show subs (bodyOf Try.prog 149) 1 29 = [.block (blockOf (subs (bodyOf Try.prog 149) 1 29)) (.loop vLo_l29_code)] from by kernel_rfl) vLo_l29_sok (LOK_nil')) _ _ _ _ _ (vLo_p x1 x2 g gn st r0 p) ho φ vs w may ha hM
  · cases h))
theorem vLo_en : Enters Try.prog 149 := fun args => by kernel_rfl
-- 2605 1698 18 ms

def tabUb3 : Tab := (149, normC vLo_c) :: tabUb2
theorem tabUb3_ok : TOK Try.prog tabUb3 := TOK.cons vLo_en vLo_ok (tabUb2_ok)

end Go.Proofs.Ytcdejlgophpdjaa
end

section
namespace Go.Proofs.Ytcdejlgophpdjaa
open Go Go.RowKit Go.Proofs.Ytcdejlgophpdjaa.V
set_option linter.unusedVariables false

/-! (*azulejo/vm.machine).step -/
def vSt4_s0 (x1 : Int) (p : List (List Int)) : Bool := rget p (Int.toNat x1) (0 : Nat) == (0 : Int)
def vSt4_s1 (x1 : Int) (p : List (List Int)) : Bool := rget p (Int.toNat x1) (0 : Nat) == (1 : Int)
def vSt4_s2 (x1 : Int) (p : List (List Int)) : Bool := rget p (Int.toNat x1) (0 : Nat) == (2 : Int)
def vSt4_s3 (x1 : Int) (p : List (List Int)) : Bool := rget p (Int.toNat x1) (0 : Nat) == (3 : Int)
def vSt4_s4 (x1 : Int) (p : List (List Int)) : Bool := rget p (Int.toNat x1) (0 : Nat) == (4 : Int)
def vSt4_s5 (x1 : Int) (p : List (List Int)) : Bool := rget p (Int.toNat x1) (0 : Nat) == (5 : Int)
def vSt4_s6 (x1 : Int) (p : List (List Int)) : Bool := rget p (Int.toNat x1) (0 : Nat) == (6 : Int)
def vSt4_s7 (x1 : Int) (p : List (List Int)) : Bool := rget p (Int.toNat x1) (0 : Nat) == (7 : Int)
def vSt4_s8 (x1 : Int) (p : List (List Int)) : Bool := rget p (Int.toNat x1) (0 : Nat) == (8 : Int)
def vSt4_s9 (x1 : Int) (p : List (List Int)) : Bool := rget p (Int.toNat x1) (0 : Nat) == (9 : Int)
def vSt4_s10 (x1 : Int) (p : List (List Int)) : Bool := rget p (Int.toNat x1) (0 : Nat) == (10 : Int)
def vSt4_s11 (x1 : Int) (p : List (List Int)) : Bool := rget p (Int.toNat x1) (0 : Nat) == (11 : Int)
def vSt4_s12 (x1 : Int) (g p : List (List Int)) : Int := rget g (Int.toNat (rget p (Int.toNat x1) (2 : Nat))) (0 : Nat)
def vSt4_s13 (p : List (List Int)) : List (List Int) := Rw.l (Rw.mk (0 : Nat) [Kd.int IntKind.u8, Kd.int IntKind.u8, Kd.int IntKind.u8, Kd.int IntKind.u8, Kd.int IntKind.i16] p none)
def vSt4_s14 : Nat := (0 : Nat) + (1 : Nat) + (1 : Nat)
def vSt4_s15 (x1 : Int) (g p : List (List Int)) : Bool := decide (vSt4_s12 x1 g p < (0 : Int))
def vSt4_s16 (x1 : Int) (p : List (List Int)) : Bool := rget p (Int.toNat x1) (0 : Nat) == (12 : Int)
def vSt4_s17 (x1 : Int) (p : List (List Int)) : Bool := rget p (Int.toNat x1) (0 : Nat) == (13 : Int)
def vSt4_s18 (x1 : Int) (g p : List (List Int)) : Bool := bif vSt4_s0 x1 p then true else !vSt4_s1 x1 p && (!vSt4_s2 x1 p && (!vSt4_s3 x1 p && (!vSt4_s4 x1 p && (!vSt4_s5 x1 p && (!vSt4_s6 x1 p && (!vSt4_s7 x1 p && (!vSt4_s8 x1 p && (!vSt4_s9 x1 p && (!vSt4_s10 x1 p && bif vSt4_s11 x1 p then vSt4_s15 x1 g p else bif vSt4_s16 x1 p then true else vSt4_s17 x1 p && vSt4_s15 x1 g p)))))))))
def vSt4_s19 (x1 : Int) : Int := IntKind.wrap IntKind.i64 (x1 + (1 : Int))
def vSt4_s20 (st : Int) : Int := IntKind.wrap IntKind.i64 (st + (1 : Int))
def vSt4_0 (x1 : Int) (g : List (List Int)) (gn : Bool) (st : Int) (p : List (List Int)) : Int := bif vSt4_s18 x1 g p then bif vSt4_s0 x1 p then (0 : Int) else bif vSt4_s11 x1 p then IntKind.wrap IntKind.i64 (vSt4_s19 x1 + IntKind.wrap IntKind.i64 (rget p (Int.toNat x1) (4 : Nat))) else bif vSt4_s16 x1 p then vLo_0 x1 (IntKind.wrap IntKind.i64 (rget p (Int.toNat x1) (4 : Nat))) g gn (vSt4_s20 st) p else (0 : Int) else vSt4_s19 x1
def vSt4_1 (x1 : Int) (g : List (List Int)) (gn : Bool) (st : Int) (p : List (List Int)) : Bool := bif vSt4_s18 x1 g p then bif vSt4_s0 x1 p then false else bif vSt4_s11 x1 p then true else bif vSt4_s16 x1 p then vLo_1 x1 (IntKind.wrap IntKind.i64 (rget p (Int.toNat x1) (4 : Nat))) g gn (vSt4_s20 st) p else false else true
def vSt4_s21 (x1 : Int) (g p : List (List Int)) : Int := rget g (Int.toNat (rget p (Int.toNat x1) (2 : Nat))) (1 : Nat)
def vSt4_s22 (x1 : Int) (g p : List (List Int)) : Int := rget g (Int.toNat (rget p (Int.toNat x1) (2 : Nat))) (2 : Nat)
def vSt4_s23 (x1 : Int) (g p : List (List Int)) : Int := rget g (Int.toNat (rget p (Int.toNat x1) (2 : Nat))) (3 : Nat)
def vSt4_s24 (x1 : Int) (g p : List (List Int)) : List Int := [vSt4_s12 x1 g p, vSt4_s21 x1 g p, vSt4_s22 x1 g p, vSt4_s23 x1 g p]
def vSt4_s25 (x1 : Int) (p : List (List Int)) : Int := IntKind.wrap IntKind.i64 (IntKind.wrap IntKind.i64 (rget p (Int.toNat x1) (4 : Nat)) * (2 : Int) ^ min (Int.toNat (8 : Int)) (IntKind.bits IntKind.i64))
def vSt4_s26 (x1 : Int) (p : List (List Int)) : Bool := decide (rget p (Int.toNat x1) (3 : Nat) < (12 : Int))
def vSt4_s27 (x1 : Int) (g p : List (List Int)) : Int := bif vSt4_s26 x1 p then rget g (Int.toNat (rget p (Int.toNat x1) (3 : Nat))) (0 : Nat) else (0 : Int)
def vSt4_s28 (x1 : Int) (g p : List (List Int)) : Int := bif vSt4_s26 x1 p then rget g (Int.toNat (rget p (Int.toNat x1) (3 : Nat))) (1 : Nat) else (0 : Int)
def vSt4_s29 (x1 : Int) (g p : List (List Int)) : Int := bif vSt4_s26 x1 p then rget g (Int.toNat (rget p (Int.toNat x1) (3 : Nat))) (2 : Nat) else (0 : Int)
def vSt4_s30 (x1 : Int) (g p : List (List Int)) : Int := bif vSt4_s26 x1 p then rget g (Int.toNat (rget p (Int.toNat x1) (3 : Nat))) (3 : Nat) else (0 : Int)
def vSt4_s31 (x1 : Int) (g p : List (List Int)) : Int := vDo_0 (vSt4_s12 x1 g p) (vSt4_s21 x1 g p) (vSt4_s22 x1 g p) (vSt4_s23 x1 g p) (vSt4_s27 x1 g p) (vSt4_s28 x1 g p) (vSt4_s29 x1 g p) (vSt4_s30 x1 g p)
def vSt4_s32 : Int := Int.ofNat ((2 : Nat) ^ IntKind.bits IntKind.u8)
def vSt4_s33 (x1 : Int) (p : List (List Int)) : Int := IntKind.wrap IntKind.u8 (Int.ofNat (Int.toNat (rget p (Int.toNat x1) (3 : Nat) % vSt4_s32) &&& Int.toNat ((3 : Int) % vSt4_s32)))
def vSt4_s34 (x1 : Int) (g p : List (List Int)) : Int := List.getD (vSt4_s24 x1 g p) (Int.toNat (vSt4_s33 x1 p)) (0 : Int)
def vSt4_s35 : Int := Int.ofNat ((2 : Nat) ^ IntKind.bits IntKind.i16)
def vSt4_s36 (x1 : Int) (p : List (List Int)) : Int := IntKind.wrap IntKind.i16 (Int.ofNat (Int.toNat (rget p (Int.toNat x1) (4 : Nat) % vSt4_s35) &&& Int.toNat ((3 : Int) % vSt4_s35)))
def vSt4_s37 (x1 : Int) (p : List (List Int)) : Bool := rget p (Int.toNat x1) (0 : Nat) == (14 : Int)
def vSt4_s38 (x1 : Int) (p : List (List Int)) : Int := IntKind.wrap IntKind.u8 (rget p (Int.toNat x1) (2 : Nat) + (1 : Int))
def vSt4_s39 (x1 : Int) (p : List (List Int)) : Int := IntKind.wrap IntKind.u8 (rget p (Int.toNat x1) (2 : Nat) + (2 : Int))
def vSt4_s40 (x1 : Int) (p : List (List Int)) : Int := IntKind.wrap IntKind.u8 (rget p (Int.toNat x1) (2 : Nat) + (3 : Int))
def vSt4_2 (x1 : Int) (g : List (List Int)) (gn : Bool) (st : Int) (p : List (List Int)) : List (List Int) := bif vSt4_s18 x1 g p then bif vSt4_s0 x1 p then g else bif vSt4_s11 x1 p then g else bif vSt4_s16 x1 p then vLo_2 x1 (IntKind.wrap IntKind.i64 (rget p (Int.toNat x1) (4 : Nat))) g gn (vSt4_s20 st) p else g else bif vSt4_s1 x1 p then List.set g (Int.toNat (rget p (Int.toNat x1) (1 : Nat))) (vSt4_s24 x1 g p) else bif vSt4_s2 x1 p then List.set g (Int.toNat (rget p (Int.toNat x1) (1 : Nat))) [vSt4_s25 x1 p, vSt4_s25 x1 p, vSt4_s25 x1 p, vSt4_s25 x1 p] else bif vSt4_s3 x1 p then List.set g (Int.toNat (rget p (Int.toNat x1) (1 : Nat))) [fAd_0 (vSt4_s12 x1 g p) (vSt4_s27 x1 g p), fAd_0 (vSt4_s21 x1 g p) (vSt4_s28 x1 g p), fAd_0 (vSt4_s22 x1 g p) (vSt4_s29 x1 g p), fAd_0 (vSt4_s23 x1 g p) (vSt4_s30 x1 g p)] else bif vSt4_s4 x1 p then List.set g (Int.toNat (rget p (Int.toNat x1) (1 : Nat))) [fSu_0 (vSt4_s12 x1 g p) (vSt4_s27 x1 g p), fSu_0 (vSt4_s21 x1 g p) (vSt4_s28 x1 g p), fSu_0 (vSt4_s22 x1 g p) (vSt4_s29 x1 g p), fSu_0 (vSt4_s23 x1 g p) (vSt4_s30 x1 g p)] else bif vSt4_s5 x1 p then List.set g (Int.toNat (rget p (Int.toNat x1) (1 : Nat))) [fMu_0 (vSt4_s12 x1 g p) (vSt4_s27 x1 g p), fMu_0 (vSt4_s21 x1 g p) (vSt4_s28 x1 g p), fMu_0 (vSt4_s22 x1 g p) (vSt4_s29 x1 g p), fMu_0 (vSt4_s23 x1 g p) (vSt4_s30 x1 g p)] else bif vSt4_s6 x1 p then List.set g (Int.toNat (rget p (Int.toNat x1) (1 : Nat))) [vMi1_0 (vSt4_s12 x1 g p) (vSt4_s27 x1 g p), vMi1_0 (vSt4_s21 x1 g p) (vSt4_s28 x1 g p), vMi1_0 (vSt4_s22 x1 g p) (vSt4_s29 x1 g p), vMi1_0 (vSt4_s23 x1 g p) (vSt4_s30 x1 g p)] else bif vSt4_s7 x1 p then List.set g (Int.toNat (rget p (Int.toNat x1) (1 : Nat))) [vMa1_0 (vSt4_s12 x1 g p) (vSt4_s27 x1 g p), vMa1_0 (vSt4_s21 x1 g p) (vSt4_s28 x1 g p), vMa1_0 (vSt4_s22 x1 g p) (vSt4_s29 x1 g p), vMa1_0 (vSt4_s23 x1 g p) (vSt4_s30 x1 g p)] else bif vSt4_s8 x1 p then List.set g (Int.toNat (rget p (Int.toNat x1) (1 : Nat))) [vSt4_s31 x1 g p, vSt4_s31 x1 g p, vSt4_s31 x1 g p, vSt4_s31 x1 g p] else bif vSt4_s9 x1 p then List.set g (Int.toNat (rget p (Int.toNat x1) (1 : Nat))) [vSt4_s34 x1 g p, vSt4_s34 x1 g p, vSt4_s34 x1 g p, vSt4_s34 x1 g p] else bif vSt4_s10 x1 p then rset g (Int.toNat (rget p (Int.toNat x1) (1 : Nat))) ((0 : Nat) + Int.toNat (vSt4_s33 x1 p)) [List.getD (vSt4_s24 x1 g p) (Int.toNat (vSt4_s36 x1 p)) (0 : Int)] else bif vSt4_s11 x1 p then g else bif vSt4_s17 x1 p then g else bif vSt4_s37 x1 p then List.set g (Int.toNat (rget p (Int.toNat x1) (1 : Nat))) [vTi_0 (vSt4_s12 x1 g p) (vSt4_s21 x1 g p) (vSt4_s22 x1 g p) (vSt4_s23 x1 g p) (vSt4_s27 x1 g p) (vSt4_s28 x1 g p) (vSt4_s29 x1 g p) (vSt4_s30 x1 g p), vTi_1 (rget g (Int.toNat (vSt4_s38 x1 p)) (0 : Nat)) (rget g (Int.toNat (vSt4_s38 x1 p)) (1 : Nat)) (rget g (Int.toNat (vSt4_s38 x1 p)) (2 : Nat)) (rget g (Int.toNat (vSt4_s38 x1 p)) (3 : Nat)) (vSt4_s27 x1 g p) (vSt4_s28 x1 g p) (vSt4_s29 x1 g p) (vSt4_s30 x1 g p), vTi_2 (rget g (Int.toNat (vSt4_s39 x1 p)) (0 : Nat)) (rget g (Int.toNat (vSt4_s39 x1 p)) (1 : Nat)) (rget g (Int.toNat (vSt4_s39 x1 p)) (2 : Nat)) (rget g (Int.toNat (vSt4_s39 x1 p)) (3 : Nat)) (vSt4_s27 x1 g p) (vSt4_s28 x1 g p) (vSt4_s29 x1 g p) (vSt4_s30 x1 g p), vTi_3 (rget g (Int.toNat (vSt4_s40 x1 p)) (0 : Nat)) (rget g (Int.toNat (vSt4_s40 x1 p)) (1 : Nat)) (rget g (Int.toNat (vSt4_s40 x1 p)) (2 : Nat)) (rget g (Int.toNat (vSt4_s40 x1 p)) (3 : Nat)) (vSt4_s27 x1 g p) (vSt4_s28 x1 g p) (vSt4_s29 x1 g p) (vSt4_s30 x1 g p)] else g
def vSt4_3 (x1 : Int) (g : List (List Int)) (gn : Bool) (st : Int) (p : List (List Int)) : Bool := bif vSt4_s18 x1 g p then bif vSt4_s0 x1 p then gn else bif vSt4_s11 x1 p then gn else bif vSt4_s16 x1 p then vLo_3 x1 (IntKind.wrap IntKind.i64 (rget p (Int.toNat x1) (4 : Nat))) g gn (vSt4_s20 st) p else true else gn
def vSt4_4 (x1 : Int) (g : List (List Int)) (gn : Bool) (st : Int) (p : List (List Int)) : Int := bif vSt4_s18 x1 g p then bif vSt4_s0 x1 p then vSt4_s20 st else bif vSt4_s11 x1 p then vSt4_s20 st else bif vSt4_s16 x1 p then vLo_4 x1 (IntKind.wrap IntKind.i64 (rget p (Int.toNat x1) (4 : Nat))) g gn (vSt4_s20 st) p else vSt4_s20 st else vSt4_s20 st
def vSt4_o (x1 : Int) (g : List (List Int)) (gn : Bool) (st : Int) (r0 : Bool) (p : List (List Int)) : List Prop := [(0 : Int) ≤ x1 ∧ x1 < Int.ofNat (List.length p), (0 : Int) ≤ rget p (Int.toNat x1) (2 : Nat) ∧ rget p (Int.toNat x1) (2 : Nat) < Int.ofNat (12 : Nat), (0 : Int) ≤ rget p (Int.toNat x1) (1 : Nat) ∧ rget p (Int.toNat x1) (1 : Nat) < Int.ofNat (12 : Nat), vSt4_s26 x1 p = true → (0 : Int) ≤ rget p (Int.toNat x1) (3 : Nat) ∧ rget p (Int.toNat x1) (3 : Nat) < Int.ofNat (12 : Nat), vSt4_s0 x1 p = false → vSt4_s1 x1 p = false → vSt4_s2 x1 p = false → vSt4_s3 x1 p = false → vSt4_s4 x1 p = false → vSt4_s5 x1 p = false → vSt4_s6 x1 p = false → vSt4_s7 x1 p = false → vSt4_s8 x1 p = false → vSt4_s9 x1 p = true → (0 : Int) ≤ vSt4_s33 x1 p ∧ vSt4_s33 x1 p < Int.ofNat (4 : Nat), vSt4_s0 x1 p = false → vSt4_s1 x1 p = false → vSt4_s2 x1 p = false → vSt4_s3 x1 p = false → vSt4_s4 x1 p = false → vSt4_s5 x1 p = false → vSt4_s6 x1 p = false → vSt4_s7 x1 p = false → vSt4_s8 x1 p = false → vSt4_s9 x1 p = true → Int.toNat (vSt4_s33 x1 p) < (4 : Nat), vSt4_s0 x1 p = false → vSt4_s1 x1 p = false → vSt4_s2 x1 p = false → vSt4_s3 x1 p = false → vSt4_s4 x1 p = false → vSt4_s5 x1 p = false → vSt4_s6 x1 p = false → vSt4_s7 x1 p = false → vSt4_s8 x1 p = false → vSt4_s9 x1 p = false → vSt4_s10 x1 p = true → (0 : Int) ≤ vSt4_s36 x1 p ∧ vSt4_s36 x1 p < Int.ofNat (4 : Nat), vSt4_s0 x1 p = false → vSt4_s1 x1 p = false → vSt4_s2 x1 p = false → vSt4_s3 x1 p = false → vSt4_s4 x1 p = false → vSt4_s5 x1 p = false → vSt4_s6 x1 p = false → vSt4_s7 x1 p = false → vSt4_s8 x1 p = false → vSt4_s9 x1 p = false → vSt4_s10 x1 p = true → Int.toNat (vSt4_s36 x1 p) < (4 : Nat), vSt4_s0 x1 p = false → vSt4_s1 x1 p = false → vSt4_s2 x1 p = false → vSt4_s3 x1 p = false → vSt4_s4 x1 p = false → vSt4_s5 x1 p = false → vSt4_s6 x1 p = false → vSt4_s7 x1 p = false → vSt4_s8 x1 p = false → vSt4_s9 x1 p = false → vSt4_s10 x1 p = true → (0 : Int) ≤ vSt4_s33 x1 p ∧ vSt4_s33 x1 p < Int.ofNat (4 : Nat), vSt4_s0 x1 p = false → vSt4_s1 x1 p = false → vSt4_s2 x1 p = false → vSt4_s3 x1 p = false → vSt4_s4 x1 p = false → vSt4_s5 x1 p = false → vSt4_s6 x1 p = false → vSt4_s7 x1 p = false → vSt4_s8 x1 p = false → vSt4_s9 x1 p = false → vSt4_s10 x1 p = false → vSt4_s11 x1 p = false → vSt4_s16 x1 p = true → pBo_s0 x1 = false → pBo_s1 x1 p = false → (0 : Int) ≤ x1 ∧ x1 < Int.ofNat (List.length p), vSt4_s0 x1 p = false → vSt4_s1 x1 p = false → vSt4_s2 x1 p = false → vSt4_s3 x1 p = false → vSt4_s4 x1 p = false → vSt4_s5 x1 p = false → vSt4_s6 x1 p = false → vSt4_s7 x1 p = false → vSt4_s8 x1 p = false → vSt4_s9 x1 p = false → vSt4_s10 x1 p = false → vSt4_s11 x1 p = false → vSt4_s16 x1 p = true → (!pBo_s2 x1 p) = true → (0 : Int) ≤ x1 ∧ x1 < Int.ofNat (List.length p), vSt4_s0 x1 p = false → vSt4_s1 x1 p = false → vSt4_s2 x1 p = false → vSt4_s3 x1 p = false → vSt4_s4 x1 p = false → vSt4_s5 x1 p = false → vSt4_s6 x1 p = false → vSt4_s7 x1 p = false → vSt4_s8 x1 p = false → vSt4_s9 x1 p = false → vSt4_s10 x1 p = false → vSt4_s11 x1 p = false → vSt4_s16 x1 p = true → lok vLo_l29_st (18446744073709551616 : Nat) (vLo_l29_T.mk (0 : Int) false (pBo_0 x1 p) (pBo_1 x1 p) (IntKind.wrap IntKind.i64 (rget p (Int.toNat x1) (4 : Nat))) (0 : Int) g gn (vSt4_s20 st) p), vSt4_s0 x1 p = false → vSt4_s1 x1 p = false → vSt4_s2 x1 p = false → vSt4_s3 x1 p = false → vSt4_s4 x1 p = false → vSt4_s5 x1 p = false → vSt4_s6 x1 p = false → vSt4_s7 x1 p = false → vSt4_s8 x1 p = false → vSt4_s9 x1 p = false → vSt4_s10 x1 p = false → vSt4_s11 x1 p = false → vSt4_s16 x1 p = false → vSt4_s17 x1 p = false → vSt4_s37 x1 p = true → (0 : Int) ≤ vSt4_s38 x1 p ∧ vSt4_s38 x1 p < Int.ofNat (12 : Nat), vSt4_s0 x1 p = false → vSt4_s1 x1 p = false → vSt4_s2 x1 p = false → vSt4_s3 x1 p = false → vSt4_s4 x1 p = false → vSt4_s5 x1 p = false → vSt4_s6 x1 p = false → vSt4_s7 x1 p = false → vSt4_s8 x1 p = false → vSt4_s9 x1 p = false → vSt4_s10 x1 p = false → vSt4_s11 x1 p = false → vSt4_s16 x1 p = false → vSt4_s17 x1 p = false → vSt4_s37 x1 p = true → (0 : Int) ≤ vSt4_s39 x1 p ∧ vSt4_s39 x1 p < Int.ofNat (12 : Nat), vSt4_s0 x1 p = false → vSt4_s1 x1 p = false → vSt4_s2 x1 p = false → vSt4_s3 x1 p = false → vSt4_s4 x1 p = false → vSt4_s5 x1 p = false → vSt4_s6 x1 p = false → vSt4_s7 x1 p = false → vSt4_s8 x1 p = false → vSt4_s9 x1 p = false → vSt4_s10 x1 p = false → vSt4_s11 x1 p = false → vSt4_s16 x1 p = false → vSt4_s17 x1 p = false → vSt4_s37 x1 p = true → (0 : Int) ≤ vSt4_s40 x1 p ∧ vSt4_s40 x1 p < Int.ofNat (12 : Nat)]
theorem vSt4_p (x1 : Int) (g : List (List Int)) (gn : Bool) (st : Int) (r0 : Bool) (p : List (List Int)) : evG Try.prog tabUb3 2000 136 [0, 1, 4, 5, 6, 7, 8, 9, 43, 53, 54, 56, 61, 70, 77, 84, 91, 98, 105, 113, 123, 136, 140, 147, 157, 161, 166] [] [0] [.a (.ptr 0 0), .a (.int true .i64 x1)] (padBs [⟨⟨0, 51, false, some ⟨0, [.int .i64, .int .i64, .int .i64, .int .i64], g, some 12⟩⟩, [some (.bool true gn), some (.int true .i64 st), some (.vec 1 0 5)]⟩, ⟨⟨0, 0, r0, some ⟨0, [.int .u8, .int .u8, .int .u8, .int .u8, .int .i16], p, none⟩⟩, []⟩]) = some (vSt4_o x1 g gn st r0 p, LV.t [LV.a (At.int true IntKind.i64 (vSt4_0 x1 g gn st p)), LV.a (At.bool true (vSt4_1 x1 g gn st p))], padOut [some (BC.mk (Hd.mk (nat_lit 0) (nat_lit 51) false (some (Rw.mk (nat_lit 0) [Kd.int IntKind.i64, Kd.int IntKind.i64, Kd.int IntKind.i64, Kd.int IntKind.i64] (vSt4_2 x1 g gn st p) (some (nat_lit 12))))) [some (At.bool true (vSt4_3 x1 g gn st p)), some (At.int true IntKind.i64 (vSt4_4 x1 g gn st p)), some (At.vec (nat_lit 1) (nat_lit 0) (nat_lit 5))]), none]) := by kernel_rfl
def vSt4_c0 : Con
  | [.a (.ptr 0 0), .a (.int true .i64 x1)], [⟨⟨0, 51, false, some ⟨0, [.int .i64, .int .i64, .int .i64, .int .i64], g, some 12⟩⟩, [some (.bool true gn), some (.int true .i64 st), some (.vec 1 0 5)]⟩, ⟨⟨0, 0, r0, some ⟨0, [.int .u8, .int .u8, .int .u8, .int .u8, .int .i16], p, none⟩⟩, []⟩] => some (vSt4_o x1 g gn st r0 p, LV.t [LV.a (At.int true IntKind.i64 (vSt4_0 x1 g gn st p)), LV.a (At.bool true (vSt4_1 x1 g gn st p))], [some (BC.mk (Hd.mk (nat_lit 0) (nat_lit 51) false (some (Rw.mk (nat_lit 0) [Kd.int IntKind.i64, Kd.int IntKind.i64, Kd.int IntKind.i64, Kd.int IntKind.i64] (vSt4_2 x1 g gn st p) (some (nat_lit 12))))) [some (At.bool true (vSt4_3 x1 g gn st p)), some (At.int true IntKind.i64 (vSt4_4 x1 g gn st p)), some (At.vec (nat_lit 1) (nat_lit 0) (nat_lit 5))]), none])
  | _, _ => none
def vSt4_c : Con := packC vSt4_c0
theorem vSt4_ok : ConOK Try.prog 136 (normC vSt4_c) := normC_ok (packC_ok (by
  intro args bs obs lv out h ho φ vs w may ha hM
  unfold vSt4_c0 at h
  split at h
  · simp only [Option.some.injEq, Prod.mk.injEq] at h
    obtain ⟨rfl, rfl, rfl⟩ := h
    rename_i x1 g gn st r0 p
    exact evG_ok tabUb3_ok follows _ _ _ _ _ (vSt4_p x1 g gn st r0 p) ho φ vs w may ha hM
  · cases h))
theorem vSt4_en : Enters Try.prog 136 := fun args => by kernel_rfl
-- 4010 10328 125 ms

def tabUb4 : Tab := (136, normC vSt4_c) :: tabUb3
theorem tabUb4_ok : TOK Try.prog tabUb4 := TOK.cons vSt4_en vSt4_ok (tabUb3_ok)

end Go.Proofs.Ytcdejlgophpdjaa
end

section
namespace Go.Proofs.Ytcdejlgophpdjaa
open Go Go.RowKit Go.Proofs.Ytcdejlgophpdjaa.V
set_option linter.unusedVariables false

/-! (*azulejo/vm.machine).range_ -/
noncomputable def vRa5_l13_code : Go.Code := loopOf (subs (bodyOf Try.prog 127) 1 13)
structure vRa5_l13_T where
  a0 : Int
  a1 : Bool
  a2 : Int
  a3 : List (List Int)
  a4 : Bool
  a5 : Int
  a6 : List (List Int)
  deriving Inhabited
def vRa5_l13_hd0 (v : vRa5_l13_T) : HS := HS.mk [(nat_lit 0, LV.a (At.ptr (nat_lit 0) (nat_lit 0))), (nat_lit 2, LV.a (At.int true IntKind.i64 (vRa5_l13_T.a0 v))), (nat_lit 6, LV.a (At.bool true (vRa5_l13_T.a1 v))), (nat_lit 7, LV.a (At.int true IntKind.i64 (vRa5_l13_T.a2 v)))] [BC.mk (Hd.mk (nat_lit 0) (nat_lit 51) false (some (Rw.mk (nat_lit 0) [Kd.int IntKind.i64, Kd.int IntKind.i64, Kd.int IntKind.i64, Kd.int IntKind.i64] (vRa5_l13_T.a3 v) (some (nat_lit 12))))) [some (At.bool true (vRa5_l13_T.a4 v)), some (At.int true IntKind.i64 (vRa5_l13_T.a5 v)), some (At.vec (nat_lit 1) (nat_lit 0) (nat_lit 5))], BC.mk (Hd.mk (nat_lit 0) (nat_lit 0) true (some (Rw.mk (nat_lit 0) [Kd.int IntKind.u8, Kd.int IntKind.u8, Kd.int IntKind.u8, Kd.int IntKind.u8, Kd.int IntKind.i16] (vRa5_l13_T.a6 v) none))) []]
def vRa5_l13_hd (v : vRa5_l13_T) : HS := padH (vRa5_l13_hd0 v)
def vRa5_l13_s0 (v : vRa5_l13_T) : Bool := decide (vRa5_l13_T.a2 v < vRa5_l13_T.a0 v)
def vRa5_l13_s1 (v : vRa5_l13_T) : Bool := !vSt4_1 (vRa5_l13_T.a2 v) (vRa5_l13_T.a3 v) (vRa5_l13_T.a4 v) (vRa5_l13_T.a5 v) (vRa5_l13_T.a6 v)
def vRa5_l13_st (v : vRa5_l13_T) : List Prop × List (X × Bool × vRa5_l13_T) := ([vRa5_l13_s0 v = true → (0 : Int) ≤ vRa5_l13_T.a2 v ∧ vRa5_l13_T.a2 v < Int.ofNat (List.length (vRa5_l13_T.a6 v)), vRa5_l13_s0 v = true → (0 : Int) ≤ rget (vRa5_l13_T.a6 v) (Int.toNat (vRa5_l13_T.a2 v)) (2 : Nat) ∧ rget (vRa5_l13_T.a6 v) (Int.toNat (vRa5_l13_T.a2 v)) (2 : Nat) < Int.ofNat (12 : Nat), vRa5_l13_s0 v = true → (0 : Int) ≤ rget (vRa5_l13_T.a6 v) (Int.toNat (vRa5_l13_T.a2 v)) (1 : Nat) ∧ rget (vRa5_l13_T.a6 v) (Int.toNat (vRa5_l13_T.a2 v)) (1 : Nat) < Int.ofNat (12 : Nat), vRa5_l13_s0 v = true → vSt4_s26 (vRa5_l13_T.a2 v) (vRa5_l13_T.a6 v) = true → (0 : Int) ≤ rget (vRa5_l13_T.a6 v) (Int.toNat (vRa5_l13_T.a2 v)) (3 : Nat) ∧ rget (vRa5_l13_T.a6 v) (Int.toNat (vRa5_l13_T.a2 v)) (3 : Nat) < Int.ofNat (12 : Nat), vRa5_l13_s0 v = true → vSt4_s0 (vRa5_l13_T.a2 v) (vRa5_l13_T.a6 v) = false → vSt4_s1 (vRa5_l13_T.a2 v) (vRa5_l13_T.a6 v) = false → vSt4_s2 (vRa5_l13_T.a2 v) (vRa5_l13_T.a6 v) = false → vSt4_s3 (vRa5_l13_T.a2 v) (vRa5_l13_T.a6 v) = false → vSt4_s4 (vRa5_l13_T.a2 v) (vRa5_l13_T.a6 v) = false → vSt4_s5 (vRa5_l13_T.a2 v) (vRa5_l13_T.a6 v) = false → vSt4_s6 (vRa5_l13_T.a2 v) (vRa5_l13_T.a6 v) = false → vSt4_s7 (vRa5_l13_T.a2 v) (vRa5_l13_T.a6 v) = false → vSt4_s8 (vRa5_l13_T.a2 v) (vRa5_l13_T.a6 v) = false → vSt4_s9 (vRa5_l13_T.a2 v) (vRa5_l13_T.a6 v) = true → (0 : Int) ≤ vSt4_s33 (vRa5_l13_T.a2 v) (vRa5_l13_T.a6 v) ∧ vSt4_s33 (vRa5_l13_T.a2 v) (vRa5_l13_T.a6 v) < Int.ofNat (4 : Nat), vRa5_l13_s0 v = true → vSt4_s0 (vRa5_l13_T.a2 v) (vRa5_l13_T.a6 v) = false → vSt4_s1 (vRa5_l13_T.a2 v) (vRa5_l13_T.a6 v) = false → vSt4_s2 (vRa5_l13_T.a2 v) (vRa5_l13_T.a6 v) = false → vSt4_s3 (vRa5_l13_T.a2 v) (vRa5_l13_T.a6 v) = false → vSt4_s4 (vRa5_l13_T.a2 v) (vRa5_l13_T.a6 v) = false → vSt4_s5 (vRa5_l13_T.a2 v) (vRa5_l13_T.a6 v) = false → vSt4_s6 (vRa5_l13_T.a2 v) (vRa5_l13_T.a6 v) = false → vSt4_s7 (vRa5_l13_T.a2 v) (vRa5_l13_T.a6 v) = false → vSt4_s8 (vRa5_l13_T.a2 v) (vRa5_l13_T.a6 v) = false → vSt4_s9 (vRa5_l13_T.a2 v) (vRa5_l13_T.a6 v) = true → Int.toNat (vSt4_s33 (vRa5_l13_T.a2 v) (vRa5_l13_T.a6 v)) < (4 : Nat), vRa5_l13_s0 v = true → vSt4_s0 (vRa5_l13_T.a2 v) (vRa5_l13_T.a6 v) = false → vSt4_s1 (vRa5_l13_T.a2 v) (vRa5_l13_T.a6 v) = false → vSt4_s2 (vRa5_l13_T.a2 v) (vRa5_l13_T.a6 v) = false → vSt4_s3 (vRa5_l13_T.a2 v) (vRa5_l13_T.a6 v) = false → vSt4_s4 (vRa5_l13_T.a2 v) (vRa5_l13_T.a6 v) = false → vSt4_s5 (vRa5_l13_T.a2 v) (vRa5_l13_T.a6 v) = false → vSt4_s6 (vRa5_l13_T.a2 v) (vRa5_l13_T.a6 v) = false → vSt4_s7 (vRa5_l13_T.a2 v) (vRa5_l13_T.a6 v) = false → vSt4_s8 (vRa5_l13_T.a2 v) (vRa5_l13_T.a6 v) = false → vSt4_s9 (vRa5_l13_T.a2 v) (vRa5_l13_T.a6 v) = false → vSt4_s10 (vRa5_l13_T.a2 v) (vRa5_l13_T.a6 v) = true → (0 : Int) ≤ vSt4_s36 (vRa5_l13_T.a2 v) (vRa5_l13_T.a6 v) ∧ vSt4_s36 (vRa5_l13_T.a2 v) (vRa5_l13_T.a6 v) < Int.ofNat (4 : Nat), vRa5_l13_s0 v = true → vSt4_s0 (vRa5_l13_T.a2 v) (vRa5_l13_T.a6 v) = false → vSt4_s1 (vRa5_l13_T.a2 v) (vRa5_l13_T.a6 v) = false → vSt4_s2 (vRa5_l13_T.a2 v) (vRa5_l13_T.a6 v) = false → vSt4_s3 (vRa5_l13_T.a2 v) (vRa5_l13_T.a6 v) = false → vSt4_s4 (vRa5_l13_T.a2 v) (vRa5_l13_T.a6 v) = false → vSt4_s5 (vRa5_l13_T.a2 v) (vRa5_l13_T.a6 v) = false → vSt4_s6 (vRa5_l13_T.a2 v) (vRa5_l13_T.a6 v) = false → vSt4_s7 (vRa5_l13_T.a2 v) (vRa5_l13_T.a6 v) = false → vSt4_s8 (vRa5_l13_T.a2 v) (vRa5_l13_T.a6 v) = false → vSt4_s9 (vRa5_l13_T.a2 v) (vRa5_l13_T.a6 v) = false → vSt4_s10 (vRa5_l13_T.a2 v) (vRa5_l13_T.a6 v) = true → Int.toNat (vSt4_s36 (vRa5_l13_T.a2 v) (vRa5_l13_T.a6 v)) < (4 : Nat), vRa5_l13_s0 v = true → vSt4_s0 (vRa5_l13_T.a2 v) (vRa5_l13_T.a6 v) = false → vSt4_s1 (vRa5_l13_T.a2 v) (vRa5_l13_T.a6 v) = false → vSt4_s2 (vRa5_l13_T.a2 v) (vRa5_l13_T.a6 v) = false → vSt4_s3 (vRa5_l13_T.a2 v) (vRa5_l13_T.a6 v) = false → vSt4_s4 (vRa5_l13_T.a2 v) (vRa5_l13_T.a6 v) = false → vSt4_s5 (vRa5_l13_T.a2 v) (vRa5_l13_T.a6 v) = false → vSt4_s6 (vRa5_l13_T.a2 v) (vRa5_l13_T.a6 v) = false → vSt4_s7 (vRa5_l13_T.a2 v) (vRa5_l13_T.a6 v) = false → vSt4_s8 (vRa5_l13_T.a2 v) (vRa5_l13_T.a6 v) = false → vSt4_s9 (vRa5_l13_T.a2 v) (vRa5_l13_T.a6 v) = false → vSt4_s10 (vRa5_l13_T.a2 v) (vRa5_l13_T.a6 v) = true → (0 : Int) ≤ vSt4_s33 (vRa5_l13_T.a2 v) (vRa5_l13_T.a6 v) ∧ vSt4_s33 (vRa5_l13_T.a2 v) (vRa5_l13_T.a6 v) < Int.ofNat (4 : Nat), vRa5_l13_s0 v = true → vSt4_s0 (vRa5_l13_T.a2 v) (vRa5_l13_T.a6 v) = false → vSt4_s1 (vRa5_l13_T.a2 v) (vRa5_l13_T.a6 v) = false → vSt4_s2 (vRa5_l13_T.a2 v) (vRa5_l13_T.a6 v) = false → vSt4_s3 (vRa5_l13_T.a2 v) (vRa5_l13_T.a6 v) = false → vSt4_s4 (vRa5_l13_T.a2 v) (vRa5_l13_T.a6 v) = false → vSt4_s5 (vRa5_l13_T.a2 v) (vRa5_l13_T.a6 v) = false → vSt4_s6 (vRa5_l13_T.a2 v) (vRa5_l13_T.a6 v) = false → vSt4_s7 (vRa5_l13_T.a2 v) (vRa5_l13_T.a6 v) = false → vSt4_s8 (vRa5_l13_T.a2 v) (vRa5_l13_T.a6 v) = false → vSt4_s9 (vRa5_l13_T.a2 v) (vRa5_l13_T.a6 v) = false → vSt4_s10 (vRa5_l13_T.a2 v) (vRa5_l13_T.a6 v) = false → vSt4_s11 (vRa5_l13_T.a2 v) (vRa5_l13_T.a6 v) = false → vSt4_s16 (vRa5_l13_T.a2 v) (vRa5_l13_T.a6 v) = true → pBo_s0 (vRa5_l13_T.a2 v) = false → pBo_s1 (vRa5_l13_T.a2 v) (vRa5_l13_T.a6 v) = false → (0 : Int) ≤ vRa5_l13_T.a2 v ∧ vRa5_l13_T.a2 v < Int.ofNat (List.length (vRa5_l13_T.a6 v)), vRa5_l13_s0 v = true → vSt4_s0 (vRa5_l13_T.a2 v) (vRa5_l13_T.a6 v) = false → vSt4_s1 (vRa5_l13_T.a2 v) (vRa5_l13_T.a6 v) = false → vSt4_s2 (vRa5_l13_T.a2 v) (vRa5_l13_T.a6 v) = false → vSt4_s3 (vRa5_l13_T.a2 v) (vRa5_l13_T.a6 v) = false → vSt4_s4 (vRa5_l13_T.a2 v) (vRa5_l13_T.a6 v) = false → vSt4_s5 (vRa5_l13_T.a2 v) (vRa5_l13_T.a6 v) = false → vSt4_s6 (vRa5_l13_T.a2 v) (vRa5_l13_T.a6 v) = false → vSt4_s7 (vRa5_l13_T.a2 v) (vRa5_l13_T.a6 v) = false → vSt4_s8 (vRa5_l13_T.a2 v) (vRa5_l13_T.a6 v) = false → vSt4_s9 (vRa5_l13_T.a2 v) (vRa5_l13_T.a6 v) = false → vSt4_s10 (vRa5_l13_T.a2 v) (vRa5_l13_T.a6 v) = false → vSt4_s11 (vRa5_l13_T.a2 v) (vRa5_l13_T.a6 v) = false → vSt4_s16 (vRa5_l13_T.a2 v) (vRa5_l13_T.a6 v) = true → (!pBo_s2 (vRa5_l13_T.a2 v) (vRa5_l13_T.a6 v)) = true → (0 : Int) ≤ vRa5_l13_T.a2 v ∧ vRa5_l13_T.a2 v < Int.ofNat (List.length (vRa5_l13_T.a6 v)), vRa5_l13_s0 v = true → vSt4_s0 (vRa5_l13_T.a2 v) (vRa5_l13_T.a6 v) = false → vSt4_s1 (vRa5_l13_T.a2 v) (vRa5_l13_T.a6 v) = false → vSt4_s2 (vRa5_l13_T.a2 v) (vRa5_l13_T.a6 v) = false → vSt4_s3 (vRa5_l13_T.a2 v) (vRa5_l13_T.a6 v) = false → vSt4_s4 (vRa5_l13_T.a2 v) (vRa5_l13_T.a6 v) = false → vSt4_s5 (vRa5_l13_T.a2 v) (vRa5_l13_T.a6 v) = false → vSt4_s6 (vRa5_l13_T.a2 v) (vRa5_l13_T.a6 v) = false → vSt4_s7 (vRa5_l13_T.a2 v) (vRa5_l13_T.a6 v) = false → vSt4_s8 (vRa5_l13_T.a2 v) (vRa5_l13_T.a6 v) = false → vSt4_s9 (vRa5_l13_T.a2 v) (vRa5_l13_T.a6 v) = false → vSt4_s10 (vRa5_l13_T.a2 v) (vRa5_l13_T.a6 v) = false → vSt4_s11 (vRa5_l13_T.a2 v) (vRa5_l13_T.a6 v) = false → vSt4_s16 (vRa5_l13_T.a2 v) (vRa5_l13_T.a6 v) = true → lok vLo_l29_st (18446744073709551616 : Nat) (vLo_l29_T.mk (0 : Int) false (pBo_0 (vRa5_l13_T.a2 v) (vRa5_l13_T.a6 v)) (pBo_1 (vRa5_l13_T.a2 v) (vRa5_l13_T.a6 v)) (IntKind.wrap IntKind.i64 (rget (vRa5_l13_T.a6 v) (Int.toNat (vRa5_l13_T.a2 v)) (4 : Nat))) (0 : Int) (vRa5_l13_T.a3 v) (vRa5_l13_T.a4 v) (vSt4_s20 (vRa5_l13_T.a5 v)) (vRa5_l13_T.a6 v)), vRa5_l13_s0 v = true → vSt4_s0 (vRa5_l13_T.a2 v) (vRa5_l13_T.a6 v) = false → vSt4_s1 (vRa5_l13_T.a2 v) (vRa5_l13_T.a6 v) = false → vSt4_s2 (vRa5_l13_T.a2 v) (vRa5_l13_T.a6 v) = false → vSt4_s3 (vRa5_l13_T.a2 v) (vRa5_l13_T.a6 v) = false → vSt4_s4 (vRa5_l13_T.a2 v) (vRa5_l13_T.a6 v) = false → vSt4_s5 (vRa5_l13_T.a2 v) (vRa5_l13_T.a6 v) = false → vSt4_s6 (vRa5_l13_T.a2 v) (vRa5_l13_T.a6 v) = false → vSt4_s7 (vRa5_l13_T.a2 v) (vRa5_l13_T.a6 v) = false → vSt4_s8 (vRa5_l13_T.a2 v) (vRa5_l13_T.a6 v) = false → vSt4_s9 (vRa5_l13_T.a2 v) (vRa5_l13_T.a6 v) = false → vSt4_s10 (vRa5_l13_T.a2 v) (vRa5_l13_T.a6 v) = false → vSt4_s11 (vRa5_l13_T.a2 v) (vRa5_l13_T.a6 v) = false → vSt4_s16 (vRa5_l13_T.a2 v) (vRa5_l13_T.a6 v) = false → vSt4_s17 (vRa5_l13_T.a2 v) (vRa5_l13_T.a6 v) = false → vSt4_s37 (vRa5_l13_T.a2 v) (vRa5_l13_T.a6 v) = true → (0 : Int) ≤ vSt4_s38 (vRa5_l13_T.a2 v) (vRa5_l13_T.a6 v) ∧ vSt4_s38 (vRa5_l13_T.a2 v) (vRa5_l13_T.a6 v) < Int.ofNat (12 : Nat), vRa5_l13_s0 v = true → vSt4_s0 (vRa5_l13_T.a2 v) (vRa5_l13_T.a6 v) = false → vSt4_s1 (vRa5_l13_T.a2 v) (vRa5_l13_T.a6 v) = false → vSt4_s2 (vRa5_l13_T.a2 v) (vRa5_l13_T.a6 v) = false → vSt4_s3 (vRa5_l13_T.a2 v) (vRa5_l13_T.a6 v) = false → vSt4_s4 (vRa5_l13_T.a2 v) (vRa5_l13_T.a6 v) = false → vSt4_s5 (vRa5_l13_T.a2 v) (vRa5_l13_T.a6 v) = false → vSt4_s6 (vRa5_l13_T.a2 v) (vRa5_l13_T.a6 v) = false → vSt4_s7 (vRa5_l13_T.a2 v) (vRa5_l13_T.a6 v) = false → vSt4_s8 (vRa5_l13_T.a2 v) (vRa5_l13_T.a6 v) = false → vSt4_s9 (vRa5_l13_T.a2 v) (vRa5_l13_T.a6 v) = false → vSt4_s10 (vRa5_l13_T.a2 v) (vRa5_l13_T.a6 v) = false → vSt4_s11 (vRa5_l13_T.a2 v) (vRa5_l13_T.a6 v) = false → vSt4_s16 (vRa5_l13_T.a2 v) (vRa5_l13_T.a6 v) = false → vSt4_s17 (vRa5_l13_T.a2 v) (vRa5_l13_T.a6 v) = false → vSt4_s37 (vRa5_l13_T.a2 v) (vRa5_l13_T.a6 v) = true → (0 : Int) ≤ vSt4_s39 (vRa5_l13_T.a2 v) (vRa5_l13_T.a6 v) ∧ vSt4_s39 (vRa5_l13_T.a2 v) (vRa5_l13_T.a6 v) < Int.ofNat (12 : Nat), vRa5_l13_s0 v = true → vSt4_s0 (vRa5_l13_T.a2 v) (vRa5_l13_T.a6 v) = false → vSt4_s1 (vRa5_l13_T.a2 v) (vRa5_l13_T.a6 v) = false → vSt4_s2 (vRa5_l13_T.a2 v) (vRa5_l13_T.a6 v) = false → vSt4_s3 (vRa5_l13_T.a2 v) (vRa5_l13_T.a6 v) = false → vSt4_s4 (vRa5_l13_T.a2 v) (vRa5_l13_T.a6 v) = false → vSt4_s5 (vRa5_l13_T.a2 v) (vRa5_l13_T.a6 v) = false → vSt4_s6 (vRa5_l13_T.a2 v) (vRa5_l13_T.a6 v) = false → vSt4_s7 (vRa5_l13_T.a2 v) (vRa5_l13_T.a6 v) = false → vSt4_s8 (vRa5_l13_T.a2 v) (vRa5_l13_T.a6 v) = false → vSt4_s9 (vRa5_l13_T.a2 v) (vRa5_l13_T.a6 v) = false → vSt4_s10 (vRa5_l13_T.a2 v) (vRa5_l13_T.a6 v) = false → vSt4_s11 (vRa5_l13_T.a2 v) (vRa5_l13_T.a6 v) = false → vSt4_s16 (vRa5_l13_T.a2 v) (vRa5_l13_T.a6 v) = false → vSt4_s17 (vRa5_l13_T.a2 v) (vRa5_l13_T.a6 v) = false → vSt4_s37 (vRa5_l13_T.a2 v) (vRa5_l13_T.a6 v) = true → (0 : Int) ≤ vSt4_s40 (vRa5_l13_T.a2 v) (vRa5_l13_T.a6 v) ∧ vSt4_s40 (vRa5_l13_T.a2 v) (vRa5_l13_T.a6 v) < Int.ofNat (12 : Nat)], [(X.e (0 : Nat), !vRa5_l13_s0 v, vRa5_l13_T.mk (vRa5_l13_T.a0 v) (vRa5_l13_T.a1 v) (vRa5_l13_T.a2 v) (vRa5_l13_T.a3 v) (vRa5_l13_T.a4 v) (vRa5_l13_T.a5 v) (vRa5_l13_T.a6 v)), (X.r, vRa5_l13_s0 v && vRa5_l13_s1 v, vRa5_l13_T.mk (vRa5_l13_T.a0 v) (false) (vRa5_l13_T.a2 v) (vSt4_2 (vRa5_l13_T.a2 v) (vRa5_l13_T.a3 v) (vRa5_l13_T.a4 v) (vRa5_l13_T.a5 v) (vRa5_l13_T.a6 v)) (vSt4_3 (vRa5_l13_T.a2 v) (vRa5_l13_T.a3 v) (vRa5_l13_T.a4 v) (vRa5_l13_T.a5 v) (vRa5_l13_T.a6 v)) (vSt4_4 (vRa5_l13_T.a2 v) (vRa5_l13_T.a3 v) (vRa5_l13_T.a4 v) (vRa5_l13_T.a5 v) (vRa5_l13_T.a6 v)) (vRa5_l13_T.a6 v)), (X.n, vRa5_l13_s0 v && !vRa5_l13_s1 v, vRa5_l13_T.mk (vRa5_l13_T.a0 v) (vRa5_l13_T.a1 v) (vSt4_0 (vRa5_l13_T.a2 v) (vRa5_l13_T.a3 v) (vRa5_l13_T.a4 v) (vRa5_l13_T.a5 v) (vRa5_l13_T.a6 v)) (vSt4_2 (vRa5_l13_T.a2 v) (vRa5_l13_T.a3 v) (vRa5_l13_T.a4 v) (vRa5_l13_T.a5 v) (vRa5_l13_T.a6 v)) (vSt4_3 (vRa5_l13_T.a2 v) (vRa5_l13_T.a3 v) (vRa5_l13_T.a4 v) (vRa5_l13_T.a5 v) (vRa5_l13_T.a6 v)) (vSt4_4 (vRa5_l13_T.a2 v) (vRa5_l13_T.a3 v) (vRa5_l13_T.a4 v) (vRa5_l13_T.a5 v) (vRa5_l13_T.a6 v)) (vRa5_l13_T.a6 v))])
def vRa5_l13_rd : HS → Option vRa5_l13_T := rdS [.i, .b, .i, .r, .b, .i, .r] (fun l => vRa5_l13_T.mk (gI l 0) (gB l 1) (gI l 2) (gR l 3) (gB l 4) (gI l 5) (gR l 6)) vRa5_l13_hd
def vRa5_l13_sum : V.Sum := loopS vRa5_l13_hd vRa5_l13_rd vRa5_l13_st 18446744073709551616 [X.e (0 : Nat), X.r] [0, 1, 2, 6, 7, 8, 9, 13, 21] [0, 2, 6, 7] [0] [] [] 0
theorem vRa5_l13_E : ∀ v, bodyF Try.prog tabUb4 (ntOf Try.prog 127) [0, 1, 2, 6, 7, 8, 9, 13, 21] [0, 2, 6, 7] [] 2000 [0] [] vRa5_l13_code 52 (vRa5_l13_hd v) = some ((vRa5_l13_st v).1, (vRa5_l13_st v).2.map fun q => (q.1, q.2.1, vRa5_l13_hd q.2.2)) := fun v => by kernel_rfl
theorem vRa5_l13_R : ∀ h v, vRa5_l13_rd h = some v → h = vRa5_l13_hd v := rdS_ok fun l => by kernel_rfl
set_option maxRecDepth 100000 in
theorem vRa5_l13_sok : SumOK Try.prog (ntOf Try.prog 127) [0, 1, 2, 6, 7, 8, 9, 13, 21] (.block (blockOf (subs (bodyOf Try.prog 127) 1 13)) (.loop vRa5_l13_code)) vRa5_l13_sum := loopS_ok tabUb4_ok follows vRa5_l13_E vRa5_l13_R (fun v => by kernel_rfl) (LOK_of _ _ (LOK_nil'))
def vRa5_s0 (x1 x2 : Int) (g : List (List Int)) (gn : Bool) (st : Int) (p : List (List Int)) : Option (X × vRa5_l13_T) := lrun vRa5_l13_st (18446744073709551616 : Nat) (vRa5_l13_T.mk x2 false x1 g gn st p)
def vRa5_0 (x1 x2 : Int) (g : List (List Int)) (gn : Bool) (st : Int) (p : List (List Int)) : Bool := bif isX X.r (vRa5_s0 x1 x2 g gn st p) then vRa5_l13_T.a1 (V.valOf (vRa5_s0 x1 x2 g gn st p)) else true
def vRa5_1 (x1 x2 : Int) (g : List (List Int)) (gn : Bool) (st : Int) (p : List (List Int)) : List (List Int) := bif isX X.r (vRa5_s0 x1 x2 g gn st p) then vRa5_l13_T.a3 (V.valOf (vRa5_s0 x1 x2 g gn st p)) else vRa5_l13_T.a3 (V.valOf (vRa5_s0 x1 x2 g gn st p))
def vRa5_2 (x1 x2 : Int) (g : List (List Int)) (gn : Bool) (st : Int) (p : List (List Int)) : Bool := bif isX X.r (vRa5_s0 x1 x2 g gn st p) then vRa5_l13_T.a4 (V.valOf (vRa5_s0 x1 x2 g gn st p)) else vRa5_l13_T.a4 (V.valOf (vRa5_s0 x1 x2 g gn st p))
def vRa5_3 (x1 x2 : Int) (g : List (List Int)) (gn : Bool) (st : Int) (p : List (List Int)) : Int := bif isX X.r (vRa5_s0 x1 x2 g gn st p) then vRa5_l13_T.a5 (V.valOf (vRa5_s0 x1 x2 g gn st p)) else vRa5_l13_T.a5 (V.valOf (vRa5_s0 x1 x2 g gn st p))
def vRa5_o (x1 x2 : Int) (g : List (List Int)) (gn : Bool) (st : Int) (r0 : Bool) (p : List (List Int)) : List Prop := [lok vRa5_l13_st (18446744073709551616 : Nat) (vRa5_l13_T.mk x2 false x1 g gn st p)]
theorem vRa5_p (x1 x2 : Int) (g : List (List Int)) (gn : Bool) (st : Int) (r0 : Bool) (p : List (List Int)) : evG Try.prog tabUb4 2000 127 [0, 1, 2, 6, 7, 8, 9, 13, 21] [(13, vRa5_l13_sum)] [0] [.a (.ptr 0 0), .a (.int true .i64 x1), .a (.int true .i64 x2)] (padBs [⟨⟨0, 51, false, some ⟨0, [.int .i64, .int .i64, .int .i64, .int .i64], g, some 12⟩⟩, [some (.bool true gn), some (.int true .i64 st), some (.vec 1 0 5)]⟩, ⟨⟨0, 0, r0, some ⟨0, [.int .u8, .int .u8, .int .u8, .int .u8, .int .i16], p, none⟩⟩, []⟩]) = some (vRa5_o x1 x2 g gn st r0 p, LV.a (At.bool true (vRa5_0 x1 x2 g gn st p)), padOut [some (BC.mk (Hd.mk (nat_lit 0) (nat_lit 51) false (some (Rw.mk (nat_lit 0) [Kd.int IntKind.i64, Kd.int IntKind.i64, Kd.int IntKind.i64, Kd.int IntKind.i64] (vRa5_1 x1 x2 g gn st p) (some (nat_lit 12))))) [some (At.bool true (vRa5_2 x1 x2 g gn st p)), some (At.int true IntKind.i64 (vRa5_3 x1 x2 g gn st p)), some (At.vec (nat_lit 1) (nat_lit 0) (nat_lit 5))]), none]) := by kernel_rfl
def vRa5_c0 : Con
  | [.a (.ptr 0 0), .a (.int true .i64 x1), .a (.int true .i64 x2)], [⟨⟨0, 51, false, some ⟨0, [.int .i64, .int .i64, .int .i64, .int .i64], g, some 12⟩⟩, [some (.bool true gn), some (.int true .i64 st), some (.vec 1 0 5)]⟩, ⟨⟨0, 0, r0, some ⟨0, [.int .u8, .int .u8, .int .u8, .int .u8, .int .i16], p, none⟩⟩, []⟩] => some (vRa5_o x1 x2 g gn st r0 p, LV.a (At.bool true (vRa5_0 x1 x2 g gn st p)), [some (BC.mk (Hd.mk (nat_lit 0) (nat_lit 51) false (some (Rw.mk (nat_lit 0) [Kd.int IntKind.i64, Kd.int IntKind.i64, Kd.int IntKind.i64, Kd.int IntKind.i64] (vRa5_1 x1 x2 g gn st p) (some (nat_lit 12))))) [some (At.bool true (vRa5_2 x1 x2 g gn st p)), some (At.int true IntKind.i64 (vRa5_3 x1 x2 g gn st p)), some (At.vec (nat_lit 1) (nat_lit 0) (nat_lit 5))]), none])
  | _, _ => none
def vRa5_c : Con := packC vRa5_c0
theorem vRa5_ok : ConOK Try.prog 127 (normC vRa5_c) := normC_ok (packC_ok (by
  intro args bs obs lv out h ho φ vs w may ha hM
  unfold vRa5_c0 at h
  split at h
  · simp only [Option.some.injEq, Prod.mk.injEq] at h
    obtain ⟨rfl, rfl, rfl⟩ := h
    rename_i x1 x2 g gn st r0 p
    exact evG_okL' tabUb4_ok follows (LOK_cons (show subs (bodyOf Try.prog 127) 1 13 = [.block (blockOf (subs (bodyOf Try.prog 127) 1 13)) (.loop vRa5_l13_code)] from by kernel_rfl) vRa5_l13_sok (LOK_nil')) _ _ _ _ _ (vRa5_p x1 x2 g gn st r0 p) ho φ vs w may ha hM
  · cases h))
theorem vRa5_en : Enters Try.prog 127 := fun args => by kernel_rfl
-- 2003 1157 17 ms

def vRaN_D : Tab := (2, decC [(209, false)]) :: tabUb4
theorem vRaN_D_ok : TOK Try.prog vRaN_D := TOK.cons (fun args => by kernel_rfl) (fun _ _ _ _ _ h ho => (decC_ok h ho).elim) tabUb4_ok
/-! (*azulejo/vm.machine).range_ -/
def vRaN_o (x1 x2 : Int) (g : List (List Int)) (gn : Bool) (st : Int) : List Prop := [decide (x1 < x2) = false]
theorem vRaN_p (x1 x2 : Int) (g : List (List Int)) (gn : Bool) (st : Int) : evG Try.prog vRaN_D 2000 127 [0, 1, 2, 6, 7, 8, 9, 13, 21] [] [] [.a (.ptr 0 0), .a (.int true .i64 x1), .a (.int true .i64 x2)] (padBs [⟨⟨0, 51, false, some ⟨0, [.int .i64, .int .i64, .int .i64, .int .i64], g, some 12⟩⟩, [some (.bool true gn), some (.int true .i64 st), some (.nils)]⟩]) = some (vRaN_o x1 x2 g gn st, LV.a (At.bool false true), padOut [none]) := by kernel_rfl
def vRaN_c0 : Con
  | [.a (.ptr 0 0), .a (.int true .i64 x1), .a (.int true .i64 x2)], [⟨⟨0, 51, false, some ⟨0, [.int .i64, .int .i64, .int .i64, .int .i64], g, some 12⟩⟩, [some (.bool true gn), some (.int true .i64 st), some (.nils)]⟩] => some (vRaN_o x1 x2 g gn st, LV.a (At.bool false true), [none])
  | _, _ => none
def vRaN_c : Con := packC vRaN_c0
theorem vRaN_ok : ConOK Try.prog 127 (normC vRaN_c) := normC_ok (packC_ok (by
  intro args bs obs lv out h ho φ vs w may ha hM
  unfold vRaN_c0 at h
  split at h
  · simp only [Option.some.injEq, Prod.mk.injEq] at h
    obtain ⟨rfl, rfl, rfl⟩ := h
    rename_i x1 x2 g gn st
    exact evG_ok vRaN_D_ok follows _ _ _ _ _ (vRaN_p x1 x2 g gn st) ho φ vs w may ha hM
  · cases h))
theorem vRaN_en : Enters Try.prog 127 := fun args => by kernel_rfl
-- 53 2 0 ms

def tabUb5 : Tab := (127, normC vRa5_c) :: (127, normC vRaN_c) :: tabUb4
theorem tabUb5_ok : TOK Try.prog tabUb5 := TOK.cons vRa5_en vRa5_ok (TOK.cons vRaN_en vRaN_ok (tabUb4_ok))

end Go.Proofs.Ytcdejlgophpdjaa
end

section
namespace Go.Proofs.Ytcdejlgophpdjaa
open Go Go.RowKit Go.Proofs.Ytcdejlgophpdjaa.V

def tabUc0 : Tab := (2, rowC [(39, (0, 1, 4)), (232, (0, 4, 12)), (166, (0, 4, 12))]) :: tabUb5
theorem tabUc0_ok : TOK Try.prog tabUc0 := TOK.cons rowU_en rowC_con tabUb5_ok

end Go.Proofs.Ytcdejlgophpdjaa
end

section
namespace Go.Proofs.Ytcdejlgophpdjaa
open Go Go.RowKit Go.Proofs.Ytcdejlgophpdjaa.V
set_option linter.unusedVariables false

def r7Ru1_D : Tab := (2, decC [(3342333, false)]) :: tabUc0
theorem r7Ru1_D_ok : TOK Try.prog r7Ru1_D := TOK.cons (fun args => by kernel_rfl) (fun _ _ _ _ _ h ho => (decC_ok h ho).elim) tabUc0_ok
/-! azulejo/azulejoref07.Run -/
noncomputable def r7Ru1_l3_code : Go.Code := loopOf (subs (bodyOf Try.prog 85) 1 3)
structure r7Ru1_l3_T where
  a0 : Int
  a1 : Int
  a2 : List (List Int)
  a3 : List (List Int)
  a4 : Bool
  a5 : Bool
  a6 : Int
  deriving Inhabited
def r7Ru1_l3_hd0 (v : r7Ru1_l3_T) : HS := HS.mk [(nat_lit 0, LV.a (At.vec (nat_lit 0) (nat_lit 0) (nat_lit 5))), (nat_lit 1, LV.a (At.ptr (nat_lit 1) (nat_lit 0))), (nat_lit 3, LV.a (At.int true IntKind.i64 (r7Ru1_l3_T.a0 v))), (nat_lit 8, LV.a (At.int true IntKind.i64 (r7Ru1_l3_T.a1 v)))] [BC.mk (Hd.mk (nat_lit 0) (nat_lit 0) true (some (Rw.mk (nat_lit 0) [Kd.int IntKind.i64, Kd.int IntKind.i64, Kd.int IntKind.i64, Kd.int IntKind.i64, Kd.int IntKind.i64] (r7Ru1_l3_T.a2 v) none))) [], BC.mk (Hd.mk (nat_lit 0) (nat_lit 51) false (some (Rw.mk (nat_lit 0) [Kd.int IntKind.i64, Kd.int IntKind.i64, Kd.int IntKind.i64, Kd.int IntKind.i64] (r7Ru1_l3_T.a3 v) (some (nat_lit 12))))) [some (At.bool true (r7Ru1_l3_T.a4 v)), some (At.bool true (r7Ru1_l3_T.a5 v)), some (At.int true IntKind.i64 (r7Ru1_l3_T.a6 v))]]
def r7Ru1_l3_hd (v : r7Ru1_l3_T) : HS := padH (r7Ru1_l3_hd0 v)
def r7Ru1_l3_s0 (v : r7Ru1_l3_T) : Bool := bif decide (r7Ru1_l3_T.a1 v < r7Ru1_l3_T.a0 v) then !r7Ru1_l3_T.a5 v else false
def r7Ru1_l3_s5 (v : r7Ru1_l3_T) : Bool := decide (rget (r7Ru1_l3_T.a2 v) (Int.toNat (r7Ru1_l3_T.a1 v)) (3 : Nat) < (12 : Int))
def r7Ru1_l3_s6 (v : r7Ru1_l3_T) : Bool := rget (r7Ru1_l3_T.a2 v) (Int.toNat (r7Ru1_l3_T.a1 v)) (0 : Nat) == (1 : Int)
def r7Ru1_l3_s7 (v : r7Ru1_l3_T) : Bool := rget (r7Ru1_l3_T.a2 v) (Int.toNat (r7Ru1_l3_T.a1 v)) (0 : Nat) == (2 : Int)
def r7Ru1_l3_s8 (v : r7Ru1_l3_T) : Bool := rget (r7Ru1_l3_T.a2 v) (Int.toNat (r7Ru1_l3_T.a1 v)) (0 : Nat) == (8 : Int)
def r7Ru1_l3_s9 (v : r7Ru1_l3_T) : Bool := rget (r7Ru1_l3_T.a2 v) (Int.toNat (r7Ru1_l3_T.a1 v)) (0 : Nat) == (9 : Int)
def r7Ru1_l3_s10 (v : r7Ru1_l3_T) : Int := Int.tmod (rget (r7Ru1_l3_T.a2 v) (Int.toNat (r7Ru1_l3_T.a1 v)) (3 : Nat)) (4 : Int)
def r7Ru1_l3_s11 (v : r7Ru1_l3_T) : Bool := rget (r7Ru1_l3_T.a2 v) (Int.toNat (r7Ru1_l3_T.a1 v)) (0 : Nat) == (10 : Int)
def r7Ru1_l3_s12 (v : r7Ru1_l3_T) : Int := Int.tmod (IntKind.wrap IntKind.i64 (Int.tmod (rget (r7Ru1_l3_T.a2 v) (Int.toNat (r7Ru1_l3_T.a1 v)) (4 : Nat)) (4 : Int) + (4 : Int))) (4 : Int)
def r7Ru1_l3_s13 (v : r7Ru1_l3_T) : Bool := rget (r7Ru1_l3_T.a2 v) (Int.toNat (r7Ru1_l3_T.a1 v)) (0 : Nat) == (14 : Int)
def r7Ru1_l3_s14 (v : r7Ru1_l3_T) : Int := IntKind.wrap IntKind.i64 (rget (r7Ru1_l3_T.a2 v) (Int.toNat (r7Ru1_l3_T.a1 v)) (2 : Nat) + (0 : Int))
def r7Ru1_l3_s15 : Int := IntKind.wrap IntKind.i64 ((0 : Int) + (1 : Int))
def r7Ru1_l3_s16 (v : r7Ru1_l3_T) : Int := IntKind.wrap IntKind.i64 (rget (r7Ru1_l3_T.a2 v) (Int.toNat (r7Ru1_l3_T.a1 v)) (2 : Nat) + r7Ru1_l3_s15)
def r7Ru1_l3_s17 : Int := IntKind.wrap IntKind.i64 (r7Ru1_l3_s15 + (1 : Int))
def r7Ru1_l3_s18 (v : r7Ru1_l3_T) : Int := IntKind.wrap IntKind.i64 (rget (r7Ru1_l3_T.a2 v) (Int.toNat (r7Ru1_l3_T.a1 v)) (2 : Nat) + r7Ru1_l3_s17)
def r7Ru1_l3_s19 (v : r7Ru1_l3_T) : Int := IntKind.wrap IntKind.i64 (rget (r7Ru1_l3_T.a2 v) (Int.toNat (r7Ru1_l3_T.a1 v)) (2 : Nat) + IntKind.wrap IntKind.i64 (r7Ru1_l3_s17 + (1 : Int)))
def r7Ru1_l3_s20 (v : r7Ru1_l3_T) : Bool := bif decide ((3 : Int) ≤ rget (r7Ru1_l3_T.a2 v) (Int.toNat (r7Ru1_l3_T.a1 v)) (0 : Nat)) then decide (rget (r7Ru1_l3_T.a2 v) (Int.toNat (r7Ru1_l3_T.a1 v)) (0 : Nat) ≤ (7 : Int)) else false
def r7Ru1_l3_s21 (v : r7Ru1_l3_T) : Bool := bif r7Ru1_l3_s20 v then true else bif r7Ru1_l3_s6 v then true else bif r7Ru1_l3_s7 v then true else bif r7Ru1_l3_s8 v then true else bif r7Ru1_l3_s9 v then true else bif r7Ru1_l3_s11 v then true else bif r7Ru1_l3_s13 v then true else false
def r7Ru1_l3_s22 (v : r7Ru1_l3_T) : Nat := Int.toNat (rget (r7Ru1_l3_T.a2 v) (Int.toNat (r7Ru1_l3_T.a1 v)) (2 : Nat))
def r7Ru1_l3_s23 (v : r7Ru1_l3_T) : List (List Int) := [[rget (r7Ru1_l3_T.a3 v) (r7Ru1_l3_s22 v) (0 : Nat)], [rget (r7Ru1_l3_T.a3 v) (r7Ru1_l3_s22 v) (1 : Nat)], [rget (r7Ru1_l3_T.a3 v) (r7Ru1_l3_s22 v) (2 : Nat)], [rget (r7Ru1_l3_T.a3 v) (r7Ru1_l3_s22 v) (3 : Nat)]]
def r7Ru1_l3_s24 (v : r7Ru1_l3_T) : Int := rget (r7Ru1_l3_s23 v) (0 : Nat) (0 : Nat)
def r7Ru1_l3_s25 : List (List Int) := [[(0 : Int)], [(0 : Int)], [(0 : Int)], [(0 : Int)]]
def r7Ru1_l3_s29 (v : r7Ru1_l3_T) : Bool := decide (r7Ru1_l3_s24 v < (0 : Int))
def r7Ru1_l3_s30 (v : r7Ru1_l3_T) : Int := IntKind.wrap IntKind.i64 (r7Ru1_l3_T.a1 v + (1 : Int))
def r7Ru1_l3_s31 (v : r7Ru1_l3_T) : Nat := Int.toNat (rget (r7Ru1_l3_T.a2 v) (Int.toNat (r7Ru1_l3_T.a1 v)) (1 : Nat))
def r7Ru1_l3_s32 (v : r7Ru1_l3_T) : Int := rget (r7Ru1_l3_s23 v) (1 : Nat) (0 : Nat)
def r7Ru1_l3_s33 (v : r7Ru1_l3_T) : Int := rget (r7Ru1_l3_s23 v) (2 : Nat) (0 : Nat)
def r7Ru1_l3_s34 (v : r7Ru1_l3_T) : Int := rget (r7Ru1_l3_s23 v) (3 : Nat) (0 : Nat)
def r7Ru1_l3_s35 (v : r7Ru1_l3_T) : List Int := [IntKind.wrap IntKind.i64 (rget (r7Ru1_l3_T.a2 v) (Int.toNat (r7Ru1_l3_T.a1 v)) (4 : Nat) * (256 : Int))]
def r7Ru1_l3_s36 (v : r7Ru1_l3_T) : Nat := Int.toNat (rget (r7Ru1_l3_T.a2 v) (Int.toNat (r7Ru1_l3_T.a1 v)) (3 : Nat))
def r7Ru1_l3_s37 (v : r7Ru1_l3_T) : List (List Int) := bif r7Ru1_l3_s5 v then [[rget (r7Ru1_l3_T.a3 v) (r7Ru1_l3_s36 v) (0 : Nat)], [rget (r7Ru1_l3_T.a3 v) (r7Ru1_l3_s36 v) (1 : Nat)], [rget (r7Ru1_l3_T.a3 v) (r7Ru1_l3_s36 v) (2 : Nat)], [rget (r7Ru1_l3_T.a3 v) (r7Ru1_l3_s36 v) (3 : Nat)]] else r7Ru1_l3_s25
def r7Ru1_l3_s38 (v : r7Ru1_l3_T) : Int := rget (r7Ru1_l3_s37 v) (0 : Nat) (0 : Nat)
def r7Ru1_l3_s39 (v : r7Ru1_l3_T) : Int := rget (r7Ru1_l3_s37 v) (1 : Nat) (0 : Nat)
def r7Ru1_l3_s40 (v : r7Ru1_l3_T) : Int := rget (r7Ru1_l3_s37 v) (2 : Nat) (0 : Nat)
def r7Ru1_l3_s41 (v : r7Ru1_l3_T) : Int := rget (r7Ru1_l3_s37 v) (3 : Nat) (0 : Nat)
def r7Ru1_l3_s42 (v : r7Ru1_l3_T) : List Int := [rDo_0 (r7Ru1_l3_s24 v) (r7Ru1_l3_s32 v) (r7Ru1_l3_s33 v) (r7Ru1_l3_s34 v) (r7Ru1_l3_s38 v) (r7Ru1_l3_s39 v) (r7Ru1_l3_s40 v) (r7Ru1_l3_s41 v)]
def r7Ru1_l3_s43 (v : r7Ru1_l3_T) : List Int := [rget (r7Ru1_l3_s23 v) (Int.toNat (r7Ru1_l3_s10 v)) (0 : Nat)]
def r7Ru1_l3_s44 (v : r7Ru1_l3_T) : List (List Int) := bif r7Ru1_l3_s6 v then [[r7Ru1_l3_s24 v], [r7Ru1_l3_s32 v], [r7Ru1_l3_s33 v], [r7Ru1_l3_s34 v]] else bif r7Ru1_l3_s7 v then [r7Ru1_l3_s35 v, r7Ru1_l3_s35 v, r7Ru1_l3_s35 v, r7Ru1_l3_s35 v] else bif r7Ru1_l3_s8 v then [r7Ru1_l3_s42 v, r7Ru1_l3_s42 v, r7Ru1_l3_s42 v, r7Ru1_l3_s42 v] else bif r7Ru1_l3_s9 v then [r7Ru1_l3_s43 v, r7Ru1_l3_s43 v, r7Ru1_l3_s43 v, r7Ru1_l3_s43 v] else bif r7Ru1_l3_s11 v then List.set [[rget (r7Ru1_l3_T.a3 v) (r7Ru1_l3_s31 v) (0 : Nat)], [rget (r7Ru1_l3_T.a3 v) (r7Ru1_l3_s31 v) (1 : Nat)], [rget (r7Ru1_l3_T.a3 v) (r7Ru1_l3_s31 v) (2 : Nat)], [rget (r7Ru1_l3_T.a3 v) (r7Ru1_l3_s31 v) (3 : Nat)]] (Int.toNat (r7Ru1_l3_s10 v)) [rget (r7Ru1_l3_s23 v) (Int.toNat (r7Ru1_l3_s12 v)) (0 : Nat)] else bif r7Ru1_l3_s13 v then rset (rset (rset (rset r7Ru1_l3_s25 (0 : Nat) (0 : Nat) [rDo_0 (rget (r7Ru1_l3_T.a3 v) (Int.toNat (r7Ru1_l3_s14 v)) (0 : Nat)) (rget (r7Ru1_l3_T.a3 v) (Int.toNat (r7Ru1_l3_s14 v)) (1 : Nat)) (rget (r7Ru1_l3_T.a3 v) (Int.toNat (r7Ru1_l3_s14 v)) (2 : Nat)) (rget (r7Ru1_l3_T.a3 v) (Int.toNat (r7Ru1_l3_s14 v)) (3 : Nat)) (r7Ru1_l3_s38 v) (r7Ru1_l3_s39 v) (r7Ru1_l3_s40 v) (r7Ru1_l3_s41 v)]) (1 : Nat) (0 : Nat) [rDo_0 (rget (r7Ru1_l3_T.a3 v) (Int.toNat (r7Ru1_l3_s16 v)) (0 : Nat)) (rget (r7Ru1_l3_T.a3 v) (Int.toNat (r7Ru1_l3_s16 v)) (1 : Nat)) (rget (r7Ru1_l3_T.a3 v) (Int.toNat (r7Ru1_l3_s16 v)) (2 : Nat)) (rget (r7Ru1_l3_T.a3 v) (Int.toNat (r7Ru1_l3_s16 v)) (3 : Nat)) (r7Ru1_l3_s38 v) (r7Ru1_l3_s39 v) (r7Ru1_l3_s40 v) (r7Ru1_l3_s41 v)]) (2 : Nat) (0 : Nat) [rDo_0 (rget (r7Ru1_l3_T.a3 v) (Int.toNat (r7Ru1_l3_s18 v)) (0 : Nat)) (rget (r7Ru1_l3_T.a3 v) (Int.toNat (r7Ru1_l3_s18 v)) (1 : Nat)) (rget (r7Ru1_l3_T.a3 v) (Int.toNat (r7Ru1_l3_s18 v)) (2 : Nat)) (rget (r7Ru1_l3_T.a3 v) (Int.toNat (r7Ru1_l3_s18 v)) (3 : Nat)) (r7Ru1_l3_s38 v) (r7Ru1_l3_s39 v) (r7Ru1_l3_s40 v) (r7Ru1_l3_s41 v)]) (3 : Nat) (0 : Nat) [rDo_0 (rget (r7Ru1_l3_T.a3 v) (Int.toNat (r7Ru1_l3_s19 v)) (0 : Nat)) (rget (r7Ru1_l3_T.a3 v) (Int.toNat (r7Ru1_l3_s19 v)) (1 : Nat)) (rget (r7Ru1_l3_T.a3 v) (Int.toNat (r7Ru1_l3_s19 v)) (2 : Nat)) (rget (r7Ru1_l3_T.a3 v) (Int.toNat (r7Ru1_l3_s19 v)) (3 : Nat)) (r7Ru1_l3_s38 v) (r7Ru1_l3_s39 v) (r7Ru1_l3_s40 v) (r7Ru1_l3_s41 v)] else r7Ru1_l3_s25
def r7Ru1_l3_s45 (v : r7Ru1_l3_T) : List (List Int) := bif r7Ru1_l3_s20 v then rset (rset (rset (rset (r7Ru1_l3_s44 v) (0 : Nat) (0 : Nat) [r7n_0 (rget (r7Ru1_l3_T.a2 v) (Int.toNat (r7Ru1_l3_T.a1 v)) (0 : Nat)) (r7Ru1_l3_s24 v) (r7Ru1_l3_s38 v)]) (1 : Nat) (0 : Nat) [r7n_0 (rget (r7Ru1_l3_T.a2 v) (Int.toNat (r7Ru1_l3_T.a1 v)) (0 : Nat)) (r7Ru1_l3_s32 v) (r7Ru1_l3_s39 v)]) (2 : Nat) (0 : Nat) [r7n_0 (rget (r7Ru1_l3_T.a2 v) (Int.toNat (r7Ru1_l3_T.a1 v)) (0 : Nat)) (r7Ru1_l3_s33 v) (r7Ru1_l3_s40 v)]) (3 : Nat) (0 : Nat) [r7n_0 (rget (r7Ru1_l3_T.a2 v) (Int.toNat (r7Ru1_l3_T.a1 v)) (0 : Nat)) (r7Ru1_l3_s34 v) (r7Ru1_l3_s41 v)] else r7Ru1_l3_s44 v
def r7Ru1_l3_s46 (v : r7Ru1_l3_T) : Bool := bif rget (r7Ru1_l3_T.a2 v) (Int.toNat (r7Ru1_l3_T.a1 v)) (0 : Nat) == (13 : Int) then r7Ru1_l3_s29 v else false
def r7Ru1_l3_st (v : r7Ru1_l3_T) : List Prop × List (X × Bool × r7Ru1_l3_T) := ([r7Ru1_l3_s0 v = true → (0 : Int) ≤ r7Ru1_l3_T.a1 v ∧ r7Ru1_l3_T.a1 v < Int.ofNat (List.length (r7Ru1_l3_T.a2 v)), r7Ru1_l3_s0 v = true → (0 : Int) ≤ rget (r7Ru1_l3_T.a2 v) (Int.toNat (r7Ru1_l3_T.a1 v)) (2 : Nat) ∧ rget (r7Ru1_l3_T.a2 v) (Int.toNat (r7Ru1_l3_T.a1 v)) (2 : Nat) < Int.ofNat (12 : Nat), r7Ru1_l3_s0 v = true → r7Ru1_l3_s5 v = true → (0 : Int) ≤ rget (r7Ru1_l3_T.a2 v) (Int.toNat (r7Ru1_l3_T.a1 v)) (3 : Nat) ∧ rget (r7Ru1_l3_T.a2 v) (Int.toNat (r7Ru1_l3_T.a1 v)) (3 : Nat) < Int.ofNat (12 : Nat), r7Ru1_l3_s0 v = true → r7Ru1_l3_s6 v = false → r7Ru1_l3_s7 v = false → r7Ru1_l3_s8 v = false → r7Ru1_l3_s9 v = true → (0 : Int) ≤ r7Ru1_l3_s10 v ∧ r7Ru1_l3_s10 v < Int.ofNat (4 : Nat), r7Ru1_l3_s0 v = true → r7Ru1_l3_s6 v = false → r7Ru1_l3_s7 v = false → r7Ru1_l3_s8 v = false → r7Ru1_l3_s9 v = false → r7Ru1_l3_s11 v = true → (0 : Int) ≤ rget (r7Ru1_l3_T.a2 v) (Int.toNat (r7Ru1_l3_T.a1 v)) (1 : Nat) ∧ rget (r7Ru1_l3_T.a2 v) (Int.toNat (r7Ru1_l3_T.a1 v)) (1 : Nat) < Int.ofNat (12 : Nat), r7Ru1_l3_s0 v = true → r7Ru1_l3_s6 v = false → r7Ru1_l3_s7 v = false → r7Ru1_l3_s8 v = false → r7Ru1_l3_s9 v = false → r7Ru1_l3_s11 v = true → (0 : Int) ≤ r7Ru1_l3_s12 v ∧ r7Ru1_l3_s12 v < Int.ofNat (4 : Nat), r7Ru1_l3_s0 v = true → r7Ru1_l3_s6 v = false → r7Ru1_l3_s7 v = false → r7Ru1_l3_s8 v = false → r7Ru1_l3_s9 v = false → r7Ru1_l3_s11 v = true → (0 : Int) ≤ r7Ru1_l3_s10 v ∧ r7Ru1_l3_s10 v < Int.ofNat (4 : Nat), r7Ru1_l3_s0 v = true → r7Ru1_l3_s6 v = false → r7Ru1_l3_s7 v = false → r7Ru1_l3_s8 v = false → r7Ru1_l3_s9 v = false → r7Ru1_l3_s11 v = false → r7Ru1_l3_s13 v = true → (0 : Int) ≤ r7Ru1_l3_s14 v ∧ r7Ru1_l3_s14 v < Int.ofNat (12 : Nat), r7Ru1_l3_s0 v = true → r7Ru1_l3_s6 v = false → r7Ru1_l3_s7 v = false → r7Ru1_l3_s8 v = false → r7Ru1_l3_s9 v = false → r7Ru1_l3_s11 v = false → r7Ru1_l3_s13 v = true → (0 : Int) ≤ r7Ru1_l3_s16 v ∧ r7Ru1_l3_s16 v < Int.ofNat (12 : Nat), r7Ru1_l3_s0 v = true → r7Ru1_l3_s6 v = false → r7Ru1_l3_s7 v = false → r7Ru1_l3_s8 v = false → r7Ru1_l3_s9 v = false → r7Ru1_l3_s11 v = false → r7Ru1_l3_s13 v = true → (0 : Int) ≤ r7Ru1_l3_s18 v ∧ r7Ru1_l3_s18 v < Int.ofNat (12 : Nat), r7Ru1_l3_s0 v = true → r7Ru1_l3_s6 v = false → r7Ru1_l3_s7 v = false → r7Ru1_l3_s8 v = false → r7Ru1_l3_s9 v = false → r7Ru1_l3_s11 v = false → r7Ru1_l3_s13 v = true → (0 : Int) ≤ r7Ru1_l3_s19 v ∧ r7Ru1_l3_s19 v < Int.ofNat (12 : Nat), r7Ru1_l3_s0 v = true → r7Ru1_l3_s21 v = true → (0 : Int) ≤ rget (r7Ru1_l3_T.a2 v) (Int.toNat (r7Ru1_l3_T.a1 v)) (1 : Nat) ∧ rget (r7Ru1_l3_T.a2 v) (Int.toNat (r7Ru1_l3_T.a1 v)) (1 : Nat) < Int.ofNat (12 : Nat), r7Ru1_l3_s0 v = true → (rget (r7Ru1_l3_T.a2 v) (Int.toNat (r7Ru1_l3_T.a1 v)) (0 : Nat) == (12 : Int)) = false], [(X.e (0 : Nat), !r7Ru1_l3_s0 v, r7Ru1_l3_T.mk (r7Ru1_l3_T.a0 v) (r7Ru1_l3_T.a1 v) (r7Ru1_l3_T.a2 v) (r7Ru1_l3_T.a3 v) (r7Ru1_l3_T.a4 v) (r7Ru1_l3_T.a5 v) (r7Ru1_l3_T.a6 v)), (X.n, r7Ru1_l3_s0 v, r7Ru1_l3_T.mk (r7Ru1_l3_T.a0 v) (bif bif rget (r7Ru1_l3_T.a2 v) (Int.toNat (r7Ru1_l3_T.a1 v)) (0 : Nat) == (11 : Int) then r7Ru1_l3_s29 v else false then IntKind.wrap IntKind.i64 (r7Ru1_l3_s30 v + rget (r7Ru1_l3_T.a2 v) (Int.toNat (r7Ru1_l3_T.a1 v)) (4 : Nat)) else r7Ru1_l3_s30 v) (r7Ru1_l3_T.a2 v) (bif r7Ru1_l3_s21 v then List.set (r7Ru1_l3_T.a3 v) (r7Ru1_l3_s31 v) [rget (r7Ru1_l3_s45 v) (0 : Nat) (0 : Nat), rget (r7Ru1_l3_s45 v) (1 : Nat) (0 : Nat), rget (r7Ru1_l3_s45 v) (2 : Nat) (0 : Nat), rget (r7Ru1_l3_s45 v) (3 : Nat) (0 : Nat)] else r7Ru1_l3_T.a3 v) (bif r7Ru1_l3_s46 v then true else r7Ru1_l3_T.a4 v) (bif r7Ru1_l3_s46 v then true else bif rget (r7Ru1_l3_T.a2 v) (Int.toNat (r7Ru1_l3_T.a1 v)) (0 : Nat) == (0 : Int) then true else r7Ru1_l3_T.a5 v) (IntKind.wrap IntKind.i64 (r7Ru1_l3_T.a6 v + (1 : Int))))])
def r7Ru1_l3_rd : HS → Option r7Ru1_l3_T := rdS [.i, .i, .r, .r, .b, .b, .i] (fun l => r7Ru1_l3_T.mk (gI l 0) (gI l 1) (gR l 2) (gR l 3) (gB l 4) (gB l 5) (gI l 6)) r7Ru1_l3_hd
def r7Ru1_l3_sum : V.Sum := loopS r7Ru1_l3_hd r7Ru1_l3_rd r7Ru1_l3_st 18446744073709551616 [X.e (0 : Nat)] [0, 1, 2, 3, 8, 9, 10, 11, 12, 13, 14, 15, 16, 17, 18, 19, 30, 51, 62, 63, 66, 81, 91, 103, 123, 126, 149, 151, 165, 175, 186, 199, 208, 212] [0, 1, 3, 8] [1] [] [] 0
theorem r7Ru1_l3_E : ∀ v, bodyF Try.prog r7Ru1_D (ntOf Try.prog 85) [0, 1, 2, 3, 8, 9, 10, 11, 12, 13, 14, 15, 16, 17, 18, 19, 30, 51, 62, 63, 66, 81, 91, 103, 123, 126, 149, 151, 165, 175, 186, 199, 208, 212] [0, 1, 3, 8] [] 2000 [1] [] r7Ru1_l3_code 12 (r7Ru1_l3_hd v) = some ((r7Ru1_l3_st v).1, (r7Ru1_l3_st v).2.map fun q => (q.1, q.2.1, r7Ru1_l3_hd q.2.2)) := fun v => by kernel_rfl
theorem r7Ru1_l3_R : ∀ h v, r7Ru1_l3_rd h = some v → h = r7Ru1_l3_hd v := rdS_ok fun l => by kernel_rfl
set_option maxRecDepth 100000 in
theorem r7Ru1_l3_sok : SumOK Try.prog (ntOf Try.prog 85) [0, 1, 2, 3, 8, 9, 10, 11, 12, 13, 14, 15, 16, 17, 18, 19, 30, 51, 62, 63, 66, 81, 91, 103, 123, 126, 149, 151, 165, 175, 186, 199, 208, 212] (.block (blockOf (subs (bodyOf Try.prog 85) 1 3)) (.loop r7Ru1_l3_code)) r7Ru1_l3_sum := loopS_ok r7Ru1_D_ok follows r7Ru1_l3_E r7Ru1_l3_R (fun v => by kernel_rfl) (LOK_of _ _ (LOK_nil'))
def r7Ru1_0 (x2 x3 : Int) (p g : List (List Int)) (gn ov : Bool) (st : Int) : List (List Int) := r7Ru1_l3_T.a3 (V.valOf (lrun r7Ru1_l3_st (18446744073709551616 : Nat) (r7Ru1_l3_T.mk x3 x2 p g gn ov st)))
def r7Ru1_1 (x2 x3 : Int) (p g : List (List Int)) (gn ov : Bool) (st : Int) : Bool := r7Ru1_l3_T.a4 (V.valOf (lrun r7Ru1_l3_st (18446744073709551616 : Nat) (r7Ru1_l3_T.mk x3 x2 p g gn ov st)))
def r7Ru1_2 (x2 x3 : Int) (p g : List (List Int)) (gn ov : Bool) (st : Int) : Bool := r7Ru1_l3_T.a5 (V.valOf (lrun r7Ru1_l3_st (18446744073709551616 : Nat) (r7Ru1_l3_T.mk x3 x2 p g gn ov st)))
def r7Ru1_3 (x2 x3 : Int) (p g : List (List Int)) (gn ov : Bool) (st : Int) : Int := r7Ru1_l3_T.a6 (V.valOf (lrun r7Ru1_l3_st (18446744073709551616 : Nat) (r7Ru1_l3_T.mk x3 x2 p g gn ov st)))
def r7Ru1_o (x2 x3 : Int) (r0 : Bool) (p g : List (List Int)) (gn ov : Bool) (st : Int) : List Prop := [lok r7Ru1_l3_st (18446744073709551616 : Nat) (r7Ru1_l3_T.mk x3 x2 p g gn ov st)]
theorem r7Ru1_p (x2 x3 : Int) (r0 : Bool) (p g : List (List Int)) (gn ov : Bool) (st : Int) : evG Try.prog r7Ru1_D 2000 85 [0, 1, 2, 3, 8, 9, 10, 11, 12, 13, 14, 15, 16, 17, 18, 19, 30, 51, 62, 63, 66, 81, 91, 103, 123, 126, 149, 151, 165, 175, 186, 199, 208, 212] [(3, r7Ru1_l3_sum)] [1] [.a (.vec 0 0 5), .a (.ptr 1 0), .a (.int true .i64 x2), .a (.int true .i64 x3)] (padBs [⟨⟨0, 0, r0, some ⟨0, [.int .i64, .int .i64, .int .i64, .int .i64, .int .i64], p, none⟩⟩, []⟩, ⟨⟨0, 51, false, some ⟨0, [.int .i64, .int .i64, .int .i64, .int .i64], g, some 12⟩⟩, [some (.bool true gn), some (.bool true ov), some (.int true .i64 st)]⟩]) = some (r7Ru1_o x2 x3 r0 p g gn ov st, LV.t [], padOut [none, some (BC.mk (Hd.mk (nat_lit 0) (nat_lit 51) false (some (Rw.mk (nat_lit 0) [Kd.int IntKind.i64, Kd.int IntKind.i64, Kd.int IntKind.i64, Kd.int IntKind.i64] (r7Ru1_0 x2 x3 p g gn ov st) (some (nat_lit 12))))) [some (At.bool true (r7Ru1_1 x2 x3 p g gn ov st)), some (At.bool true (r7Ru1_2 x2 x3 p g gn ov st)), some (At.int true IntKind.i64 (r7Ru1_3 x2 x3 p g gn ov st))])]) := by kernel_rfl
def r7Ru1_c0 : Con
  | [.a (.vec 0 0 5), .a (.ptr 1 0), .a (.int true .i64 x2), .a (.int true .i64 x3)], [⟨⟨0, 0, r0, some ⟨0, [.int .i64, .int .i64, .int .i64, .int .i64, .int .i64], p, none⟩⟩, []⟩, ⟨⟨0, 51, false, some ⟨0, [.int .i64, .int .i64, .int .i64, .int .i64], g, some 12⟩⟩, [some (.bool true gn), some (.bool true ov), some (.int true .i64 st)]⟩] => some (r7Ru1_o x2 x3 r0 p g gn ov st, LV.t [], [none, some (BC.mk (Hd.mk (nat_lit 0) (nat_lit 51) false (some (Rw.mk (nat_lit 0) [Kd.int IntKind.i64, Kd.int IntKind.i64, Kd.int IntKind.i64, Kd.int IntKind.i64] (r7Ru1_0 x2 x3 p g gn ov st) (some (nat_lit 12))))) [some (At.bool true (r7Ru1_1 x2 x3 p g gn ov st)), some (At.bool true (r7Ru1_2 x2 x3 p g gn ov st)), some (At.int true IntKind.i64 (r7Ru1_3 x2 x3 p g gn ov st))])])
  | _, _ => none
def r7Ru1_c : Con := packC r7Ru1_c0
theorem r7Ru1_ok : ConOK Try.prog 85 (normC r7Ru1_c) := normC_ok (packC_ok (by
  intro args bs obs lv out h ho φ vs w may ha hM
  unfold r7Ru1_c0 at h
  split at h
  · simp only [Option.some.injEq, Prod.mk.injEq] at h
    obtain ⟨rfl, rfl, rfl⟩ := h
    rename_i x2 x3 r0 p g gn ov st
    exact evG_okL' r7Ru1_D_ok follows (LOK_cons (show subs (bodyOf Try.prog 85) 1 3 = [.block (blockOf (subs (bodyOf Try.prog 85) 1 3)) (.loop r7Ru1_l3_code)] from by kernel_rfl) r7Ru1_l3_sok (LOK_nil')) _ _ _ _ _ (r7Ru1_p x2 x3 r0 p g gn ov st) ho φ vs w may ha hM
  · cases h))
theorem r7Ru1_en : Enters Try.prog 85 := fun args => by kernel_rfl
-- 21296 866 11 ms

def tabUc1 : Tab := (85, normC r7Ru1_c) :: tabUc0
theorem tabUc1_ok : TOK Try.prog tabUc1 := TOK.cons r7Ru1_en r7Ru1_ok (tabUc0_ok)

end Go.Proofs.Ytcdejlgophpdjaa
end

section
namespace Go.Proofs.Ytcdejlgophpdjaa
open Go Go.RowKit Go.Proofs.Ytcdejlgophpdjaa.V
set_option linter.unusedVariables false

/-! azulejo/vm.Run -/
def vRun_s0 (p : List (List Int)) : Bool := pCh_0 true p == (0 : Int)
def vRun_s1 (zx1 : List Int) : List (List Int) := [[(zx1.getD 0 0), (zx1.getD 1 0), (zx1.getD 2 0), (zx1.getD 3 0)], [(zx1.getD 4 0), (zx1.getD 5 0), (zx1.getD 6 0), (zx1.getD 7 0)], [(zx1.getD 8 0), (zx1.getD 9 0), (zx1.getD 10 0), (zx1.getD 11 0)], [(zx1.getD 12 0), (zx1.getD 13 0), (zx1.getD 14 0), (zx1.getD 15 0)], [(zx1.getD 16 0), (zx1.getD 17 0), (zx1.getD 18 0), (zx1.getD 19 0)], [(zx1.getD 20 0), (zx1.getD 21 0), (zx1.getD 22 0), (zx1.getD 23 0)], [(zx1.getD 24 0), (zx1.getD 25 0), (zx1.getD 26 0), (zx1.getD 27 0)], [(zx1.getD 28 0), (zx1.getD 29 0), (zx1.getD 30 0), (zx1.getD 31 0)], [(zx1.getD 32 0), (zx1.getD 33 0), (zx1.getD 34 0), (zx1.getD 35 0)], [(zx1.getD 36 0), (zx1.getD 37 0), (zx1.getD 38 0), (zx1.getD 39 0)], [(zx1.getD 40 0), (zx1.getD 41 0), (zx1.getD 42 0), (zx1.getD 43 0)], [(zx1.getD 44 0), (zx1.getD 45 0), (zx1.getD 46 0), (zx1.getD 47 0)]]
def vRun_s2 (zx1 : List Int) : List (List Int) := rset (rset (rset (rset (rset (rset (rset (rset (rset (rset (rset (rset (vRun_s1 zx1) (0 : Nat) (0 : Nat) [fWi_0 (rget (vRun_s1 zx1) (0 : Nat) (0 : Nat)) (2147483647 : Int), fWi_0 (rget (vRun_s1 zx1) (0 : Nat) (1 : Nat)) (2147483647 : Int), fWi_0 (rget (vRun_s1 zx1) (0 : Nat) (2 : Nat)) (2147483647 : Int), fWi_0 (rget (vRun_s1 zx1) (0 : Nat) (3 : Nat)) (2147483647 : Int)]) (1 : Nat) (0 : Nat) [fWi_0 (rget (vRun_s1 zx1) (1 : Nat) (0 : Nat)) (2147483647 : Int), fWi_0 (rget (vRun_s1 zx1) (1 : Nat) (1 : Nat)) (2147483647 : Int), fWi_0 (rget (vRun_s1 zx1) (1 : Nat) (2 : Nat)) (2147483647 : Int), fWi_0 (rget (vRun_s1 zx1) (1 : Nat) (3 : Nat)) (2147483647 : Int)]) (2 : Nat) (0 : Nat) [fWi_0 (rget (vRun_s1 zx1) (2 : Nat) (0 : Nat)) (2147483647 : Int), fWi_0 (rget (vRun_s1 zx1) (2 : Nat) (1 : Nat)) (2147483647 : Int), fWi_0 (rget (vRun_s1 zx1) (2 : Nat) (2 : Nat)) (2147483647 : Int), fWi_0 (rget (vRun_s1 zx1) (2 : Nat) (3 : Nat)) (2147483647 : Int)]) (3 : Nat) (0 : Nat) [fWi_0 (rget (vRun_s1 zx1) (3 : Nat) (0 : Nat)) (2147483647 : Int), fWi_0 (rget (vRun_s1 zx1) (3 : Nat) (1 : Nat)) (2147483647 : Int), fWi_0 (rget (vRun_s1 zx1) (3 : Nat) (2 : Nat)) (2147483647 : Int), fWi_0 (rget (vRun_s1 zx1) (3 : Nat) (3 : Nat)) (2147483647 : Int)]) (4 : Nat) (0 : Nat) [fWi_0 (rget (vRun_s1 zx1) (4 : Nat) (0 : Nat)) (2147483647 : Int), fWi_0 (rget (vRun_s1 zx1) (4 : Nat) (1 : Nat)) (2147483647 : Int), fWi_0 (rget (vRun_s1 zx1) (4 : Nat) (2 : Nat)) (2147483647 : Int), fWi_0 (rget (vRun_s1 zx1) (4 : Nat) (3 : Nat)) (2147483647 : Int)]) (5 : Nat) (0 : Nat) [fWi_0 (rget (vRun_s1 zx1) (5 : Nat) (0 : Nat)) (2147483647 : Int), fWi_0 (rget (vRun_s1 zx1) (5 : Nat) (1 : Nat)) (2147483647 : Int), fWi_0 (rget (vRun_s1 zx1) (5 : Nat) (2 : Nat)) (2147483647 : Int), fWi_0 (rget (vRun_s1 zx1) (5 : Nat) (3 : Nat)) (2147483647 : Int)]) (6 : Nat) (0 : Nat) [fWi_0 (rget (vRun_s1 zx1) (6 : Nat) (0 : Nat)) (2147483647 : Int), fWi_0 (rget (vRun_s1 zx1) (6 : Nat) (1 : Nat)) (2147483647 : Int), fWi_0 (rget (vRun_s1 zx1) (6 : Nat) (2 : Nat)) (2147483647 : Int), fWi_0 (rget (vRun_s1 zx1) (6 : Nat) (3 : Nat)) (2147483647 : Int)]) (7 : Nat) (0 : Nat) [fWi_0 (rget (vRun_s1 zx1) (7 : Nat) (0 : Nat)) (2147483647 : Int), fWi_0 (rget (vRun_s1 zx1) (7 : Nat) (1 : Nat)) (2147483647 : Int), fWi_0 (rget (vRun_s1 zx1) (7 : Nat) (2 : Nat)) (2147483647 : Int), fWi_0 (rget (vRun_s1 zx1) (7 : Nat) (3 : Nat)) (2147483647 : Int)]) (8 : Nat) (0 : Nat) [fWi_0 (rget (vRun_s1 zx1) (8 : Nat) (0 : Nat)) (2147483647 : Int), fWi_0 (rget (vRun_s1 zx1) (8 : Nat) (1 : Nat)) (2147483647 : Int), fWi_0 (rget (vRun_s1 zx1) (8 : Nat) (2 : Nat)) (2147483647 : Int), fWi_0 (rget (vRun_s1 zx1) (8 : Nat) (3 : Nat)) (2147483647 : Int)]) (9 : Nat) (0 : Nat) [fWi_0 (rget (vRun_s1 zx1) (9 : Nat) (0 : Nat)) (2147483647 : Int), fWi_0 (rget (vRun_s1 zx1) (9 : Nat) (1 : Nat)) (2147483647 : Int), fWi_0 (rget (vRun_s1 zx1) (9 : Nat) (2 : Nat)) (2147483647 : Int), fWi_0 (rget (vRun_s1 zx1) (9 : Nat) (3 : Nat)) (2147483647 : Int)]) (10 : Nat) (0 : Nat) [fWi_0 (rget (vRun_s1 zx1) (10 : Nat) (0 : Nat)) (2147483647 : Int), fWi_0 (rget (vRun_s1 zx1) (10 : Nat) (1 : Nat)) (2147483647 : Int), fWi_0 (rget (vRun_s1 zx1) (10 : Nat) (2 : Nat)) (2147483647 : Int), fWi_0 (rget (vRun_s1 zx1) (10 : Nat) (3 : Nat)) (2147483647 : Int)]) (11 : Nat) (0 : Nat) [fWi_0 (rget (vRun_s1 zx1) (11 : Nat) (0 : Nat)) (2147483647 : Int), fWi_0 (rget (vRun_s1 zx1) (11 : Nat) (1 : Nat)) (2147483647 : Int), fWi_0 (rget (vRun_s1 zx1) (11 : Nat) (2 : Nat)) (2147483647 : Int), fWi_0 (rget (vRun_s1 zx1) (11 : Nat) (3 : Nat)) (2147483647 : Int)]
def vRun_s3 (zx1 : List Int) (p : List (List Int)) : List (List Int) := bif vRun_s0 p then vRa5_1 (0 : Int) (Int.ofNat (List.length p)) (vRun_s2 zx1) false (0 : Int) p else vRun_s2 zx1
def vRun_0 (zx1 : List Int) (p : List (List Int)) : Int := rget (vRun_s3 zx1 p) (0 : Nat) (0 : Nat)
def vRun_1 (zx1 : List Int) (p : List (List Int)) : Int := rget (vRun_s3 zx1 p) (0 : Nat) (1 : Nat)
def vRun_2 (zx1 : List Int) (p : List (List Int)) : Int := rget (vRun_s3 zx1 p) (0 : Nat) (2 : Nat)
def vRun_3 (zx1 : List Int) (p : List (List Int)) : Int := rget (vRun_s3 zx1 p) (0 : Nat) (3 : Nat)
def vRun_4 (zx1 : List Int) (p : List (List Int)) : Int := rget (vRun_s3 zx1 p) (1 : Nat) (0 : Nat)
def vRun_5 (zx1 : List Int) (p : List (List Int)) : Int := rget (vRun_s3 zx1 p) (1 : Nat) (1 : Nat)
def vRun_6 (zx1 : List Int) (p : List (List Int)) : Int := rget (vRun_s3 zx1 p) (1 : Nat) (2 : Nat)
def vRun_7 (zx1 : List Int) (p : List (List Int)) : Int := rget (vRun_s3 zx1 p) (1 : Nat) (3 : Nat)
def vRun_8 (zx1 : List Int) (p : List (List Int)) : Int := rget (vRun_s3 zx1 p) (2 : Nat) (0 : Nat)
def vRun_9 (zx1 : List Int) (p : List (List Int)) : Int := rget (vRun_s3 zx1 p) (2 : Nat) (1 : Nat)
def vRun_10 (zx1 : List Int) (p : List (List Int)) : Int := rget (vRun_s3 zx1 p) (2 : Nat) (2 : Nat)
def vRun_11 (zx1 : List Int) (p : List (List Int)) : Int := rget (vRun_s3 zx1 p) (2 : Nat) (3 : Nat)
def vRun_12 (zx1 : List Int) (p : List (List Int)) : Int := rget (vRun_s3 zx1 p) (3 : Nat) (0 : Nat)
def vRun_13 (zx1 : List Int) (p : List (List Int)) : Int := rget (vRun_s3 zx1 p) (3 : Nat) (1 : Nat)
def vRun_14 (zx1 : List Int) (p : List (List Int)) : Int := rget (vRun_s3 zx1 p) (3 : Nat) (2 : Nat)
def vRun_15 (zx1 : List Int) (p : List (List Int)) : Int := rget (vRun_s3 zx1 p) (3 : Nat) (3 : Nat)
def vRun_16 (zx1 : List Int) (p : List (List Int)) : Int := rget (vRun_s3 zx1 p) (4 : Nat) (0 : Nat)
def vRun_17 (zx1 : List Int) (p : List (List Int)) : Int := rget (vRun_s3 zx1 p) (4 : Nat) (1 : Nat)
def vRun_18 (zx1 : List Int) (p : List (List Int)) : Int := rget (vRun_s3 zx1 p) (4 : Nat) (2 : Nat)
def vRun_19 (zx1 : List Int) (p : List (List Int)) : Int := rget (vRun_s3 zx1 p) (4 : Nat) (3 : Nat)
def vRun_20 (zx1 : List Int) (p : List (List Int)) : Int := rget (vRun_s3 zx1 p) (5 : Nat) (0 : Nat)
def vRun_21 (zx1 : List Int) (p : List (List Int)) : Int := rget (vRun_s3 zx1 p) (5 : Nat) (1 : Nat)
def vRun_22 (zx1 : List Int) (p : List (List Int)) : Int := rget (vRun_s3 zx1 p) (5 : Nat) (2 : Nat)
def vRun_23 (zx1 : List Int) (p : List (List Int)) : Int := rget (vRun_s3 zx1 p) (5 : Nat) (3 : Nat)
def vRun_24 (zx1 : List Int) (p : List (List Int)) : Int := rget (vRun_s3 zx1 p) (6 : Nat) (0 : Nat)
def vRun_25 (zx1 : List Int) (p : List (List Int)) : Int := rget (vRun_s3 zx1 p) (6 : Nat) (1 : Nat)
def vRun_26 (zx1 : List Int) (p : List (List Int)) : Int := rget (vRun_s3 zx1 p) (6 : Nat) (2 : Nat)
def vRun_27 (zx1 : List Int) (p : List (List Int)) : Int := rget (vRun_s3 zx1 p) (6 : Nat) (3 : Nat)
def vRun_28 (zx1 : List Int) (p : List (List Int)) : Int := rget (vRun_s3 zx1 p) (7 : Nat) (0 : Nat)
def vRun_29 (zx1 : List Int) (p : List (List Int)) : Int := rget (vRun_s3 zx1 p) (7 : Nat) (1 : Nat)
def vRun_30 (zx1 : List Int) (p : List (List Int)) : Int := rget (vRun_s3 zx1 p) (7 : Nat) (2 : Nat)
def vRun_31 (zx1 : List Int) (p : List (List Int)) : Int := rget (vRun_s3 zx1 p) (7 : Nat) (3 : Nat)
def vRun_32 (zx1 : List Int) (p : List (List Int)) : Int := rget (vRun_s3 zx1 p) (8 : Nat) (0 : Nat)
def vRun_33 (zx1 : List Int) (p : List (List Int)) : Int := rget (vRun_s3 zx1 p) (8 : Nat) (1 : Nat)
def vRun_34 (zx1 : List Int) (p : List (List Int)) : Int := rget (vRun_s3 zx1 p) (8 : Nat) (2 : Nat)
def vRun_35 (zx1 : List Int) (p : List (List Int)) : Int := rget (vRun_s3 zx1 p) (8 : Nat) (3 : Nat)
def vRun_36 (zx1 : List Int) (p : List (List Int)) : Int := rget (vRun_s3 zx1 p) (9 : Nat) (0 : Nat)
def vRun_37 (zx1 : List Int) (p : List (List Int)) : Int := rget (vRun_s3 zx1 p) (9 : Nat) (1 : Nat)
def vRun_38 (zx1 : List Int) (p : List (List Int)) : Int := rget (vRun_s3 zx1 p) (9 : Nat) (2 : Nat)
def vRun_39 (zx1 : List Int) (p : List (List Int)) : Int := rget (vRun_s3 zx1 p) (9 : Nat) (3 : Nat)
def vRun_40 (zx1 : List Int) (p : List (List Int)) : Int := rget (vRun_s3 zx1 p) (10 : Nat) (0 : Nat)
def vRun_41 (zx1 : List Int) (p : List (List Int)) : Int := rget (vRun_s3 zx1 p) (10 : Nat) (1 : Nat)
def vRun_42 (zx1 : List Int) (p : List (List Int)) : Int := rget (vRun_s3 zx1 p) (10 : Nat) (2 : Nat)
def vRun_43 (zx1 : List Int) (p : List (List Int)) : Int := rget (vRun_s3 zx1 p) (10 : Nat) (3 : Nat)
def vRun_44 (zx1 : List Int) (p : List (List Int)) : Int := rget (vRun_s3 zx1 p) (11 : Nat) (0 : Nat)
def vRun_45 (zx1 : List Int) (p : List (List Int)) : Int := rget (vRun_s3 zx1 p) (11 : Nat) (1 : Nat)
def vRun_46 (zx1 : List Int) (p : List (List Int)) : Int := rget (vRun_s3 zx1 p) (11 : Nat) (2 : Nat)
def vRun_47 (zx1 : List Int) (p : List (List Int)) : Int := rget (vRun_s3 zx1 p) (11 : Nat) (3 : Nat)
def vRun_48 (zx1 : List Int) (p : List (List Int)) : Bool := bif vRun_s0 p then vRa5_2 (0 : Int) (Int.ofNat (List.length p)) (vRun_s2 zx1) false (0 : Int) p else false
def vRun_49 (zx1 : List Int) (p : List (List Int)) : Int := bif vRun_s0 p then vRa5_3 (0 : Int) (Int.ofNat (List.length p)) (vRun_s2 zx1) false (0 : Int) p else (0 : Int)
def vRun_o (zx1 : List Int) (r0 : Bool) (p : List (List Int)) : List Prop := [(!pCh_s0 p) = true → lok pCh_l29_st (18446744073709551616 : Nat) (pCh_l29_T.mk true (0 : Int) (Int.ofNat (List.length p)) (0 : Int) p), (!pCh_s0 p) = true → isX (X.e (0 : Nat)) (pCh_s1 true p) = true → lok pFu_l29_st (18446744073709551616 : Nat) (pFu_l29_T.mk (0 : Int) (Int.ofNat (List.length p)) (Int.ofNat (List.length p)) (0 : Int) p), vRun_s0 p = true → lok vRa5_l13_st (18446744073709551616 : Nat) (vRa5_l13_T.mk (Int.ofNat (List.length p)) false (0 : Int) (vRun_s2 zx1) false (0 : Int) p)]
theorem vRun_p (zx1 : List Int) (r0 : Bool) (p : List (List Int)) : evG Try.prog tabUc1 2000 86 [0, 1, 3, 4, 5, 6, 7, 20, 21, 22, 36] [] [] [.a (.vec 0 0 5), .g [.int true .i64 (zx1.getD 0 0), .int true .i64 (zx1.getD 1 0), .int true .i64 (zx1.getD 2 0), .int true .i64 (zx1.getD 3 0), .int true .i64 (zx1.getD 4 0), .int true .i64 (zx1.getD 5 0), .int true .i64 (zx1.getD 6 0), .int true .i64 (zx1.getD 7 0), .int true .i64 (zx1.getD 8 0), .int true .i64 (zx1.getD 9 0), .int true .i64 (zx1.getD 10 0), .int true .i64 (zx1.getD 11 0), .int true .i64 (zx1.getD 12 0), .int true .i64 (zx1.getD 13 0), .int true .i64 (zx1.getD 14 0), .int true .i64 (zx1.getD 15 0), .int true .i64 (zx1.getD 16 0), .int true .i64 (zx1.getD 17 0), .int true .i64 (zx1.getD 18 0), .int true .i64 (zx1.getD 19 0), .int true .i64 (zx1.getD 20 0), .int true .i64 (zx1.getD 21 0), .int true .i64 (zx1.getD 22 0), .int true .i64 (zx1.getD 23 0), .int true .i64 (zx1.getD 24 0), .int true .i64 (zx1.getD 25 0), .int true .i64 (zx1.getD 26 0), .int true .i64 (zx1.getD 27 0), .int true .i64 (zx1.getD 28 0), .int true .i64 (zx1.getD 29 0), .int true .i64 (zx1.getD 30 0), .int true .i64 (zx1.getD 31 0), .int true .i64 (zx1.getD 32 0), .int true .i64 (zx1.getD 33 0), .int true .i64 (zx1.getD 34 0), .int true .i64 (zx1.getD 35 0), .int true .i64 (zx1.getD 36 0), .int true .i64 (zx1.getD 37 0), .int true .i64 (zx1.getD 38 0), .int true .i64 (zx1.getD 39 0), .int true .i64 (zx1.getD 40 0), .int true .i64 (zx1.getD 41 0), .int true .i64 (zx1.getD 42 0), .int true .i64 (zx1.getD 43 0), .int true .i64 (zx1.getD 44 0), .int true .i64 (zx1.getD 45 0), .int true .i64 (zx1.getD 46 0), .int true .i64 (zx1.getD 47 0)]] [⟨⟨0, 0, r0, some ⟨0, [.int .u8, .int .u8, .int .u8, .int .u8, .int .i16], p, none⟩⟩, []⟩] = some (vRun_o zx1 r0 p, LV.g [At.int true IntKind.i64 (vRun_0 zx1 p), At.int true IntKind.i64 (vRun_1 zx1 p), At.int true IntKind.i64 (vRun_2 zx1 p), At.int true IntKind.i64 (vRun_3 zx1 p), At.int true IntKind.i64 (vRun_4 zx1 p), At.int true IntKind.i64 (vRun_5 zx1 p), At.int true IntKind.i64 (vRun_6 zx1 p), At.int true IntKind.i64 (vRun_7 zx1 p), At.int true IntKind.i64 (vRun_8 zx1 p), At.int true IntKind.i64 (vRun_9 zx1 p), At.int true IntKind.i64 (vRun_10 zx1 p), At.int true IntKind.i64 (vRun_11 zx1 p), At.int true IntKind.i64 (vRun_12 zx1 p), At.int true IntKind.i64 (vRun_13 zx1 p), At.int true IntKind.i64 (vRun_14 zx1 p), At.int true IntKind.i64 (vRun_15 zx1 p), At.int true IntKind.i64 (vRun_16 zx1 p), At.int true IntKind.i64 (vRun_17 zx1 p), At.int true IntKind.i64 (vRun_18 zx1 p), At.int true IntKind.i64 (vRun_19 zx1 p), At.int true IntKind.i64 (vRun_20 zx1 p), At.int true IntKind.i64 (vRun_21 zx1 p), At.int true IntKind.i64 (vRun_22 zx1 p), At.int true IntKind.i64 (vRun_23 zx1 p), At.int true IntKind.i64 (vRun_24 zx1 p), At.int true IntKind.i64 (vRun_25 zx1 p), At.int true IntKind.i64 (vRun_26 zx1 p), At.int true IntKind.i64 (vRun_27 zx1 p), At.int true IntKind.i64 (vRun_28 zx1 p), At.int true IntKind.i64 (vRun_29 zx1 p), At.int true IntKind.i64 (vRun_30 zx1 p), At.int true IntKind.i64 (vRun_31 zx1 p), At.int true IntKind.i64 (vRun_32 zx1 p), At.int true IntKind.i64 (vRun_33 zx1 p), At.int true IntKind.i64 (vRun_34 zx1 p), At.int true IntKind.i64 (vRun_35 zx1 p), At.int true IntKind.i64 (vRun_36 zx1 p), At.int true IntKind.i64 (vRun_37 zx1 p), At.int true IntKind.i64 (vRun_38 zx1 p), At.int true IntKind.i64 (vRun_39 zx1 p), At.int true IntKind.i64 (vRun_40 zx1 p), At.int true IntKind.i64 (vRun_41 zx1 p), At.int true IntKind.i64 (vRun_42 zx1 p), At.int true IntKind.i64 (vRun_43 zx1 p), At.int true IntKind.i64 (vRun_44 zx1 p), At.int true IntKind.i64 (vRun_45 zx1 p), At.int true IntKind.i64 (vRun_46 zx1 p), At.int true IntKind.i64 (vRun_47 zx1 p), At.bool true (vRun_48 zx1 p), At.int true IntKind.i64 (vRun_49 zx1 p)], [none]) := by kernel_rfl
def vRun_c : Con
  | [.a (.vec 0 0 5), .g zx1], [⟨⟨0, 0, r0, some ⟨0, [.int .u8, .int .u8, .int .u8, .int .u8, .int .i16], p, none⟩⟩, []⟩] => match rdI zx1 48 with
    | true => some (vRun_o (gZs zx1) r0 p, LV.g [At.int true IntKind.i64 (vRun_0 (gZs zx1) p), At.int true IntKind.i64 (vRun_1 (gZs zx1) p), At.int true IntKind.i64 (vRun_2 (gZs zx1) p), At.int true IntKind.i64 (vRun_3 (gZs zx1) p), At.int true IntKind.i64 (vRun_4 (gZs zx1) p), At.int true IntKind.i64 (vRun_5 (gZs zx1) p), At.int true IntKind.i64 (vRun_6 (gZs zx1) p), At.int true IntKind.i64 (vRun_7 (gZs zx1) p), At.int true IntKind.i64 (vRun_8 (gZs zx1) p), At.int true IntKind.i64 (vRun_9 (gZs zx1) p), At.int true IntKind.i64 (vRun_10 (gZs zx1) p), At.int true IntKind.i64 (vRun_11 (gZs zx1) p), At.int true IntKind.i64 (vRun_12 (gZs zx1) p), At.int true IntKind.i64 (vRun_13 (gZs zx1) p), At.int true IntKind.i64 (vRun_14 (gZs zx1) p), At.int true IntKind.i64 (vRun_15 (gZs zx1) p), At.int true IntKind.i64 (vRun_16 (gZs zx1) p), At.int true IntKind.i64 (vRun_17 (gZs zx1) p), At.int true IntKind.i64 (vRun_18 (gZs zx1) p), At.int true IntKind.i64 (vRun_19 (gZs zx1) p), At.int true IntKind.i64 (vRun_20 (gZs zx1) p), At.int true IntKind.i64 (vRun_21 (gZs zx1) p), At.int true IntKind.i64 (vRun_22 (gZs zx1) p), At.int true IntKind.i64 (vRun_23 (gZs zx1) p), At.int true IntKind.i64 (vRun_24 (gZs zx1) p), At.int true IntKind.i64 (vRun_25 (gZs zx1) p), At.int true IntKind.i64 (vRun_26 (gZs zx1) p), At.int true IntKind.i64 (vRun_27 (gZs zx1) p), At.int true IntKind.i64 (vRun_28 (gZs zx1) p), At.int true IntKind.i64 (vRun_29 (gZs zx1) p), At.int true IntKind.i64 (vRun_30 (gZs zx1) p), At.int true IntKind.i64 (vRun_31 (gZs zx1) p), At.int true IntKind.i64 (vRun_32 (gZs zx1) p), At.int true IntKind.i64 (vRun_33 (gZs zx1) p), At.int true IntKind.i64 (vRun_34 (gZs zx1) p), At.int true IntKind.i64 (vRun_35 (gZs zx1) p), At.int true IntKind.i64 (vRun_36 (gZs zx1) p), At.int true IntKind.i64 (vRun_37 (gZs zx1) p), At.int true IntKind.i64 (vRun_38 (gZs zx1) p), At.int true IntKind.i64 (vRun_39 (gZs zx1) p), At.int true IntKind.i64 (vRun_40 (gZs zx1) p), At.int true IntKind.i64 (vRun_41 (gZs zx1) p), At.int true IntKind.i64 (vRun_42 (gZs zx1) p), At.int true IntKind.i64 (vRun_43 (gZs zx1) p), At.int true IntKind.i64 (vRun_44 (gZs zx1) p), At.int true IntKind.i64 (vRun_45 (gZs zx1) p), At.int true IntKind.i64 (vRun_46 (gZs zx1) p), At.int true IntKind.i64 (vRun_47 (gZs zx1) p), At.bool true (vRun_48 (gZs zx1) p), At.int true IntKind.i64 (vRun_49 (gZs zx1) p)], [none])
    | false => none
  | _, _ => none
theorem vRun_ok : ConOK Try.prog 86 (normC vRun_c) := normC_ok (by
  intro args bs obs lv out h ho φ vs w may ha hM
  unfold vRun_c at h
  split at h
  · rename_i zx1 r0 p
    split at h
    · rename_i hz
      simp only [Option.some.injEq, Prod.mk.injEq] at h
      obtain ⟨rfl, rfl, rfl⟩ := h
      rw [rdI_oks hz] at ha
      exact evG_ok tabUc1_ok follows _ _ _ _ _ (vRun_p (gZs zx1) r0 p) ho φ vs w may ha hM
    · cases h
  · cases h)
theorem vRun_en : Enters Try.prog 86 := fun args => by kernel_rfl
-- 4278 1693 376 ms

/-! azulejo/vm.Run -/
def vRunN_s0 (zx1 : List Int) : List (List Int) := [[(zx1.getD 0 0), (zx1.getD 1 0), (zx1.getD 2 0), (zx1.getD 3 0)], [(zx1.getD 4 0), (zx1.getD 5 0), (zx1.getD 6 0), (zx1.getD 7 0)], [(zx1.getD 8 0), (zx1.getD 9 0), (zx1.getD 10 0), (zx1.getD 11 0)], [(zx1.getD 12 0), (zx1.getD 13 0), (zx1.getD 14 0), (zx1.getD 15 0)], [(zx1.getD 16 0), (zx1.getD 17 0), (zx1.getD 18 0), (zx1.getD 19 0)], [(zx1.getD 20 0), (zx1.getD 21 0), (zx1.getD 22 0), (zx1.getD 23 0)], [(zx1.getD 24 0), (zx1.getD 25 0), (zx1.getD 26 0), (zx1.getD 27 0)], [(zx1.getD 28 0), (zx1.getD 29 0), (zx1.getD 30 0), (zx1.getD 31 0)], [(zx1.getD 32 0), (zx1.getD 33 0), (zx1.getD 34 0), (zx1.getD 35 0)], [(zx1.getD 36 0), (zx1.getD 37 0), (zx1.getD 38 0), (zx1.getD 39 0)], [(zx1.getD 40 0), (zx1.getD 41 0), (zx1.getD 42 0), (zx1.getD 43 0)], [(zx1.getD 44 0), (zx1.getD 45 0), (zx1.getD 46 0), (zx1.getD 47 0)]]
def vRunN_s1 (zx1 : List Int) : List (List Int) := rset (rset (rset (rset (rset (rset (rset (rset (rset (rset (rset (rset (vRunN_s0 zx1) (0 : Nat) (0 : Nat) [fWi_0 (rget (vRunN_s0 zx1) (0 : Nat) (0 : Nat)) (2147483647 : Int), fWi_0 (rget (vRunN_s0 zx1) (0 : Nat) (1 : Nat)) (2147483647 : Int), fWi_0 (rget (vRunN_s0 zx1) (0 : Nat) (2 : Nat)) (2147483647 : Int), fWi_0 (rget (vRunN_s0 zx1) (0 : Nat) (3 : Nat)) (2147483647 : Int)]) (1 : Nat) (0 : Nat) [fWi_0 (rget (vRunN_s0 zx1) (1 : Nat) (0 : Nat)) (2147483647 : Int), fWi_0 (rget (vRunN_s0 zx1) (1 : Nat) (1 : Nat)) (2147483647 : Int), fWi_0 (rget (vRunN_s0 zx1) (1 : Nat) (2 : Nat)) (2147483647 : Int), fWi_0 (rget (vRunN_s0 zx1) (1 : Nat) (3 : Nat)) (2147483647 : Int)]) (2 : Nat) (0 : Nat) [fWi_0 (rget (vRunN_s0 zx1) (2 : Nat) (0 : Nat)) (2147483647 : Int), fWi_0 (rget (vRunN_s0 zx1) (2 : Nat) (1 : Nat)) (2147483647 : Int), fWi_0 (rget (vRunN_s0 zx1) (2 : Nat) (2 : Nat)) (2147483647 : Int), fWi_0 (rget (vRunN_s0 zx1) (2 : Nat) (3 : Nat)) (2147483647 : Int)]) (3 : Nat) (0 : Nat) [fWi_0 (rget (vRunN_s0 zx1) (3 : Nat) (0 : Nat)) (2147483647 : Int), fWi_0 (rget (vRunN_s0 zx1) (3 : Nat) (1 : Nat)) (2147483647 : Int), fWi_0 (rget (vRunN_s0 zx1) (3 : Nat) (2 : Nat)) (2147483647 : Int), fWi_0 (rget (vRunN_s0 zx1) (3 : Nat) (3 : Nat)) (2147483647 : Int)]) (4 : Nat) (0 : Nat) [fWi_0 (rget (vRunN_s0 zx1) (4 : Nat) (0 : Nat)) (2147483647 : Int), fWi_0 (rget (vRunN_s0 zx1) (4 : Nat) (1 : Nat)) (2147483647 : Int), fWi_0 (rget (vRunN_s0 zx1) (4 : Nat) (2 : Nat)) (2147483647 : Int), fWi_0 (rget (vRunN_s0 zx1) (4 : Nat) (3 : Nat)) (2147483647 : Int)]) (5 : Nat) (0 : Nat) [fWi_0 (rget (vRunN_s0 zx1) (5 : Nat) (0 : Nat)) (2147483647 : Int), fWi_0 (rget (vRunN_s0 zx1) (5 : Nat) (1 : Nat)) (2147483647 : Int), fWi_0 (rget (vRunN_s0 zx1) (5 : Nat) (2 : Nat)) (2147483647 : Int), fWi_0 (rget (vRunN_s0 zx1) (5 : Nat) (3 : Nat)) (2147483647 : Int)]) (6 : Nat) (0 : Nat) [fWi_0 (rget (vRunN_s0 zx1) (6 : Nat) (0 : Nat)) (2147483647 : Int), fWi_0 (rget (vRunN_s0 zx1) (6 : Nat) (1 : Nat)) (2147483647 : Int), fWi_0 (rget (vRunN_s0 zx1) (6 : Nat) (2 : Nat)) (2147483647 : Int), fWi_0 (rget (vRunN_s0 zx1) (6 : Nat) (3 : Nat)) (2147483647 : Int)]) (7 : Nat) (0 : Nat) [fWi_0 (rget (vRunN_s0 zx1) (7 : Nat) (0 : Nat)) (2147483647 : Int), fWi_0 (rget (vRunN_s0 zx1) (7 : Nat) (1 : Nat)) (2147483647 : Int), fWi_0 (rget (vRunN_s0 zx1) (7 : Nat) (2 : Nat)) (2147483647 : Int), fWi_0 (rget (vRunN_s0 zx1) (7 : Nat) (3 : Nat)) (2147483647 : Int)]) (8 : Nat) (0 : Nat) [fWi_0 (rget (vRunN_s0 zx1) (8 : Nat) (0 : Nat)) (2147483647 : Int), fWi_0 (rget (vRunN_s0 zx1) (8 : Nat) (1 : Nat)) (2147483647 : Int), fWi_0 (rget (vRunN_s0 zx1) (8 : Nat) (2 : Nat)) (2147483647 : Int), fWi_0 (rget (vRunN_s0 zx1) (8 : Nat) (3 : Nat)) (2147483647 : Int)]) (9 : Nat) (0 : Nat) [fWi_0 (rget (vRunN_s0 zx1) (9 : Nat) (0 : Nat)) (2147483647 : Int), fWi_0 (rget (vRunN_s0 zx1) (9 : Nat) (1 : Nat)) (2147483647 : Int), fWi_0 (rget (vRunN_s0 zx1) (9 : Nat) (2 : Nat)) (2147483647 : Int), fWi_0 (rget (vRunN_s0 zx1) (9 : Nat) (3 : Nat)) (2147483647 : Int)]) (10 : Nat) (0 : Nat) [fWi_0 (rget (vRunN_s0 zx1) (10 : Nat) (0 : Nat)) (2147483647 : Int), fWi_0 (rget (vRunN_s0 zx1) (10 : Nat) (1 : Nat)) (2147483647 : Int), fWi_0 (rget (vRunN_s0 zx1) (10 : Nat) (2 : Nat)) (2147483647 : Int), fWi_0 (rget (vRunN_s0 zx1) (10 : Nat) (3 : Nat)) (2147483647 : Int)]) (11 : Nat) (0 : Nat) [fWi_0 (rget (vRunN_s0 zx1) (11 : Nat) (0 : Nat)) (2147483647 : Int), fWi_0 (rget (vRunN_s0 zx1) (11 : Nat) (1 : Nat)) (2147483647 : Int), fWi_0 (rget (vRunN_s0 zx1) (11 : Nat) (2 : Nat)) (2147483647 : Int), fWi_0 (rget (vRunN_s0 zx1) (11 : Nat) (3 : Nat)) (2147483647 : Int)]
def vRunN_0 (zx1 : List Int) : Int := rget (vRunN_s1 zx1) (0 : Nat) (0 : Nat)
def vRunN_1 (zx1 : List Int) : Int := rget (vRunN_s1 zx1) (0 : Nat) (1 : Nat)
def vRunN_2 (zx1 : List Int) : Int := rget (vRunN_s1 zx1) (0 : Nat) (2 : Nat)
def vRunN_3 (zx1 : List Int) : Int := rget (vRunN_s1 zx1) (0 : Nat) (3 : Nat)
def vRunN_4 (zx1 : List Int) : Int := rget (vRunN_s1 zx1) (1 : Nat) (0 : Nat)
def vRunN_5 (zx1 : List Int) : Int := rget (vRunN_s1 zx1) (1 : Nat) (1 : Nat)
def vRunN_6 (zx1 : List Int) : Int := rget (vRunN_s1 zx1) (1 : Nat) (2 : Nat)
def vRunN_7 (zx1 : List Int) : Int := rget (vRunN_s1 zx1) (1 : Nat) (3 : Nat)
def vRunN_8 (zx1 : List Int) : Int := rget (vRunN_s1 zx1) (2 : Nat) (0 : Nat)
def vRunN_9 (zx1 : List Int) : Int := rget (vRunN_s1 zx1) (2 : Nat) (1 : Nat)
def vRunN_10 (zx1 : List Int) : Int := rget (vRunN_s1 zx1) (2 : Nat) (2 : Nat)
def vRunN_11 (zx1 : List Int) : Int := rget (vRunN_s1 zx1) (2 : Nat) (3 : Nat)
def vRunN_12 (zx1 : List Int) : Int := rget (vRunN_s1 zx1) (3 : Nat) (0 : Nat)
def vRunN_13 (zx1 : List Int) : Int := rget (vRunN_s1 zx1) (3 : Nat) (1 : Nat)
def vRunN_14 (zx1 : List Int) : Int := rget (vRunN_s1 zx1) (3 : Nat) (2 : Nat)
def vRunN_15 (zx1 : List Int) : Int := rget (vRunN_s1 zx1) (3 : Nat) (3 : Nat)
def vRunN_16 (zx1 : List Int) : Int := rget (vRunN_s1 zx1) (4 : Nat) (0 : Nat)
def vRunN_17 (zx1 : List Int) : Int := rget (vRunN_s1 zx1) (4 : Nat) (1 : Nat)
def vRunN_18 (zx1 : List Int) : Int := rget (vRunN_s1 zx1) (4 : Nat) (2 : Nat)
def vRunN_19 (zx1 : List Int) : Int := rget (vRunN_s1 zx1) (4 : Nat) (3 : Nat)
def vRunN_20 (zx1 : List Int) : Int := rget (vRunN_s1 zx1) (5 : Nat) (0 : Nat)
def vRunN_21 (zx1 : List Int) : Int := rget (vRunN_s1 zx1) (5 : Nat) (1 : Nat)
def vRunN_22 (zx1 : List Int) : Int := rget (vRunN_s1 zx1) (5 : Nat) (2 : Nat)
def vRunN_23 (zx1 : List Int) : Int := rget (vRunN_s1 zx1) (5 : Nat) (3 : Nat)
def vRunN_24 (zx1 : List Int) : Int := rget (vRunN_s1 zx1) (6 : Nat) (0 : Nat)
def vRunN_25 (zx1 : List Int) : Int := rget (vRunN_s1 zx1) (6 : Nat) (1 : Nat)
def vRunN_26 (zx1 : List Int) : Int := rget (vRunN_s1 zx1) (6 : Nat) (2 : Nat)
def vRunN_27 (zx1 : List Int) : Int := rget (vRunN_s1 zx1) (6 : Nat) (3 : Nat)
def vRunN_28 (zx1 : List Int) : Int := rget (vRunN_s1 zx1) (7 : Nat) (0 : Nat)
def vRunN_29 (zx1 : List Int) : Int := rget (vRunN_s1 zx1) (7 : Nat) (1 : Nat)
def vRunN_30 (zx1 : List Int) : Int := rget (vRunN_s1 zx1) (7 : Nat) (2 : Nat)
def vRunN_31 (zx1 : List Int) : Int := rget (vRunN_s1 zx1) (7 : Nat) (3 : Nat)
def vRunN_32 (zx1 : List Int) : Int := rget (vRunN_s1 zx1) (8 : Nat) (0 : Nat)
def vRunN_33 (zx1 : List Int) : Int := rget (vRunN_s1 zx1) (8 : Nat) (1 : Nat)
def vRunN_34 (zx1 : List Int) : Int := rget (vRunN_s1 zx1) (8 : Nat) (2 : Nat)
def vRunN_35 (zx1 : List Int) : Int := rget (vRunN_s1 zx1) (8 : Nat) (3 : Nat)
def vRunN_36 (zx1 : List Int) : Int := rget (vRunN_s1 zx1) (9 : Nat) (0 : Nat)
def vRunN_37 (zx1 : List Int) : Int := rget (vRunN_s1 zx1) (9 : Nat) (1 : Nat)
def vRunN_38 (zx1 : List Int) : Int := rget (vRunN_s1 zx1) (9 : Nat) (2 : Nat)
def vRunN_39 (zx1 : List Int) : Int := rget (vRunN_s1 zx1) (9 : Nat) (3 : Nat)
def vRunN_40 (zx1 : List Int) : Int := rget (vRunN_s1 zx1) (10 : Nat) (0 : Nat)
def vRunN_41 (zx1 : List Int) : Int := rget (vRunN_s1 zx1) (10 : Nat) (1 : Nat)
def vRunN_42 (zx1 : List Int) : Int := rget (vRunN_s1 zx1) (10 : Nat) (2 : Nat)
def vRunN_43 (zx1 : List Int) : Int := rget (vRunN_s1 zx1) (10 : Nat) (3 : Nat)
def vRunN_44 (zx1 : List Int) : Int := rget (vRunN_s1 zx1) (11 : Nat) (0 : Nat)
def vRunN_45 (zx1 : List Int) : Int := rget (vRunN_s1 zx1) (11 : Nat) (1 : Nat)
def vRunN_46 (zx1 : List Int) : Int := rget (vRunN_s1 zx1) (11 : Nat) (2 : Nat)
def vRunN_47 (zx1 : List Int) : Int := rget (vRunN_s1 zx1) (11 : Nat) (3 : Nat)
def vRunN_48 : Int := (0 : Int)
def vRunN_o (zx1 : List Int) : List Prop := [decide ((0 : Int) < (0 : Int)) = false]
theorem vRunN_p (zx1 : List Int) : evG Try.prog tabUc1 2000 86 [0, 1, 3, 4, 5, 6, 7, 20, 21, 22, 36] [] [] [.a .nils, .g [.int true .i64 (zx1.getD 0 0), .int true .i64 (zx1.getD 1 0), .int true .i64 (zx1.getD 2 0), .int true .i64 (zx1.getD 3 0), .int true .i64 (zx1.getD 4 0), .int true .i64 (zx1.getD 5 0), .int true .i64 (zx1.getD 6 0), .int true .i64 (zx1.getD 7 0), .int true .i64 (zx1.getD 8 0), .int true .i64 (zx1.getD 9 0), .int true .i64 (zx1.getD 10 0), .int true .i64 (zx1.getD 11 0), .int true .i64 (zx1.getD 12 0), .int true .i64 (zx1.getD 13 0), .int true .i64 (zx1.getD 14 0), .int true .i64 (zx1.getD 15 0), .int true .i64 (zx1.getD 16 0), .int true .i64 (zx1.getD 17 0), .int true .i64 (zx1.getD 18 0), .int true .i64 (zx1.getD 19 0), .int true .i64 (zx1.getD 20 0), .int true .i64 (zx1.getD 21 0), .int true .i64 (zx1.getD 22 0), .int true .i64 (zx1.getD 23 0), .int true .i64 (zx1.getD 24 0), .int true .i64 (zx1.getD 25 0), .int true .i64 (zx1.getD 26 0), .int true .i64 (zx1.getD 27 0), .int true .i64 (zx1.getD 28 0), .int true .i64 (zx1.getD 29 0), .int true .i64 (zx1.getD 30 0), .int true .i64 (zx1.getD 31 0), .int true .i64 (zx1.getD 32 0), .int true .i64 (zx1.getD 33 0), .int true .i64 (zx1.getD 34 0), .int true .i64 (zx1.getD 35 0), .int true .i64 (zx1.getD 36 0), .int true .i64 (zx1.getD 37 0), .int true .i64 (zx1.getD 38 0), .int true .i64 (zx1.getD 39 0), .int true .i64 (zx1.getD 40 0), .int true .i64 (zx1.getD 41 0), .int true .i64 (zx1.getD 42 0), .int true .i64 (zx1.getD 43 0), .int true .i64 (zx1.getD 44 0), .int true .i64 (zx1.getD 45 0), .int true .i64 (zx1.getD 46 0), .int true .i64 (zx1.getD 47 0)]] [] = some (vRunN_o zx1, LV.g [At.int true IntKind.i64 (vRunN_0 zx1), At.int true IntKind.i64 (vRunN_1 zx1), At.int true IntKind.i64 (vRunN_2 zx1), At.int true IntKind.i64 (vRunN_3 zx1), At.int true IntKind.i64 (vRunN_4 zx1), At.int true IntKind.i64 (vRunN_5 zx1), At.int true IntKind.i64 (vRunN_6 zx1), At.int true IntKind.i64 (vRunN_7 zx1), At.int true IntKind.i64 (vRunN_8 zx1), At.int true IntKind.i64 (vRunN_9 zx1), At.int true IntKind.i64 (vRunN_10 zx1), At.int true IntKind.i64 (vRunN_11 zx1), At.int true IntKind.i64 (vRunN_12 zx1), At.int true IntKind.i64 (vRunN_13 zx1), At.int true IntKind.i64 (vRunN_14 zx1), At.int true IntKind.i64 (vRunN_15 zx1), At.int true IntKind.i64 (vRunN_16 zx1), At.int true IntKind.i64 (vRunN_17 zx1), At.int true IntKind.i64 (vRunN_18 zx1), At.int true IntKind.i64 (vRunN_19 zx1), At.int true IntKind.i64 (vRunN_20 zx1), At.int true IntKind.i64 (vRunN_21 zx1), At.int true IntKind.i64 (vRunN_22 zx1), At.int true IntKind.i64 (vRunN_23 zx1), At.int true IntKind.i64 (vRunN_24 zx1), At.int true IntKind.i64 (vRunN_25 zx1), At.int true IntKind.i64 (vRunN_26 zx1), At.int true IntKind.i64 (vRunN_27 zx1), At.int true IntKind.i64 (vRunN_28 zx1), At.int true IntKind.i64 (vRunN_29 zx1), At.int true IntKind.i64 (vRunN_30 zx1), At.int true IntKind.i64 (vRunN_31 zx1), At.int true IntKind.i64 (vRunN_32 zx1), At.int true IntKind.i64 (vRunN_33 zx1), At.int true IntKind.i64 (vRunN_34 zx1), At.int true IntKind.i64 (vRunN_35 zx1), At.int true IntKind.i64 (vRunN_36 zx1), At.int true IntKind.i64 (vRunN_37 zx1), At.int true IntKind.i64 (vRunN_38 zx1), At.int true IntKind.i64 (vRunN_39 zx1), At.int true IntKind.i64 (vRunN_40 zx1), At.int true IntKind.i64 (vRunN_41 zx1), At.int true IntKind.i64 (vRunN_42 zx1), At.int true IntKind.i64 (vRunN_43 zx1), At.int true IntKind.i64 (vRunN_44 zx1), At.int true IntKind.i64 (vRunN_45 zx1), At.int true IntKind.i64 (vRunN_46 zx1), At.int true IntKind.i64 (vRunN_47 zx1), At.bool false false, At.int false IntKind.i64 vRunN_48], []) := by kernel_rfl
def vRunN_c : Con
  | [.a .nils, .g zx1], [] => match rdI zx1 48 with
    | true => some (vRunN_o (gZs zx1), LV.g [At.int true IntKind.i64 (vRunN_0 (gZs zx1)), At.int true IntKind.i64 (vRunN_1 (gZs zx1)), At.int true IntKind.i64 (vRunN_2 (gZs zx1)), At.int true IntKind.i64 (vRunN_3 (gZs zx1)), At.int true IntKind.i64 (vRunN_4 (gZs zx1)), At.int true IntKind.i64 (vRunN_5 (gZs zx1)), At.int true IntKind.i64 (vRunN_6 (gZs zx1)), At.int true IntKind.i64 (vRunN_7 (gZs zx1)), At.int true IntKind.i64 (vRunN_8 (gZs zx1)), At.int true IntKind.i64 (vRunN_9 (gZs zx1)), At.int true IntKind.i64 (vRunN_10 (gZs zx1)), At.int true IntKind.i64 (vRunN_11 (gZs zx1)), At.int true IntKind.i64 (vRunN_12 (gZs zx1)), At.int true IntKind.i64 (vRunN_13 (gZs zx1)), At.int true IntKind.i64 (vRunN_14 (gZs zx1)), At.int true IntKind.i64 (vRunN_15 (gZs zx1)), At.int true IntKind.i64 (vRunN_16 (gZs zx1)), At.int true IntKind.i64 (vRunN_17 (gZs zx1)), At.int true IntKind.i64 (vRunN_18 (gZs zx1)), At.int true IntKind.i64 (vRunN_19 (gZs zx1)), At.int true IntKind.i64 (vRunN_20 (gZs zx1)), At.int true IntKind.i64 (vRunN_21 (gZs zx1)), At.int true IntKind.i64 (vRunN_22 (gZs zx1)), At.int true IntKind.i64 (vRunN_23 (gZs zx1)), At.int true IntKind.i64 (vRunN_24 (gZs zx1)), At.int true IntKind.i64 (vRunN_25 (gZs zx1)), At.int true IntKind.i64 (vRunN_26 (gZs zx1)), At.int true IntKind.i64 (vRunN_27 (gZs zx1)), At.int true IntKind.i64 (vRunN_28 (gZs zx1)), At.int true IntKind.i64 (vRunN_29 (gZs zx1)), At.int true IntKind.i64 (vRunN_30 (gZs zx1)), At.int true IntKind.i64 (vRunN_31 (gZs zx1)), At.int true IntKind.i64 (vRunN_32 (gZs zx1)), At.int true IntKind.i64 (vRunN_33 (gZs zx1)), At.int true IntKind.i64 (vRunN_34 (gZs zx1)), At.int true IntKind.i64 (vRunN_35 (gZs zx1)), At.int true IntKind.i64 (vRunN_36 (gZs zx1)), At.int true IntKind.i64 (vRunN_37 (gZs zx1)), At.int true IntKind.i64 (vRunN_38 (gZs zx1)), At.int true IntKind.i64 (vRunN_39 (gZs zx1)), At.int true IntKind.i64 (vRunN_40 (gZs zx1)), At.int true IntKind.i64 (vRunN_41 (gZs zx1)), At.int true IntKind.i64 (vRunN_42 (gZs zx1)), At.int true IntKind.i64 (vRunN_43 (gZs zx1)), At.int true IntKind.i64 (vRunN_44 (gZs zx1)), At.int true IntKind.i64 (vRunN_45 (gZs zx1)), At.int true IntKind.i64 (vRunN_46 (gZs zx1)), At.int true IntKind.i64 (vRunN_47 (gZs zx1)), At.bool false false, At.int false IntKind.i64 vRunN_48], [])
    | false => none
  | _, _ => none
theorem vRunN_ok : ConOK Try.prog 86 (normC vRunN_c) := normC_ok (by
  intro args bs obs lv out h ho φ vs w may ha hM
  unfold vRunN_c at h
  split at h
  · rename_i zx1
    split at h
    · rename_i hz
      simp only [Option.some.injEq, Prod.mk.injEq] at h
      obtain ⟨rfl, rfl, rfl⟩ := h
      rw [rdI_oks hz] at ha
      exact evG_ok tabUc1_ok follows _ _ _ _ _ (vRunN_p (gZs zx1)) ho φ vs w may ha hM
    · cases h
  · cases h)
theorem vRunN_en : Enters Try.prog 86 := fun args => by kernel_rfl
-- 4233 230 308 ms

def tabUc3 : Tab := (86, normC vRun_c) :: (86, normC vRunN_c) :: tabUc1
theorem tabUc3_ok : TOK Try.prog tabUc3 := TOK.cons vRun_en vRun_ok (TOK.cons vRunN_en vRunN_ok (tabUc1_ok))

end Go.Proofs.Ytcdejlgophpdjaa
end

section
namespace Go.Proofs.Ytcdejlgophpdjaa
open Go Go.RowKit Go.Proofs.Ytcdejlgophpdjaa.V
set_option linter.unusedVariables false
set_option linter.unusedSectionVars false

namespace Vm

theorem mr_run {α : Type} {st : α → List Prop × List (X × Bool × α)} {I : Nat → α → Prop} {R : X → α → Prop}
    (hs : ∀ d v, I d v → Alls (st v).1 ∧ ((∃ v' d', pick1 (st v).2 = some (.n, v') ∧ d' < d ∧ I d' v') ∨ (∃ x v', x ≠ .n ∧ pick1 (st v).2 = some (x, v') ∧ R x v'))) :
    ∀ (f d : Nat) (v : α), I d v → d < f → (∃ x v', lrun st f v = some (x, v') ∧ x ≠ .n ∧ R x v') ∧ lok st f v
  | 0, d, v, h, hf => by omega
  | f + 1, d, v, h, hf => by
    obtain ⟨ho, c⟩ := hs d v h
    unfold lrun lok
    rcases c with ⟨v', d', h1, h2, h3⟩ | ⟨x, v', h1, h2, h3⟩
    · obtain ⟨a, b⟩ := mr_run hs f d' v' h3 (by omega)
      rw [h1]
      exact ⟨a, ho, b⟩
    · rw [h2]
      cases x with
      | n => exact absurd rfl h1
      | e k => exact ⟨⟨_, v', rfl, h1, h3⟩, ho, trivial⟩
      | r => exact ⟨⟨_, v', rfl, h1, h3⟩, ho, trivial⟩

/-- A program's fields lie within their kinds. -/
structure Pb (p : List (List Int)) : Prop where
  len : p.length ≤ 1000
  f : ∀ i j, j < 4 → 0 ≤ rget p i j ∧ rget p i j ≤ 255
  m : ∀ i, -32768 ≤ rget p i 4 ∧ rget p i 4 ≤ 32767

/-- An instruction lies in a loop's body. -/
def Inb (p : List (List Int)) (k : Nat) (x : Int) : Prop := k < p.length ∧ rget p k 0 = 12 ∧ (k : Int) + 1 ≤ x ∧ x < (k : Int) + 1 + rget p k 3

instance {p : List (List Int)} {k : Nat} {x : Int} : Decidable (Inb p k x) := by unfold Inb; infer_instance

section
variable {p : List (List Int)} (B : Pb p)
include B

theorem bo_s2 {k : Nat} (hk : k < p.length) : pBo_s2 (k : Int) p = !decide (rget p k 0 = 12) := by
  unfold pBo_s2 pBo_s0 pBo_s1
  rw [decide_eq_false (show ¬ (k : Int) < 0 by omega), decide_eq_false (show ¬ Int.ofNat p.length ≤ (k : Int) by simp only [Int.ofNat_eq_natCast]; omega), Int.toNat_natCast]
  by_cases h : rget p k 0 = 12
  · rw [h]; rfl
  · rw [decide_eq_false h]
    simp only [cond_false]
    exact bne_iff_ne.2 h
theorem bo_2 {k : Nat} (hk : k < p.length) : pBo_2 (k : Int) p = decide (rget p k 0 = 12) := by
  unfold pBo_2
  rw [bo_s2 B hk]
  cases decide (rget p k 0 = 12) <;> rfl
theorem bo_0 {k : Nat} (hk : k < p.length) (h : rget p k 0 = 12) : pBo_0 (k : Int) p = (k : Int) + 1 := by
  have := B.len
  unfold pBo_0 pBo_s3
  rw [bo_s2 B hk, decide_eq_true h]
  exact w64_in (by omega) (by omega)
theorem bo_1 {k : Nat} (hk : k < p.length) (h : rget p k 0 = 12) : pBo_1 (k : Int) p = (k : Int) + 1 + rget p k 3 := by
  have := B.len
  have b := B.f k 3 (by omega)
  unfold pBo_1 pBo_s3
  rw [bo_s2 B hk, decide_eq_true h, Int.toNat_natCast]
  show IntKind.wrap .i64 (IntKind.wrap .i64 ((k : Int) + 1) + IntKind.wrap .i64 (rget p k 3)) = _
  rw [w64_in (n := (k : Int) + 1) (by omega) (by omega), w64_in (n := rget p k 3) (by omega) (by omega), w64_in (by omega) (by omega)]

theorem wi_spec (x : Int) : ((pWi_2 x p = true ∧ ∃ k, Inb p k x ∧ (∀ k', k' < k → ¬ Inb p k' x) ∧ pWi_0 x p = (k : Int) + 1 ∧ pWi_1 x p = (k : Int) + 1 + rget p k 3) ∨ (pWi_2 x p = false ∧ ∀ k, ¬ Inb p k x)) ∧
    lok pWi_l13_st 18446744073709551616 (pWi_l13_T.mk x 0 0 false (Int.ofNat p.length) 0 p) := by
  have hl := B.len
  obtain ⟨⟨X', v', e, hx, R⟩, hk⟩ := mr_run (st := pWi_l13_st) (I := fun d v => ∃ k : Nat, v = pWi_l13_T.mk x 0 0 false (Int.ofNat p.length) (k : Int) p ∧ k ≤ p.length ∧ d = p.length - k ∧ ∀ k', k' < k → ¬ Inb p k' x)
    (R := fun X' v => (X' = .e 0 ∧ ∀ k, ¬ Inb p k x) ∨ (X' = .r ∧ v.a3 = true ∧ ∃ k, Inb p k x ∧ (∀ k', k' < k → ¬ Inb p k' x) ∧ v.a1 = (k : Int) + 1 ∧ v.a2 = (k : Int) + 1 + rget p k 3)) (by
      rintro d v ⟨k, rfl, hkl, hd, hn⟩
      have s0 : pWi_l13_s0 (pWi_l13_T.mk x 0 0 false (Int.ofNat p.length) (k : Int) p) = decide (k < p.length) := by
        unfold pWi_l13_s0
        exact decide_eq_decide.2 (show (k : Int) < (p.length : Int) ↔ k < p.length by omega)
      refine ⟨?_, ?_⟩
      · unfold pWi_l13_st
        rw [s0]
        refine ⟨fun h _ _ => ?_, fun h _ => ?_, trivial⟩
        all_goals
          have := of_decide_eq_true h
          show (0 : Int) ≤ (k : Int) ∧ (k : Int) < (p.length : Int)
          omega
      · unfold pWi_l13_st
        rw [s0]
        by_cases h : k < p.length
        · have s1 : pWi_l13_s1 (pWi_l13_T.mk x 0 0 false (Int.ofNat p.length) (k : Int) p) = decide (Inb p k x) := by
            unfold pWi_l13_s1
            show (bif pBo_2 (k : Int) p then bif decide (pBo_0 (k : Int) p ≤ x) then decide (x < pBo_1 (k : Int) p) else false else false) = _
            rw [bo_2 B h]
            by_cases q : rget p k 0 = 12
            · rw [bo_0 B h q, bo_1 B h q, decide_eq_true q]
              by_cases a : (k : Int) + 1 ≤ x
              · rw [decide_eq_true a]
                exact decide_eq_decide.2 ⟨fun b => ⟨h, q, a, b⟩, fun b => b.2.2.2⟩
              · rw [decide_eq_false a]
                exact (decide_eq_false (fun b => a b.2.2.1)).symm
            · rw [decide_eq_false q]
              exact (decide_eq_false (fun b => q b.2.1)).symm
          rw [s1, decide_eq_true h]
          by_cases q : Inb p k x
          · rw [decide_eq_true q]
            exact .inr ⟨.r, _, (by simp), rfl, .inr ⟨rfl, rfl, k, q, hn, bo_0 B h q.2.1, bo_1 B h q.2.1⟩⟩
          · rw [decide_eq_false q]
            refine .inl ⟨_, p.length - (k + 1), rfl, by omega, k + 1, ?_, by omega, rfl, ?_⟩
            · show pWi_l13_T.mk x 0 0 false (Int.ofNat p.length) (IntKind.wrap .i64 ((k : Int) + 1)) p = _
              rw [w64_in (by omega) (by omega)]; rfl
            · intro k' hk'
              by_cases e : k' = k
              · subst e; exact q
              · exact hn k' (by omega)
        · rw [decide_eq_false h]
          refine .inr ⟨.e 0, _, (by simp), rfl, .inl ⟨rfl, fun k' hk' => hn k' (by have := hk'.1; omega) hk'⟩⟩)
    18446744073709551616 p.length _ ⟨0, rfl, Nat.zero_le _, rfl, fun k' h => by omega⟩ (by omega)
  refine ⟨?_, hk⟩
  have e' : pWi_s0 x p = some (X', v') := e
  unfold pWi_0 pWi_1 pWi_2
  rw [e']
  rcases R with ⟨rfl, R⟩ | ⟨rfl, ra, k, rb, rc, rd, re⟩
  · exact .inr ⟨rfl, R⟩
  · exact .inl ⟨ra, k, rb, rc, rd, re⟩
end

/-- What may be: the instruction at a place, and where it goes. -/
structure Ins (p : List (List Int)) (i : Nat) : Prop where
  op : rget p i 0 < 15
  dst : rget p i 1 < 12
  a : rget p i 2 < 12
  b : rget p i 0 ≠ 12 → rget p i 3 < 12
  mat : rget p i 0 = 14 → rget p i 2 ≤ 8
  loop : rget p i 0 = 12 → (∀ k, ¬ Inb p k i) ∧ 1 ≤ rget p i 3 ∧ (i : Int) + 1 + rget p i 3 ≤ p.length ∧ 1 ≤ rget p i 4 ∧ rget p i 4 ≤ 8
  skip : rget p i 0 = 11 → 1 ≤ rget p i 4 ∧ (i : Int) + 1 + rget p i 4 ≤ p.length ∧ (pWi_2 i p = true → (i : Int) + 1 + rget p i 4 ≤ pWi_1 i p) ∧
    (pWi_2 ((i : Int) + 1 + rget p i 4) p = true → pWi_2 i p = true ∧ pWi_0 ((i : Int) + 1 + rget p i 4) p = pWi_0 i p)

section
variable {p : List (List Int)} (B : Pb p)
include B
theorem ck_spec {i : Nat} (hi : i < p.length) {d : Bool} (h : pCk_0 (i : Int) (rget p i 0) (rget p i 1) (rget p i 2) (rget p i 3) (rget p i 4) d p = 0) : Ins p i := by
  have hl := B.len
  have b0 := B.f i 0 (by omega)
  have b3 := B.f i 3 (by omega)
  have bm := B.m i
  unfold pCk_0 at h
  have e6 : pCk_s6 (i : Int) (rget p i 4) = (i : Int) + 1 + rget p i 4 := by
    unfold pCk_s6
    rw [w64_in (n := (i : Int) + 1) (by omega) (by omega), w64_in (n := rget p i 4) (by omega) (by omega), w64_in (by omega) (by omega)]
  rw [e6] at h
  cases h0 : pCk_s0 (rget p i 0) d with
  | true => rw [h0] at h; exact absurd h (by simp)
  | false =>
  cases h2 : pCk_s2 (rget p i 0) (rget p i 1) (rget p i 2) (rget p i 3) with
  | true => rw [h0, h2] at h; exact absurd h (by simp)
  | false =>
  cases h5 : pCk_s5 (i : Int) (rget p i 0) (rget p i 3) (rget p i 4) p with
  | true => rw [h0, h2, h5] at h; exact absurd h (by simp)
  | false =>
  rw [h0, h2, h5] at h
  simp only [cond_false] at h
  unfold pCk_s0 at h0
  unfold pCk_s2 pCk_s1 at h2
  unfold pCk_s5 pCk_s4 at h5
  simp only [Bool.cond_eq_ite, decide_eq_true_eq] at h0 h2 h5 h
  rw [w64_in (n := rget p i 3) (by omega) (by omega), w64_in (n := Int.ofNat p.length - (i : Int)) (by simp only [Int.ofNat_eq_natCast]; omega) (by simp only [Int.ofNat_eq_natCast]; omega), w64_in (by simp only [Int.ofNat_eq_natCast]; omega) (by simp only [Int.ofNat_eq_natCast]; omega)] at h5
  simp only [Int.ofNat_eq_natCast] at h5
  have wi := (wi_spec B (i : Int)).1
  refine ⟨?_, ?_, ?_, fun q => ?_, fun q => ?_, fun q => ?_, fun q => ?_⟩
  · split at h0
    · cases h0
    · omega
  · split at h2
    · cases h2
    · omega
  · split at h2
    · cases h2
    · split at h2
      · cases h2
      · omega
  · rw [if_pos (show (rget p i 0 != 12) = true from bne_iff_ne.2 q)] at h2
    split at h2
    · cases h2
    · split at h2
      · cases h2
      · split at h2
        · cases h2
        · omega
  · rw [if_pos (show (rget p i 0 != 12) = true from bne_iff_ne.2 (by omega)), if_pos (show (rget p i 0 == 14) = true from beq_iff_eq.2 q)] at h2
    split at h2
    · cases h2
    · split at h2
      · cases h2
      · split at h2
        · cases h2
        · have := of_decide_eq_false h2; omega
  · rw [if_pos (show (rget p i 0 == 12) = true from beq_iff_eq.2 q)] at h5
    split at h5
    · cases h5
    · rename_i hw
      split at h5
      · cases h5
      · split at h5
        · cases h5
        · split at h5
          · cases h5
          · have := of_decide_eq_false h5
            rcases wi with ⟨c, _⟩ | ⟨_, c⟩
            · exact absurd c hw
            · exact ⟨c, by omega, by omega, by omega, by omega⟩
  · rw [if_neg (show ¬ (rget p i 0 != 11) = true by rw [q]; decide)] at h
    cases h7 : pCk_s7 (i : Int) (rget p i 4) p with
    | true => rw [h7] at h; exact absurd h (by simp)
    | false =>
    rw [h7] at h
    unfold pCk_s7 pCk_s4 at h7
    rw [e6] at h7
    simp only [Bool.cond_eq_ite, decide_eq_true_eq, Int.ofNat_eq_natCast] at h7
    split at h7
    · cases h7
    · split at h7
      · cases h7
      · refine ⟨by omega, by omega, fun c => ?_, fun c => ?_⟩
        · rw [if_pos c] at h7
          have := of_decide_eq_false h7
          omega
        · rw [if_pos c] at h
          cases c2 : pWi_2 (i : Int) p with
          | false => rw [c2] at h; exact absurd h (by simp)
          | true =>
            rw [c2] at h
            refine ⟨rfl, ?_⟩
            simp at h
            exact h
end
end Vm

end Go.Proofs.Ytcdejlgophpdjaa
end

section
namespace Go.Proofs.Ytcdejlgophpdjaa
open Go Go.RowKit Go.Proofs.Ytcdejlgophpdjaa.V
set_option linter.unusedVariables false
set_option linter.unusedSectionVars false

namespace Vm

theorem and3 (a m : Int) (hm : m = 256 ∨ m = 65536) : Int.toNat (a % m) &&& Int.toNat ((3 : Int) % m) ≤ 3 := by
  have e : Int.toNat ((3 : Int) % m) = 3 := by rcases hm with rfl | rfl <;> rfl
  rw [e]
  exact Nat.and_le_right
theorem ld_u8 (x : Int) (p : List (List Int)) : 0 ≤ vSt1_s32 x p ∧ vSt1_s32 x p < 4 := by
  have := and3 (rget p (Int.toNat x) 3) 256 (.inl rfl)
  unfold vSt1_s32
  rw [wu8]
  have e : vSt1_s31 = 256 := by decide
  rw [e]
  simp only [Int.ofNat_eq_natCast]
  omega
theorem ld_i16 (x : Int) (p : List (List Int)) : 0 ≤ vSt1_s35 x p ∧ vSt1_s35 x p < 4 := by
  have := and3 (rget p (Int.toNat x) 4) 65536 (.inr rfl)
  unfold vSt1_s35
  have e : vSt1_s34 = 65536 := by decide
  rw [e]
  have w : ∀ n : Nat, n ≤ 3 → IntKind.wrap .i16 (Int.ofNat n) = (n : Int) := fun n h => by
    match n, h with
    | 0, _ => rfl
    | 1, _ => rfl
    | 2, _ => rfl
    | 3, _ => rfl
  rw [w _ this]
  omega

/-- What a run turns. -/
structure G where
  g : List (List Int)
  gn : Bool
  st : Int

section
variable {p : List (List Int)} (B : Pb p)
include B

theorem st1_ok {i : Nat} (hi : i < p.length) (h : Ins p i) (h12 : rget p i 0 ≠ 12) (g : List (List Int)) (gn : Bool) (st : Int) (r0 : Bool) : Alls (vSt1_o (i : Int) g gn st r0 p) := by
  have f0 := B.f i 1 (by omega)
  have f1 := B.f i 2 (by omega)
  have f3 := B.f i 3 (by omega)
  have a1 := h.dst
  have a2 := h.a
  have a3 := h.b h12
  have l1 := ld_u8 (i : Int) p
  have l2 := ld_i16 (i : Int) p
  have mt : ∀ n : Int, 0 ≤ n → n ≤ 3 → vSt1_s36 (i : Int) p = true → 0 ≤ IntKind.wrap .u8 (rget p i 2 + n) ∧ IntKind.wrap .u8 (rget p i 2 + n) < 12 := fun n n0 n3 q => by
    have := h.mat (by
      unfold vSt1_s36 at q
      rw [Int.toNat_natCast] at q
      exact beq_iff_eq.1 q)
    rw [wu8]; omega
  unfold vSt1_o
  simp only [Int.ofNat_eq_natCast, Int.toNat_natCast]
  refine ⟨⟨by omega, by omega⟩, ⟨by omega, by omega⟩, ⟨by omega, by omega⟩, fun _ => ⟨by omega, by omega⟩, ?_, ?_, ?_, ?_, ?_, ?_, ?_, ?_, ?_, trivial⟩
  · intros; exact l1
  · intros; omega
  · intros; exact l2
  · intros; omega
  · intros; exact l1
  · intro _ _ _ _ _ _ _ _ _ _ _ _ q
    unfold vSt1_s16 at q
    rw [Int.toNat_natCast] at q
    exact h12 (beq_iff_eq.1 q)
  all_goals
    intros
    rename_i q
  · exact mt 1 (by omega) (by omega) q
  · exact mt 2 (by omega) (by omega) q
  · exact mt 3 (by omega) (by omega) q

theorem nx1 {i : Nat} (hi : i < p.length) (h : Ins p i) (h12 : rget p i 0 ≠ 12) (g : List (List Int)) (on : vSt1_1 (i : Int) g p = true) :
    vSt1_0 (i : Int) g p = (i : Int) + 1 ∨ (rget p i 0 = 11 ∧ vSt1_0 (i : Int) g p = (i : Int) + 1 + rget p i 4) := by
  have hl := B.len
  have bm := B.m i
  have e1 : vSt1_s19 (i : Int) = (i : Int) + 1 := by
    unfold vSt1_s19
    exact w64_in (by omega) (by omega)
  unfold vSt1_1 at on
  unfold vSt1_0
  cases h18 : vSt1_s18 (i : Int) g p with
  | false => rw [e1]; exact .inl rfl
  | true =>
    rw [h18] at on
    cases h0 : vSt1_s0 (i : Int) p with
    | true => rw [h0] at on; exact absurd on (by simp)
    | false =>
      cases h11 : vSt1_s11 (i : Int) p with
      | false =>
        rw [h0, h11] at on
        cases h16 : vSt1_s16 (i : Int) p <;> rw [h16] at on <;> exact absurd on (by simp)
      | true =>
        refine .inr ⟨?_, ?_⟩
        · unfold vSt1_s11 at h11
          rw [Int.toNat_natCast] at h11
          exact beq_iff_eq.1 h11
        · simp only [cond_true, cond_false]
          rw [e1, Int.toNat_natCast, w64_in (n := rget p i 4) (by omega) (by omega), w64_in (by omega) (by omega)]
end

/-- Instructions from one up to another one, none of them a loop. -/
def seg (p : List (List Int)) (to : Int) : Nat → Int → G → Bool × G
  | 0, _, s => (true, s)
  | d + 1, i, s => if i < to then
      (match vSt1_1 i s.g p with
      | true => seg p to d (vSt1_0 i s.g p) ⟨vSt1_2 i s.g p, vSt1_3 i s.g s.gn p, s.st + 1⟩
      | false => (false, ⟨vSt1_2 i s.g p, vSt1_3 i s.g s.gn p, s.st + 1⟩))
    else (true, s)

/-- All that may be of a program. -/
structure Ok (p : List (List Int)) : Prop extends Pb p where
  ins : ∀ i, i < p.length → Ins p i

section
variable {p : List (List Int)} (O : Ok p)
include O

theorem one_loop {k l : Nat} {x : Int} (hk : Inb p k x) (hl : Inb p l x) : k = l := by
  have key : ∀ {k l : Nat}, Inb p k x → Inb p l x → ¬ k < l := fun {k l} hk hl h => by
    have := ((O.ins l hl.1).loop hl.2.1).1 k
    exact this ⟨hk.1, hk.2.1, by omega, by have := hk.2.2.2; have := hl.2.2.1; omega⟩
  rcases Nat.lt_trichotomy k l with h | h | h
  · exact absurd h (key hk hl)
  · exact h
  · exact absurd h (key hl hk)
theorem wi_in {k : Nat} {x : Int} (hk : Inb p k x) : pWi_2 x p = true ∧ pWi_0 x p = (k : Int) + 1 ∧ pWi_1 x p = (k : Int) + 1 + rget p k 3 := by
  rcases (wi_spec O.toPb x).1 with ⟨a, l, b, _, c, d⟩ | ⟨_, b⟩
  · obtain rfl := one_loop O hk b
    exact ⟨a, c, d⟩
  · exact absurd hk (b k)
theorem wi_out {x : Int} (h : ∀ k, ¬ Inb p k x) : pWi_2 x p = false := by
  rcases (wi_spec O.toPb x).1 with ⟨_, l, b, _⟩ | ⟨b, _⟩
  · exact absurd b (h l)
  · exact b
/-- Within a body no instruction is a loop, and none goes beyond its end. -/
theorem in_body {k : Nat} {i : Nat} (hk : Inb p k i) : i < p.length ∧ rget p i 0 ≠ 12 ∧ (rget p i 0 = 11 → 1 ≤ rget p i 4 ∧ (i : Int) + 1 + rget p i 4 ≤ (k : Int) + 1 + rget p k 3) := by
  have hl := ((O.ins k hk.1).loop hk.2.1).2.2.1
  have hi : i < p.length := by have := hk.2.2.2; omega
  refine ⟨hi, fun h => ((O.ins i hi).loop h).1 k hk, fun h => ?_⟩
  have s := (O.ins i hi).skip h
  have w := wi_in O hk
  have := s.2.2.1 w.1
  exact ⟨s.1, by omega⟩

/-- The body of a loop, run once. -/
theorem in_run {k : Nat} (hk : k < p.length) (h12 : rget p k 0 = 12) {S : Int} (hS : S ≤ 1000000000) :
    ∀ (D : Nat) (i : Nat) (s : G), k + 1 ≤ i → (k : Int) + 1 + rget p k 3 ≤ i + D → (i : Int) ≤ (k : Int) + 1 + rget p k 3 → D ≤ 1000 → 0 ≤ s.st → s.st + ((k : Int) + 1 + rget p k 3 - i) ≤ S →
    (∃ x v', lrun vRa2_l13_st 18446744073709551616 (vRa2_l13_T.mk ((k : Int) + 1 + rget p k 3) false (i : Int) s.g s.gn s.st p) = some (x, v') ∧ x ≠ .n ∧
      seg p ((k : Int) + 1 + rget p k 3) D i s = ((match x with | .r => v'.a1 | _ => true), ⟨v'.a3, v'.a4, v'.a5⟩) ∧ (x = .e 0 ∨ (x = .r ∧ v'.a1 = false)) ∧ 0 ≤ v'.a5 ∧ v'.a5 ≤ S) ∧
    lok vRa2_l13_st 18446744073709551616 (vRa2_l13_T.mk ((k : Int) + 1 + rget p k 3) false (i : Int) s.g s.gn s.st p) := by
  intro D i s h1 h2 h3 hD h4 h5
  have hl := O.len
  obtain ⟨-, b1, b2, -, -⟩ := (O.ins k hk).loop h12
  generalize ht : (k : Int) + 1 + rget p k 3 = to at *
  generalize hr : seg p to D i s = r
  refine mr_run (st := vRa2_l13_st) (I := fun d v => ∃ (i : Nat) (s : G), v = vRa2_l13_T.mk to false (i : Int) s.g s.gn s.st p ∧ k + 1 ≤ i ∧ to ≤ i + d ∧ (i : Int) ≤ to ∧ 0 ≤ s.st ∧ s.st + (to - i) ≤ S ∧ seg p to d i s = r)
    (R := fun x v' => r = ((match x with | .r => v'.a1 | _ => true), ⟨v'.a3, v'.a4, v'.a5⟩) ∧ (x = .e 0 ∨ (x = .r ∧ v'.a1 = false)) ∧ 0 ≤ v'.a5 ∧ v'.a5 ≤ S) ?_ 18446744073709551616 D _ ⟨i, s, rfl, h1, h2, h3, h4, h5, hr⟩ (by omega)
  rintro d v ⟨i, s, rfl, a1, a2, a3, a4, a5, a6⟩
  have s0 : vRa2_l13_s0 (vRa2_l13_T.mk to false (i : Int) s.g s.gn s.st p) = decide ((i : Int) < to) := rfl
  by_cases hi : (i : Int) < to
  · have hb : Inb p k i := ⟨hk, h12, by omega, by omega⟩
    obtain ⟨q1, q2, q3⟩ := in_body O hb
    have I1 := O.ins i q1
    obtain ⟨o0, o1, o2, o3, o4, o5, o6, o7, o8, o9, o10, o11, o12, _⟩ := st1_ok O.toPb q1 I1 q2 s.g s.gn s.st true
    refine ⟨⟨fun _ => o0, fun _ => o1, fun _ => o2, fun _ => o3, fun _ => o4, fun _ => o5, fun _ => o6, fun _ => o7, fun _ => o8, fun _ => o9, fun _ => o10, fun _ => o11, fun _ => o12, trivial⟩, ?_⟩
    have e4 : vSt1_4 s.st = s.st + 1 := by
      unfold vSt1_4
      exact w64_in (by omega) (by omega)
    obtain ⟨d, rfl⟩ : ∃ d', d = d' + 1 := ⟨d - 1, by omega⟩
    unfold seg at a6
    rw [if_pos hi] at a6
    cases on : vSt1_1 (i : Int) s.g p with
    | true =>
      rw [on] at a6
      obtain ⟨n, hn, n1, n2⟩ : ∃ n : Nat, vSt1_0 (i : Int) s.g p = (n : Int) ∧ i < n ∧ (n : Int) ≤ to := by
        rcases nx1 O.toPb q1 I1 q2 s.g on with e | ⟨e, e'⟩
        · exact ⟨i + 1, by rw [e]; rfl, by omega, by omega⟩
        · obtain ⟨z1, z2⟩ := q3 e
          have := O.m i
          exact ⟨(((i : Int) + 1 + rget p i 4)).toNat, by rw [e']; omega, by omega, by omega⟩
      refine .inl ⟨vRa2_l13_T.mk to false (n : Int) (vSt1_2 (i : Int) s.g p) (vSt1_3 (i : Int) s.g s.gn p) (s.st + 1) p, d, ?_, by omega, n, ⟨vSt1_2 (i : Int) s.g p, vSt1_3 (i : Int) s.g s.gn p, s.st + 1⟩, rfl, by omega, by omega, n2, by show 0 ≤ s.st + 1; omega, by show s.st + 1 + (to - n) ≤ S; omega, by rw [← hn]; exact a6⟩
      unfold vRa2_l13_st
      rw [s0, decide_eq_true hi]
      simp only [on, hn, e4]
      rfl
    | false =>
      rw [on] at a6
      refine .inr ⟨.r, vRa2_l13_T.mk to false (i : Int) (vSt1_2 (i : Int) s.g p) (vSt1_3 (i : Int) s.g s.gn p) (s.st + 1) p, by simp, ?_, a6.symm, .inr ⟨rfl, rfl⟩, by show 0 ≤ s.st + 1; omega, by show s.st + 1 ≤ S; omega⟩
      unfold vRa2_l13_st
      rw [s0, decide_eq_true hi]
      simp only [on, e4]
      rfl
  · refine ⟨?_, ?_⟩
    · unfold vRa2_l13_st
      rw [s0, decide_eq_false hi]
      exact ⟨nofun, nofun, nofun, nofun, nofun, nofun, nofun, nofun, nofun, nofun, nofun, nofun, nofun, trivial⟩
    · refine .inr ⟨.e 0, vRa2_l13_T.mk to false (i : Int) s.g s.gn s.st p, by simp, ?_, ?_, .inl rfl, a4, by show s.st ≤ S; omega⟩
      · unfold vRa2_l13_st
        rw [s0, decide_eq_false hi]; rfl
      · rw [← a6]
        cases d with
        | zero => rfl
        | succ d => unfold seg; rw [if_neg hi]

/-- The body of a loop, run once: what comes of it. -/
theorem body_run {k : Nat} (hk : k < p.length) (h12 : rget p k 0 = 12) (s : G) (h4 : 0 ≤ s.st) (h5 : s.st ≤ 100000000) :
    lok vRa2_l13_st 18446744073709551616 (vRa2_l13_T.mk ((k : Int) + 1 + rget p k 3) false ((k : Int) + 1) s.g s.gn s.st p) ∧
    vRa2_0 ((k : Int) + 1) ((k : Int) + 1 + rget p k 3) s.g s.gn s.st p = (seg p ((k : Int) + 1 + rget p k 3) p.length ((k : Int) + 1) s).1 ∧
    vRa2_1 ((k : Int) + 1) ((k : Int) + 1 + rget p k 3) s.g s.gn s.st p = (seg p ((k : Int) + 1 + rget p k 3) p.length ((k : Int) + 1) s).2.g ∧
    vRa2_2 ((k : Int) + 1) ((k : Int) + 1 + rget p k 3) s.g s.gn s.st p = (seg p ((k : Int) + 1 + rget p k 3) p.length ((k : Int) + 1) s).2.gn ∧
    vRa2_3 ((k : Int) + 1) ((k : Int) + 1 + rget p k 3) s.g s.gn s.st p = (seg p ((k : Int) + 1 + rget p k 3) p.length ((k : Int) + 1) s).2.st ∧
    0 ≤ (seg p ((k : Int) + 1 + rget p k 3) p.length ((k : Int) + 1) s).2.st ∧ (seg p ((k : Int) + 1 + rget p k 3) p.length ((k : Int) + 1) s).2.st ≤ s.st + rget p k 3 := by
  have hl := O.len
  have b3 := O.f k 3 (by omega)
  obtain ⟨-, b1, b2, -, -⟩ := (O.ins k hk).loop h12
  have := in_run O hk h12 (S := s.st + rget p k 3) (by omega) p.length (k + 1) s (Nat.le_refl _) (by omega) (by omega) hl h4 (by omega)
  obtain ⟨⟨x, v', e, hn, e2, c, d1, d2⟩, ok⟩ := this
  rw [show ((k + 1 : Nat) : Int) = (k : Int) + 1 from rfl] at e e2 ok
  have e' : vRa2_s0 ((k : Int) + 1) ((k : Int) + 1 + rget p k 3) s.g s.gn s.st p = some (x, v') := e
  refine ⟨ok, ?_⟩
  unfold vRa2_0 vRa2_1 vRa2_2 vRa2_3
  rw [e', e2]
  rcases c with rfl | ⟨rfl, c⟩
  · exact ⟨rfl, rfl, rfl, rfl, d1, d2⟩
  · exact ⟨rfl, rfl, rfl, rfl, d1, d2⟩
end
end Vm

end Go.Proofs.Ytcdejlgophpdjaa
end

section
namespace Go.Proofs.Ytcdejlgophpdjaa
open Go Go.RowKit Go.Proofs.Ytcdejlgophpdjaa.V
set_option linter.unusedVariables false
set_option linter.unusedSectionVars false

namespace Vm

/-- A loop's body, so many times. -/
def lp (p : List (List Int)) (k : Nat) : Nat → G → Bool × G
  | 0, s => (true, s)
  | d + 1, s => match (seg p ((k : Int) + 1 + rget p k 3) p.length ((k : Int) + 1) s).1 with
    | true => lp p k d (seg p ((k : Int) + 1 + rget p k 3) p.length ((k : Int) + 1) s).2
    | false => (false, (seg p ((k : Int) + 1 + rget p k 3) p.length ((k : Int) + 1) s).2)

/-- A whole program. -/
def top (p : List (List Int)) : Nat → Nat → G → Bool × G
  | 0, _, s => (true, s)
  | d + 1, i, s => if i < p.length then
      (if rget p i 0 = 12 then
        (match (lp p i (rget p i 4).toNat ⟨s.g, s.gn, s.st + 1⟩).1 with
        | true => top p d (((i : Int) + 1 + rget p i 3).toNat) (lp p i (rget p i 4).toNat ⟨s.g, s.gn, s.st + 1⟩).2
        | false => (false, (lp p i (rget p i 4).toNat ⟨s.g, s.gn, s.st + 1⟩).2))
      else
        (match vSt1_1 (i : Int) s.g p with
        | true => top p d (vSt1_0 (i : Int) s.g p).toNat ⟨vSt1_2 (i : Int) s.g p, vSt1_3 (i : Int) s.g s.gn p, s.st + 1⟩
        | false => (false, ⟨vSt1_2 (i : Int) s.g p, vSt1_3 (i : Int) s.g s.gn p, s.st + 1⟩)))
    else (true, s)

/-- How much more a loop takes. -/
def fe (p : List (List Int)) (j : Nat) : Int := if rget p j 0 = 12 then rget p j 3 * ((if rget p j 4 < 1 then 1 else rget p j 4) - 1) else 0
def Fs (p : List (List Int)) : Nat → Int
  | 0 => 0
  | k + 1 => Fs p k + fe p k

section
variable {p : List (List Int)} (B : Pb p)
include B
theorem fe_bd (j : Nat) : 0 ≤ fe p j ∧ fe p j ≤ 10000000 := by
  have b := B.f j 3 (by omega)
  have m := B.m j
  unfold fe
  split
  · generalize hm : (if rget p j 4 < 1 then 1 else rget p j 4) - 1 = n
    have hn : 0 ≤ n ∧ n ≤ 32767 := by split at hm <;> omega
    have := Int.mul_nonneg b.1 hn.1
    have := Int.mul_le_mul b.2 hn.2 hn.1 (by omega)
    omega
  · omega
theorem Fs_bd : ∀ k : Nat, 0 ≤ Fs p k ∧ Fs p k ≤ k * 10000000
  | 0 => by simp [Fs]
  | k + 1 => by
    have := Fs_bd k
    have := fe_bd B k
    unfold Fs
    omega
theorem Fs_mono (k : Nat) : ∀ n : Nat, Fs p k ≤ Fs p (k + n)
  | 0 => Int.le_refl _
  | n + 1 => by
    have := Fs_mono k n
    have := fe_bd B (k + n)
    show Fs p k ≤ Fs p (k + n) + fe p (k + n)
    omega

theorem fu_spec : pFu_0 p = p.length + Fs p p.length ∧ lok pFu_l29_st 18446744073709551616 (pFu_l29_T.mk 0 (Int.ofNat p.length) (Int.ofNat p.length) 0 p) := by
  have hl := B.len
  obtain ⟨⟨x, v', e, hx, R⟩, ok⟩ := mr_run (st := pFu_l29_st) (I := fun d v => ∃ k : Nat, v = pFu_l29_T.mk 0 (p.length + Fs p k) (Int.ofNat p.length) (k : Int) p ∧ k ≤ p.length ∧ d = p.length - k)
    (R := fun x v' => v'.a1 = p.length + Fs p p.length) (by
      rintro d v ⟨k, rfl, hk, hd⟩
      have s0 : pFu_l29_s0 (pFu_l29_T.mk 0 (p.length + Fs p k) (Int.ofNat p.length) (k : Int) p) = decide (k < p.length) := by
        unfold pFu_l29_s0
        exact decide_eq_decide.2 (show (k : Int) < (p.length : Int) ↔ k < p.length by omega)
      unfold pFu_l29_st
      rw [s0]
      refine ⟨⟨fun h => ?_, trivial⟩, ?_⟩
      · have := of_decide_eq_true h
        show (0 : Int) ≤ (k : Int) ∧ (k : Int) < (p.length : Int)
        omega
      · by_cases h : k < p.length
        · rw [decide_eq_true h]
          refine .inl ⟨_, p.length - (k + 1), rfl, by omega, k + 1, ?_, by omega, rfl⟩
          have b := B.f k 3 (by omega)
          have m := B.m k
          have f := fe_bd B k
          have F := Fs_bd B k
          have s1 : pFu_l29_s1 (pFu_l29_T.mk 0 (p.length + Fs p k) (Int.ofNat p.length) (k : Int) p) = rget p k 4 := by
            unfold pFu_l29_s1
            show IntKind.wrap .i64 (rget p (Int.toNat (k : Int)) 4) = _
            rw [Int.toNat_natCast, w64_in (by omega) (by omega)]
          rw [s1]
          have e1 : IntKind.wrap .i64 ((k : Int) + 1) = ((k + 1 : Nat) : Int) := by rw [w64_in (by omega) (by omega)]; rfl
          have e2 : (bif rget p (Int.toNat (k : Int)) 0 == 12 then IntKind.wrap .i64 (p.length + Fs p k + IntKind.wrap .i64 (IntKind.wrap .i64 (rget p (Int.toNat (k : Int)) 3) * IntKind.wrap .i64 ((if rget p k 4 < 1 then 1 else rget p k 4) - 1))) else p.length + Fs p k) = p.length + Fs p (k + 1) := by
            rw [Int.toNat_natCast]
            show _ = p.length + (Fs p k + fe p k)
            by_cases q : rget p k 0 = 12
            · have f' : fe p k = rget p k 3 * ((if rget p k 4 < 1 then 1 else rget p k 4) - 1) := by unfold fe; rw [if_pos q]
              rw [q]
              show IntKind.wrap .i64 _ = _
              rw [w64_in (n := rget p k 3) (by omega) (by omega), w64_in (n := (if rget p k 4 < 1 then 1 else rget p k 4) - 1) (by split <;> omega) (by split <;> omega), ← f', w64_in (n := fe p k) (by omega) (by omega), w64_in (by omega) (by omega)]
              omega
            · have f' : fe p k = 0 := by unfold fe; rw [if_neg q]
              rw [show (rget p k 0 == 12) = false from beq_eq_false_iff_ne.2 q, f']
              show _ = _
              rw [Int.add_zero]; rfl
          show pFu_l29_T.mk 0 (bif rget p (Int.toNat (k : Int)) 0 == 12 then IntKind.wrap .i64 (p.length + Fs p k + IntKind.wrap .i64 (IntKind.wrap .i64 (rget p (Int.toNat (k : Int)) 3) * IntKind.wrap .i64 ((if rget p k 4 < 1 then 1 else rget p k 4) - 1))) else p.length + Fs p k) (Int.ofNat p.length) (IntKind.wrap .i64 ((k : Int) + 1)) p = _
          rw [e1, e2]
        · rw [decide_eq_false h]
          obtain rfl : k = p.length := by omega
          exact .inr ⟨.e 0, _, by simp, rfl, rfl⟩)
    18446744073709551616 p.length (pFu_l29_T.mk 0 (Int.ofNat p.length) (Int.ofNat p.length) 0 p) ⟨0, by simp [Fs], Nat.zero_le _, rfl⟩ (by omega)
  refine ⟨?_, ok⟩
  unfold pFu_0
  rw [show lrun pFu_l29_st 18446744073709551616 (pFu_l29_T.mk 0 (Int.ofNat p.length) (Int.ofNat p.length) 0 p) = some (x, v') from e]
  exact R

/-- An instruction, as Check looks at it. -/
def ckAt (p : List (List Int)) (d : Bool) (i : Nat) : Int := pCk_0 (i : Int) (rget p i 0) (rget p i 1) (rget p i 2) (rget p i 3) (rget p i 4) d p

theorem ch_loop (d : Bool) : (∃ x v', pCh_s1 d p = some (x, v') ∧ ((x = .e 0 ∧ ∀ i, i < p.length → ckAt p d i = 0) ∨ (x = .r ∧ v'.a1 ≠ 0 ∧ ∃ i, i < p.length ∧ ckAt p d i ≠ 0 ∧ v'.a1 = ckAt p d i))) ∧
    lok pCh_l29_st 18446744073709551616 (pCh_l29_T.mk d 0 (Int.ofNat p.length) 0 p) := by
  have hl := B.len
  obtain ⟨⟨x, v', e, hx, R⟩, ok⟩ := mr_run (st := pCh_l29_st) (I := fun D v => ∃ k : Nat, v = pCh_l29_T.mk d 0 (Int.ofNat p.length) (k : Int) p ∧ k ≤ p.length ∧ D = p.length - k ∧ ∀ i, i < k → ckAt p d i = 0)
    (R := fun x v' => (x = .e 0 ∧ ∀ i, i < p.length → ckAt p d i = 0) ∨ (x = .r ∧ v'.a1 ≠ 0 ∧ ∃ i, i < p.length ∧ ckAt p d i ≠ 0 ∧ v'.a1 = ckAt p d i)) (by
      rintro D v ⟨k, rfl, hk, hd, hc⟩
      have s0 : pCh_l29_s0 (pCh_l29_T.mk d 0 (Int.ofNat p.length) (k : Int) p) = decide (k < p.length) := by
        unfold pCh_l29_s0
        exact decide_eq_decide.2 (show (k : Int) < (p.length : Int) ↔ k < p.length by omega)
      have s1 : pCh_l29_s1 (pCh_l29_T.mk d 0 (Int.ofNat p.length) (k : Int) p) = ckAt p d k := rfl
      refine ⟨?_, ?_⟩
      · unfold pCh_l29_st
        rw [s0]
        refine ⟨fun h => ?_, fun _ => (wi_spec B _).2, fun _ _ _ _ => (wi_spec B _).2, trivial⟩
        have := of_decide_eq_true h
        show (0 : Int) ≤ (k : Int) ∧ (k : Int) < (p.length : Int)
        omega
      · unfold pCh_l29_st
        rw [show pCh_l29_s2 (pCh_l29_T.mk d 0 (Int.ofNat p.length) (k : Int) p) = (ckAt p d k != 0) from rfl, s0, s1]
        by_cases h : k < p.length
        · rw [decide_eq_true h]
          by_cases q : ckAt p d k = 0
          · rw [show (ckAt p d k != 0) = false by rw [q]; rfl]
            refine .inl ⟨_, p.length - (k + 1), rfl, by omega, k + 1, ?_, by omega, rfl, fun i hi => ?_⟩
            · show pCh_l29_T.mk d 0 (Int.ofNat p.length) (IntKind.wrap .i64 ((k : Int) + 1)) p = _
              rw [w64_in (by omega) (by omega)]; rfl
            · by_cases e : i = k
              · subst e; exact q
              · exact hc i (by omega)
          · rw [show (ckAt p d k != 0) = true from bne_iff_ne.2 q]
            exact .inr ⟨.r, _, by simp, rfl, .inr ⟨rfl, q, k, h, q, rfl⟩⟩
        · rw [decide_eq_false h]
          exact .inr ⟨.e 0, _, by simp, rfl, .inl ⟨rfl, fun i hi => hc i (by omega)⟩⟩)
    18446744073709551616 p.length _ ⟨0, rfl, Nat.zero_le _, rfl, fun i h => by omega⟩ (by omega)
  exact ⟨⟨x, v', e, R⟩, ok⟩

theorem ch_spec (d : Bool) : pCh_0 d p = 0 ↔ p.length ≤ 24 ∧ (∀ i, i < p.length → ckAt p d i = 0) ∧ p.length + Fs p p.length ≤ 200 := by
  obtain ⟨⟨x, v', e, R⟩, -⟩ := ch_loop B d
  unfold pCh_0 pCh_s0
  rw [e, (fu_spec B).1]
  by_cases h : 24 < p.length
  · rw [decide_eq_true (show (24 : Int) < Int.ofNat p.length by simp only [Int.ofNat_eq_natCast]; omega)]
    exact ⟨fun q => absurd (show (7 : Int) = 0 from q) (by decide), fun q => absurd q.1 (by omega)⟩
  · rw [decide_eq_false (show ¬ (24 : Int) < Int.ofNat p.length by simp only [Int.ofNat_eq_natCast]; omega)]
    rcases R with ⟨rfl, R⟩ | ⟨rfl, R, i, hi, hn, -⟩
    · show (bif decide ((200 : Int) < p.length + Fs p p.length) then (6 : Int) else 0) = 0 ↔ _
      by_cases q : (200 : Int) < p.length + Fs p p.length
      · rw [decide_eq_true q]
        exact ⟨fun q => absurd (show (6 : Int) = 0 from q) (by decide), fun k => absurd k.2.2 (by omega)⟩
      · rw [decide_eq_false q]
        exact ⟨fun _ => ⟨by omega, R, by omega⟩, fun _ => rfl⟩
    · exact ⟨fun q => absurd q R, fun q => absurd (q.2.1 i hi) hn⟩
theorem ok_of {d : Bool} (h : pCh_0 d p = 0) : Ok p := ⟨B, fun i hi => ck_spec B hi (((ch_spec B d).1 h).2.1 i hi)⟩
theorem ch_obs (d : Bool) : ((!pCh_s0 p) = true → lok pCh_l29_st 18446744073709551616 (pCh_l29_T.mk d 0 (Int.ofNat p.length) 0 p)) ∧
    ((!pCh_s0 p) = true → isX (X.e 0) (pCh_s1 d p) = true → lok pFu_l29_st 18446744073709551616 (pFu_l29_T.mk 0 (Int.ofNat p.length) (Int.ofNat p.length) 0 p)) :=
  ⟨fun _ => (ch_loop B d).2, fun _ _ => (fu_spec B).2⟩
end

section
variable {p : List (List Int)} (O : Ok p)
include O
/-- A loop runs. -/
theorem lo_run {k : Nat} (hk : k < p.length) (h12 : rget p k 0 = 12) (s : G) (h4 : 0 ≤ s.st) (h5 : s.st ≤ 90000000) :
    lok vLo_l29_st 18446744073709551616 (vLo_l29_T.mk 0 false (pBo_0 (k : Int) p) (pBo_1 (k : Int) p) (IntKind.wrap .i64 (rget p k 4)) 0 s.g s.gn s.st p) ∧
    vLo_1 (k : Int) (IntKind.wrap .i64 (rget p k 4)) s.g s.gn s.st p = (lp p k (rget p k 4).toNat s).1 ∧
    ((lp p k (rget p k 4).toNat s).1 = true → vLo_0 (k : Int) (IntKind.wrap .i64 (rget p k 4)) s.g s.gn s.st p = (k : Int) + 1 + rget p k 3) ∧
    vLo_2 (k : Int) (IntKind.wrap .i64 (rget p k 4)) s.g s.gn s.st p = (lp p k (rget p k 4).toNat s).2.g ∧
    vLo_3 (k : Int) (IntKind.wrap .i64 (rget p k 4)) s.g s.gn s.st p = (lp p k (rget p k 4).toNat s).2.gn ∧
    vLo_4 (k : Int) (IntKind.wrap .i64 (rget p k 4)) s.g s.gn s.st p = (lp p k (rget p k 4).toNat s).2.st ∧
    0 ≤ (lp p k (rget p k 4).toNat s).2.st ∧ (lp p k (rget p k 4).toNat s).2.st ≤ s.st + rget p k 4 * rget p k 3 := by
  obtain ⟨-, b1, b2, m1, m2⟩ := (O.ins k hk).loop h12
  have hl := O.len
  have b3 := O.f k 3 (by omega)
  rw [bo_0 O.toPb hk h12, bo_1 O.toPb hk h12, w64_in (n := rget p k 4) (by omega) (by omega)]
  obtain ⟨T, hT⟩ : ∃ T : Nat, rget p k 4 = (T : Int) := ⟨(rget p k 4).toNat, by omega⟩
  rw [hT, Int.toNat_natCast]
  generalize hr : lp p k T s = r
  obtain ⟨⟨x, v', e, hx, R⟩, ok⟩ := mr_run (st := vLo_l29_st) (I := fun d v => ∃ (j : Nat) (s' : G), v = vLo_l29_T.mk 0 false ((k : Int) + 1) ((k : Int) + 1 + rget p k 3) (T : Int) (j : Int) s'.g s'.gn s'.st p ∧ j + d = T ∧ 0 ≤ s'.st ∧ s'.st + d * rget p k 3 ≤ s.st + T * rget p k 3 ∧ lp p k d s' = r)
    (R := fun x v' => 0 ≤ r.2.st ∧ r.2.st ≤ s.st + T * rget p k 3 ∧ ((x = .e 0 ∧ v'.a3 = (k : Int) + 1 + rget p k 3 ∧ r = (true, ⟨v'.a6, v'.a7, v'.a8⟩)) ∨ (x = .r ∧ v'.a1 = false ∧ r = (false, ⟨v'.a6, v'.a7, v'.a8⟩)))) (by
      rintro d v ⟨j, s', rfl, a1, a2, a3, a4⟩
      have s0 : vLo_l29_s0 (vLo_l29_T.mk 0 false ((k : Int) + 1) ((k : Int) + 1 + rget p k 3) (T : Int) (j : Int) s'.g s'.gn s'.st p) = decide (j < T) := by
        unfold vLo_l29_s0
        exact decide_eq_decide.2 (show (j : Int) < (T : Int) ↔ j < T by omega)
      have hTb : (T : Int) * rget p k 3 ≤ 8 * 255 := Int.mul_le_mul (by omega) (by omega) (by omega) (by omega)
      have hdb : 0 ≤ (d : Int) * rget p k 3 := Int.mul_nonneg (by omega) (by omega)
      obtain ⟨ok, c0, c1, c2, c3, c4, c5⟩ := body_run O hk h12 s' a2 (by omega)
      refine ⟨?_, ?_⟩
      · unfold vLo_l29_st
        rw [s0]
        exact ⟨fun _ => ok, trivial⟩
      · unfold vLo_l29_st
        rw [s0, show vLo_l29_s1 (vLo_l29_T.mk 0 false ((k : Int) + 1) ((k : Int) + 1 + rget p k 3) (T : Int) (j : Int) s'.g s'.gn s'.st p) = !vRa2_0 ((k : Int) + 1) ((k : Int) + 1 + rget p k 3) s'.g s'.gn s'.st p from rfl,
          show vLo_l29_s2 (vLo_l29_T.mk 0 false ((k : Int) + 1) ((k : Int) + 1 + rget p k 3) (T : Int) (j : Int) s'.g s'.gn s'.st p) = vRa2_1 ((k : Int) + 1) ((k : Int) + 1 + rget p k 3) s'.g s'.gn s'.st p from rfl,
          show vLo_l29_s3 (vLo_l29_T.mk 0 false ((k : Int) + 1) ((k : Int) + 1 + rget p k 3) (T : Int) (j : Int) s'.g s'.gn s'.st p) = vRa2_2 ((k : Int) + 1) ((k : Int) + 1 + rget p k 3) s'.g s'.gn s'.st p from rfl,
          show vLo_l29_s4 (vLo_l29_T.mk 0 false ((k : Int) + 1) ((k : Int) + 1 + rget p k 3) (T : Int) (j : Int) s'.g s'.gn s'.st p) = vRa2_3 ((k : Int) + 1) ((k : Int) + 1 + rget p k 3) s'.g s'.gn s'.st p from rfl, c0, c1, c2, c3]
        by_cases h : j < T
        · rw [decide_eq_true h]
          obtain ⟨d, rfl⟩ : ∃ d', d = d' + 1 := ⟨d - 1, by omega⟩
          have hd' : ((d + 1 : Nat) : Int) * rget p k 3 = (d : Int) * rget p k 3 + rget p k 3 := by
            rw [Int.natCast_add, Int.add_mul]; omega
          have hd0 : 0 ≤ (d : Int) * rget p k 3 := Int.mul_nonneg (by omega) (by omega)
          rw [hd'] at a3
          unfold lp at a4
          cases q : (seg p ((k : Int) + 1 + rget p k 3) p.length ((k : Int) + 1) s').1 with
          | true =>
            rw [q] at a4
            refine .inl ⟨_, d, rfl, by omega, j + 1, (seg p ((k : Int) + 1 + rget p k 3) p.length ((k : Int) + 1) s').2, ?_, by omega, c4, by omega, a4⟩
            show vLo_l29_T.mk 0 false ((k : Int) + 1) ((k : Int) + 1 + rget p k 3) (T : Int) (IntKind.wrap .i64 ((j : Int) + 1)) _ _ _ p = _
            rw [w64_in (by omega) (by omega)]; rfl
          | false =>
            rw [q] at a4
            exact .inr ⟨.r, _, by simp, rfl, by rw [← a4]; exact c4, by rw [← a4]; show (seg p ((k : Int) + 1 + rget p k 3) p.length ((k : Int) + 1) s').2.st ≤ _; omega, .inr ⟨rfl, rfl, a4.symm⟩⟩
        · rw [decide_eq_false h]
          obtain rfl : d = 0 := by omega
          have a4' : (true, s') = r := a4
          exact .inr ⟨.e 0, _, by simp, rfl, by rw [← a4']; exact a2, by rw [← a4']; show s'.st ≤ _; omega, .inl ⟨rfl, rfl, a4'.symm⟩⟩)
    18446744073709551616 T _ ⟨0, s, rfl, by omega, h4, by omega, hr⟩ (by omega)
  obtain ⟨R1, R2, R⟩ := R
  have e' : vLo_s0 (k : Int) (T : Int) s.g s.gn s.st p = some (x, v') := by
    unfold vLo_s0
    rw [bo_0 O.toPb hk h12, bo_1 O.toPb hk h12]
    exact e
  refine ⟨ok, ?_⟩
  unfold vLo_0 vLo_1 vLo_2 vLo_3 vLo_4
  rw [e']
  rcases R with ⟨rfl, c, rfl⟩ | ⟨rfl, c, rfl⟩
  · exact ⟨rfl, fun _ => c, rfl, rfl, rfl, R1, R2⟩
  · exact ⟨c, fun q => absurd (show false = true from q) (by decide), rfl, rfl, rfl, R1, R2⟩
end
end Vm

end Go.Proofs.Ytcdejlgophpdjaa
end

section
namespace Go.Proofs.Ytcdejlgophpdjaa
open Go Go.RowKit Go.Proofs.Ytcdejlgophpdjaa.V
set_option linter.unusedVariables false
set_option linter.unusedSectionVars false

namespace Vm

section
variable {p : List (List Int)}
theorem op_is {i : Nat} {n : Int} (h : rget p i 0 = n) (m : Int) : (rget p (Int.toNat (i : Int)) 0 == m) = decide (n = m) := by
  rw [Int.toNat_natCast, h]
  by_cases e : n = m
  · rw [decide_eq_true e]; exact beq_iff_eq.2 e
  · rw [decide_eq_false e]; exact beq_eq_false_iff_ne.2 e
theorem op_not {i : Nat} {n : Int} (h : rget p i 0 ≠ n) : (rget p (Int.toNat (i : Int)) 0 == n) = false := by
  rw [Int.toNat_natCast]
  exact beq_eq_false_iff_ne.2 h

/-- Not a loop: one step is as in a body. -/
theorem st4_1 {i : Nat} (h : rget p i 0 ≠ 12) (g : List (List Int)) (gn : Bool) (st : Int) :
    vSt4_0 (i : Int) g gn st p = vSt1_0 (i : Int) g p ∧ vSt4_1 (i : Int) g gn st p = vSt1_1 (i : Int) g p ∧ vSt4_2 (i : Int) g gn st p = vSt1_2 (i : Int) g p ∧ vSt4_3 (i : Int) g gn st p = vSt1_3 (i : Int) g gn p ∧ vSt4_4 (i : Int) g gn st p = vSt4_s20 st := by
  have h16 : vSt4_s16 (i : Int) p = false := op_not h
  have h16' : vSt1_s16 (i : Int) p = false := op_not h
  have e18 : vSt4_s18 (i : Int) g p = vSt1_s18 (i : Int) g p := rfl
  have e0 : vSt4_s0 (i : Int) p = vSt1_s0 (i : Int) p := rfl
  have e11 : vSt4_s11 (i : Int) p = vSt1_s11 (i : Int) p := rfl
  unfold vSt4_0 vSt4_1 vSt4_2 vSt4_3 vSt4_4 vSt1_0 vSt1_1 vSt1_2 vSt1_3
  rw [h16, h16', e18, e0, e11]
  cases vSt1_s18 (i : Int) g p
  · exact ⟨rfl, rfl, rfl, rfl, rfl⟩
  · cases vSt1_s0 (i : Int) p <;> cases vSt1_s11 (i : Int) p <;> exact ⟨rfl, rfl, rfl, rfl, rfl⟩

/-- A loop: one step is all of it. -/
theorem st4_12 {i : Nat} (h : rget p i 0 = 12) (g : List (List Int)) (gn : Bool) (st : Int) :
    vSt4_0 (i : Int) g gn st p = vLo_0 (i : Int) (IntKind.wrap .i64 (rget p i 4)) g gn (vSt4_s20 st) p ∧ vSt4_1 (i : Int) g gn st p = vLo_1 (i : Int) (IntKind.wrap .i64 (rget p i 4)) g gn (vSt4_s20 st) p ∧ vSt4_2 (i : Int) g gn st p = vLo_2 (i : Int) (IntKind.wrap .i64 (rget p i 4)) g gn (vSt4_s20 st) p ∧ vSt4_3 (i : Int) g gn st p = vLo_3 (i : Int) (IntKind.wrap .i64 (rget p i 4)) g gn (vSt4_s20 st) p ∧ vSt4_4 (i : Int) g gn st p = vLo_4 (i : Int) (IntKind.wrap .i64 (rget p i 4)) g gn (vSt4_s20 st) p := by
  have q := op_is h
  have h16 : vSt4_s16 (i : Int) p = true := q 12
  have h0 : vSt4_s0 (i : Int) p = false := q 0
  have h1 : vSt4_s1 (i : Int) p = false := q 1
  have h2 : vSt4_s2 (i : Int) p = false := q 2
  have h3 : vSt4_s3 (i : Int) p = false := q 3
  have h4 : vSt4_s4 (i : Int) p = false := q 4
  have h5 : vSt4_s5 (i : Int) p = false := q 5
  have h6 : vSt4_s6 (i : Int) p = false := q 6
  have h7 : vSt4_s7 (i : Int) p = false := q 7
  have h8 : vSt4_s8 (i : Int) p = false := q 8
  have h9 : vSt4_s9 (i : Int) p = false := q 9
  have h10 : vSt4_s10 (i : Int) p = false := q 10
  have h11 : vSt4_s11 (i : Int) p = false := q 11
  have h18 : vSt4_s18 (i : Int) g p = true := by
    unfold vSt4_s18
    rw [h0, h1, h2, h3, h4, h5, h6, h7, h8, h9, h10, h11, h16]; rfl
  unfold vSt4_0 vSt4_1 vSt4_2 vSt4_3 vSt4_4
  rw [h18, h0, h11, h16, Int.toNat_natCast]
  exact ⟨rfl, rfl, rfl, rfl, rfl⟩
end

section
variable {p : List (List Int)} (O : Ok p)
include O

theorem st4_ok {i : Nat} (hi : i < p.length) (g : List (List Int)) (gn : Bool) (st : Int) (r0 : Bool) (h0 : 0 ≤ st) (h1 : st ≤ 80000000) : Alls (vSt4_o (i : Int) g gn st r0 p) := by
  have h := O.ins i hi
  have f0 := O.f i 1 (by omega)
  have f1 := O.f i 2 (by omega)
  have f3 := O.f i 3 (by omega)
  have a1 := h.dst
  have a2 := h.a
  have l1 : 0 ≤ vSt4_s33 (i : Int) p ∧ vSt4_s33 (i : Int) p < 4 := ld_u8 (i : Int) p
  have l2 : 0 ≤ vSt4_s36 (i : Int) p ∧ vSt4_s36 (i : Int) p < 4 := ld_i16 (i : Int) p
  have e20 : vSt4_s20 st = st + 1 := by
    unfold vSt4_s20
    exact w64_in (by omega) (by omega)
  have ix : (0 : Int) ≤ (i : Int) ∧ (i : Int) < (p.length : Int) := ⟨by omega, by omega⟩
  have mt : ∀ n : Int, 0 ≤ n → n ≤ 3 → vSt4_s37 (i : Int) p = true → 0 ≤ IntKind.wrap .u8 (rget p i 2 + n) ∧ IntKind.wrap .u8 (rget p i 2 + n) < 12 := fun n n0 n3 q => by
    have := h.mat (by
      unfold vSt4_s37 at q
      rw [Int.toNat_natCast] at q
      exact beq_iff_eq.1 q)
    rw [wu8]; omega
  unfold vSt4_o
  simp only [Int.ofNat_eq_natCast, Int.toNat_natCast]
  refine ⟨ix, ⟨by omega, by omega⟩, ⟨by omega, by omega⟩, fun q => ?_, ?_, ?_, ?_, ?_, ?_, ?_, ?_, ?_, ?_, ?_, ?_, trivial⟩
  · unfold vSt4_s26 at q
    rw [Int.toNat_natCast] at q
    have := of_decide_eq_true q
    exact ⟨by omega, by omega⟩
  · intros; exact l1
  · intros; omega
  · intros; exact l2
  · intros; omega
  · intros; exact l1
  · intros; exact ix
  · intros; exact ix
  · intro _ _ _ _ _ _ _ _ _ _ _ _ q
    unfold vSt4_s16 at q
    rw [Int.toNat_natCast] at q
    rw [e20]
    exact (lo_run O hi (beq_iff_eq.1 q) ⟨g, gn, st + 1⟩ (show (0 : Int) ≤ st + 1 by omega) (show st + 1 ≤ 90000000 by omega)).1
  all_goals
    intros
    rename_i q
  · exact mt 1 (by omega) (by omega) q
  · exact mt 2 (by omega) (by omega) q
  · exact mt 3 (by omega) (by omega) q

/-- Outside of all bodies: so is what comes next. -/
theorem out_next {i : Nat} (hi : i < p.length) (ho : ∀ k, ¬ Inb p k i) (h12 : rget p i 0 ≠ 12) (k : Nat) : ¬ Inb p k ((i : Int) + 1) := fun h => by
  by_cases e : k = i
  · subst e; exact h12 h.2.1
  · exact ho k ⟨h.1, h.2.1, by have := h.2.2.1; omega, by have := h.2.2.2; omega⟩
theorem out_skip {i : Nat} (hi : i < p.length) (ho : ∀ k, ¬ Inb p k i) (h11 : rget p i 0 = 11) (k : Nat) : ¬ Inb p k ((i : Int) + 1 + rget p i 4) := fun h => by
  have w := wi_in O h
  have := ((O.ins i hi).skip h11).2.2.2 w.1
  rw [wi_out O ho] at this
  exact absurd this.1 (by decide)
theorem out_loop {i : Nat} (hi : i < p.length) (ho : ∀ k, ¬ Inb p k i) (h12 : rget p i 0 = 12) (k : Nat) : ¬ Inb p k ((i : Int) + 1 + rget p i 3) := fun h => by
  obtain ⟨-, b1, b2, -, -⟩ := (O.ins i hi).loop h12
  have := h.2.2.1
  have := h.2.2.2
  rcases Nat.lt_trichotomy k i with q | q | q
  · exact ho k ⟨h.1, h.2.1, by omega, by omega⟩
  · subst q; omega
  · exact ((O.ins k h.1).loop h.2.1).1 i ⟨hi, h12, by omega, by omega⟩

theorem top_run (hF : p.length + Fs p p.length ≤ 200) (s : G) (hs : s.st = 0) :
    lok vRa5_l13_st 18446744073709551616 (vRa5_l13_T.mk (Int.ofNat p.length) false 0 s.g s.gn s.st p) ∧
    vRa5_0 0 (Int.ofNat p.length) s.g s.gn s.st p = (top p p.length 0 s).1 ∧
    vRa5_1 0 (Int.ofNat p.length) s.g s.gn s.st p = (top p p.length 0 s).2.g ∧
    vRa5_2 0 (Int.ofNat p.length) s.g s.gn s.st p = (top p p.length 0 s).2.gn ∧
    vRa5_3 0 (Int.ofNat p.length) s.g s.gn s.st p = (top p p.length 0 s).2.st ∧
    0 ≤ (top p p.length 0 s).2.st ∧ (top p p.length 0 s).2.st ≤ p.length + Fs p p.length := by
  have hl := O.len
  generalize hr : top p p.length 0 s = r
  have hFs : ∀ i, i ≤ p.length → Fs p i ≤ Fs p p.length := fun i hi => by
    have := Fs_mono O.toPb i (p.length - i)
    rwa [show i + (p.length - i) = p.length by omega] at this
  have F0 := fun i => (Fs_bd O.toPb i).1
  obtain ⟨⟨x, v', e, hx, R⟩, ok⟩ := mr_run (st := vRa5_l13_st) (I := fun d v => ∃ (i : Nat) (s' : G), v = vRa5_l13_T.mk (Int.ofNat p.length) false (i : Int) s'.g s'.gn s'.st p ∧ i ≤ p.length ∧ p.length ≤ i + d ∧ (∀ k, ¬ Inb p k i) ∧ 0 ≤ s'.st ∧ s'.st ≤ i + Fs p i ∧ top p d i s' = r)
    (R := fun x v' => 0 ≤ r.2.st ∧ r.2.st ≤ p.length + Fs p p.length ∧ ((x = .e 0 ∧ r = (true, ⟨v'.a3, v'.a4, v'.a5⟩)) ∨ (x = .r ∧ v'.a1 = false ∧ r = (false, ⟨v'.a3, v'.a4, v'.a5⟩)))) (by
      rintro d v ⟨i, s', rfl, a1, a2, a3, a4, a5, a6⟩
      have s0 : vRa5_l13_s0 (vRa5_l13_T.mk (Int.ofNat p.length) false (i : Int) s'.g s'.gn s'.st p) = decide (i < p.length) := by
        unfold vRa5_l13_s0
        exact decide_eq_decide.2 (show (i : Int) < (p.length : Int) ↔ i < p.length by omega)
      have s1 : vRa5_l13_s1 (vRa5_l13_T.mk (Int.ofNat p.length) false (i : Int) s'.g s'.gn s'.st p) = !vSt4_1 (i : Int) s'.g s'.gn s'.st p := rfl
      have Fi := hFs i a1
      by_cases h : i < p.length
      · obtain ⟨o0, o1, o2, o3, o4, o5, o6, o7, o8, o9, o10, o11, o12, o13, o14, _⟩ := st4_ok O h s'.g s'.gn s'.st true a4 (by omega)
        refine ⟨⟨fun _ => o0, fun _ => o1, fun _ => o2, fun _ => o3, fun _ => o4, fun _ => o5, fun _ => o6, fun _ => o7, fun _ => o8, fun _ => o9, fun _ => o10, fun _ => o11, fun _ => o12, fun _ => o13, fun _ => o14, trivial⟩, ?_⟩
        have e20 : vSt4_s20 s'.st = s'.st + 1 := by
          unfold vSt4_s20
          exact w64_in (by omega) (by omega)
        obtain ⟨d, rfl⟩ : ∃ d', d = d' + 1 := ⟨d - 1, by omega⟩
        unfold top at a6
        rw [if_pos h] at a6
        have I1 := O.ins i h
        unfold vRa5_l13_st
        rw [s0, s1, decide_eq_true h]
        by_cases h12 : rget p i 0 = 12
        · rw [if_pos h12] at a6
          obtain ⟨-, b1, b2, m1, m2⟩ := I1.loop h12
          obtain ⟨q0, q1, q2, q3, q4⟩ := st4_12 h12 s'.g s'.gn s'.st
          rw [e20] at q0 q1 q2 q3 q4
          obtain ⟨-, c1, c0, c2, c3, c4, c5, c6⟩ := lo_run O h h12 ⟨s'.g, s'.gn, s'.st + 1⟩ (show (0 : Int) ≤ s'.st + 1 by omega) (show s'.st + 1 ≤ 90000000 by omega)
          simp only at c0 c1 c2 c3 c4 c6
          have fe' : fe p i = rget p i 3 * (rget p i 4 - 1) := by
            unfold fe
            rw [if_pos h12, if_neg (by omega)]
          have mul : rget p i 4 * rget p i 3 = fe p i + rget p i 3 := by
            rw [fe', Int.mul_sub, Int.mul_comm (rget p i 4)]; omega
          obtain ⟨n, hn⟩ : ∃ n : Nat, (i : Int) + 1 + rget p i 3 = (n : Int) := ⟨((i : Int) + 1 + rget p i 3).toNat, by omega⟩
          have Fn : Fs p i + fe p i ≤ Fs p n := by
            have := Fs_mono O.toPb (i + 1) (n - (i + 1))
            rw [show i + 1 + (n - (i + 1)) = n by omega] at this
            exact this
          have Fl := hFs n (by omega)
          cases on : (lp p i (rget p i 4).toNat ⟨s'.g, s'.gn, s'.st + 1⟩).1 with
          | true =>
            rw [on] at a6
            rw [hn, Int.toNat_natCast] at a6
            refine .inl ⟨vRa5_l13_T.mk (Int.ofNat p.length) false (n : Int) (lp p i (rget p i 4).toNat ⟨s'.g, s'.gn, s'.st + 1⟩).2.g (lp p i (rget p i 4).toNat ⟨s'.g, s'.gn, s'.st + 1⟩).2.gn (lp p i (rget p i 4).toNat ⟨s'.g, s'.gn, s'.st + 1⟩).2.st p, d, ?_, by omega, n, (lp p i (rget p i 4).toNat ⟨s'.g, s'.gn, s'.st + 1⟩).2, rfl, by omega, by omega, fun k => by rw [← hn]; exact out_loop O h a3 h12 k, c5, by omega, a6⟩
            simp only [q0, q1, q2, q3, q4, c1, c2, c3, c4, c0 on, on, hn]
            rfl
          | false =>
            rw [on] at a6
            refine .inr ⟨.r, vRa5_l13_T.mk (Int.ofNat p.length) false (i : Int) (lp p i (rget p i 4).toNat ⟨s'.g, s'.gn, s'.st + 1⟩).2.g (lp p i (rget p i 4).toNat ⟨s'.g, s'.gn, s'.st + 1⟩).2.gn (lp p i (rget p i 4).toNat ⟨s'.g, s'.gn, s'.st + 1⟩).2.st p, by simp, ?_, by rw [← a6]; exact c5, by rw [← a6]; show (lp p i (rget p i 4).toNat ⟨s'.g, s'.gn, s'.st + 1⟩).2.st ≤ _; omega, .inr ⟨rfl, rfl, a6.symm⟩⟩
            simp only [q0, q1, q2, q3, q4, c1, c2, c3, c4, on]
            rfl
        · rw [if_neg h12] at a6
          obtain ⟨q0, q1, q2, q3, q4⟩ := st4_1 h12 s'.g s'.gn s'.st
          rw [e20] at q4
          cases on : vSt1_1 (i : Int) s'.g p with
          | true =>
            rw [on] at a6
            obtain ⟨n, hn, n1, n2, n3⟩ : ∃ n : Nat, vSt1_0 (i : Int) s'.g p = (n : Int) ∧ i < n ∧ n ≤ p.length ∧ ∀ k, ¬ Inb p k n := by
              rcases nx1 O.toPb h I1 h12 s'.g on with e | ⟨e, e'⟩
              · exact ⟨i + 1, by rw [e]; rfl, by omega, by omega, fun k => out_next O h a3 h12 k⟩
              · obtain ⟨z1, z2, -, -⟩ := I1.skip e
                have hn : (i : Int) + 1 + rget p i 4 = ((((i : Int) + 1 + rget p i 4)).toNat : Int) := by omega
                exact ⟨(((i : Int) + 1 + rget p i 4)).toNat, by rw [e']; exact hn, by omega, by omega, fun k => by rw [← hn]; exact out_skip O h a3 e k⟩
            rw [hn, Int.toNat_natCast] at a6
            have Fn := Fs_mono O.toPb i (n - i)
            rw [show i + (n - i) = n by omega] at Fn
            refine .inl ⟨vRa5_l13_T.mk (Int.ofNat p.length) false (n : Int) (vSt1_2 (i : Int) s'.g p) (vSt1_3 (i : Int) s'.g s'.gn p) (s'.st + 1) p, d, ?_, by omega, n, ⟨vSt1_2 (i : Int) s'.g p, vSt1_3 (i : Int) s'.g s'.gn p, s'.st + 1⟩, rfl, n2, by omega, n3, (show (0 : Int) ≤ s'.st + 1 by omega), (show s'.st + 1 ≤ (n : Int) + Fs p n by omega), a6⟩
            simp only [q0, q1, q2, q3, q4, on, hn]
            rfl
          | false =>
            rw [on] at a6
            refine .inr ⟨.r, vRa5_l13_T.mk (Int.ofNat p.length) false (i : Int) (vSt1_2 (i : Int) s'.g p) (vSt1_3 (i : Int) s'.g s'.gn p) (s'.st + 1) p, by simp, ?_, by rw [← a6]; show (0 : Int) ≤ s'.st + 1; omega, by rw [← a6]; show s'.st + 1 ≤ (p.length : Int) + Fs p p.length; omega, .inr ⟨rfl, rfl, a6.symm⟩⟩
            simp only [q0, q1, q2, q3, q4, on]
            rfl
      · refine ⟨?_, ?_⟩
        · unfold vRa5_l13_st
          rw [s0, decide_eq_false h]
          exact ⟨nofun, nofun, nofun, nofun, nofun, nofun, nofun, nofun, nofun, nofun, nofun, nofun, nofun, nofun, nofun, trivial⟩
        · have a6' : (true, s') = r := by
            rw [← a6]
            cases d with
            | zero => rfl
            | succ d => unfold top; rw [if_neg h]
          refine .inr ⟨.e 0, vRa5_l13_T.mk (Int.ofNat p.length) false (i : Int) s'.g s'.gn s'.st p, by simp, ?_, by rw [← a6']; exact a4, by rw [← a6']; show s'.st ≤ _; omega, .inl ⟨rfl, a6'.symm⟩⟩
          unfold vRa5_l13_st
          rw [s0, decide_eq_false h]; rfl)
    18446744073709551616 p.length _ ⟨0, s, rfl, Nat.zero_le _, by omega, fun k h => by have := h.2.2.1; omega, by omega, by simp [Fs]; omega, hr⟩ (by omega)
  obtain ⟨R1, R2, R⟩ := R
  have e' : vRa5_s0 0 (Int.ofNat p.length) s.g s.gn s.st p = some (x, v') := e
  refine ⟨ok, ?_⟩
  unfold vRa5_0 vRa5_1 vRa5_2 vRa5_3
  rw [e']
  rcases R with ⟨rfl, rfl⟩ | ⟨rfl, c, rfl⟩
  · exact ⟨rfl, rfl, rfl, rfl, R1, R2⟩
  · exact ⟨c, rfl, rfl, rfl, R1, R2⟩
end
end Vm

end Go.Proofs.Ytcdejlgophpdjaa
end

