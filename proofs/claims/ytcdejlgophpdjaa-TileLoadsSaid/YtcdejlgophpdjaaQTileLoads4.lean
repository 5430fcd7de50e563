/-
  The seat's program: what the evaluator asks of it; the empty table.
-/
import Derived.Test.YtcdejlgophpdjaaRows
import Derived.Test.YtcdejlgophpdjaaQTileLoads3
section
namespace Go.Proofs.Ytcdejlgophpdjaa
open Go Go.RowKit Go.Proofs.Ytcdejlgophpdjaa.V

theorem follows : Try.prog.follows .mixedOrders = true := by kernel_rfl

def tabVL : Tab := []
theorem tabVL_ok : TOK Try.prog tabVL := TOK.nil

end Go.Proofs.Ytcdejlgophpdjaa
end

section
namespace Go.Proofs.Ytcdejlgophpdjaa
open Go Go.RowKit Go.Proofs.Ytcdejlgophpdjaa.V
set_option linter.unusedVariables false

/-! math/bits.Mul32 -/
def bMul32_s0 (x0 : Int) (x1 : Int) : Int := IntKind.wrap IntKind.u64 (IntKind.wrap IntKind.u64 x0 * IntKind.wrap IntKind.u64 x1)
def bMul32_0 (x0 : Int) (x1 : Int) : Int := IntKind.wrap IntKind.u32 (Int.fdiv (bMul32_s0 x0 x1) ((2 : Int) ^ min (Int.toNat (32 : Int)) (IntKind.bits IntKind.u64)))
def bMul32_1 (x0 : Int) (x1 : Int) : Int := IntKind.wrap IntKind.u32 (bMul32_s0 x0 x1)
theorem bMul32_p (x0 : Int) (x1 : Int) : evG Try.prog tabVL 2000 139 [0, 1, 4, 5, 6] [] [] [.a (.int true .u32 x0), .a (.int true .u32 x1)] [] = some ([], LV.t [LV.a (At.int true IntKind.u32 (bMul32_0 x0 x1)), LV.a (At.int true IntKind.u32 (bMul32_1 x0 x1))], []) := by kernel_rfl
def bMul32_c : Con
  | [.a (.int true .u32 x0), .a (.int true .u32 x1)], [] => some ([], LV.t [LV.a (At.int true IntKind.u32 (bMul32_0 x0 x1)), LV.a (At.int true IntKind.u32 (bMul32_1 x0 x1))], [])
  | _, _ => none
theorem bMul32_ok : ConOK Try.prog 139 (normC bMul32_c) := normC_ok (by
  intro args bs obs lv out h ho φ vs w may ha hM
  unfold bMul32_c at h
  split at h
  · simp only [Option.some.injEq, Prod.mk.injEq] at h
    obtain ⟨rfl, rfl, rfl⟩ := h
    rename_i x0 x1
    exact evG_ok tabVL_ok follows _ _ _ _ _ (bMul32_p x0 x1) ho φ vs w may ha hM
  · cases h)
theorem bMul32_en : Enters Try.prog 139 := fun args => by kernel_rfl
-- 139 4 5 ms

/-! math/bits.Mul64 -/
def bMul64_s0 : Int := (2 : Int) ^ min (Int.toNat (32 : Int)) (IntKind.bits IntKind.u64)
def bMul64_s1 : Int := Int.ofNat ((2 : Nat) ^ IntKind.bits IntKind.u64)
def bMul64_s2 : Nat := Int.toNat ((4294967295 : Int) % bMul64_s1)
def bMul64_s3 (x1 : Int) : Int := IntKind.wrap IntKind.u64 (Int.ofNat (Int.toNat (x1 % bMul64_s1) &&& bMul64_s2))
def bMul64_s4 (x0 : Int) : Int := IntKind.wrap IntKind.u64 (Int.ofNat (Int.toNat (x0 % bMul64_s1) &&& bMul64_s2))
def bMul64_s5 (x0 : Int) (x1 : Int) : Int := IntKind.wrap IntKind.u64 (IntKind.wrap IntKind.u64 (Int.fdiv x0 bMul64_s0 * bMul64_s3 x1) + Int.fdiv (IntKind.wrap IntKind.u64 (bMul64_s4 x0 * bMul64_s3 x1)) bMul64_s0)
def bMul64_0 (x0 : Int) (x1 : Int) : Int := IntKind.wrap IntKind.u64 (IntKind.wrap IntKind.u64 (IntKind.wrap IntKind.u64 (Int.fdiv x0 bMul64_s0 * Int.fdiv x1 bMul64_s0) + Int.fdiv (bMul64_s5 x0 x1) bMul64_s0) + Int.fdiv (IntKind.wrap IntKind.u64 (IntKind.wrap IntKind.u64 (Int.ofNat (Int.toNat (bMul64_s5 x0 x1 % bMul64_s1) &&& bMul64_s2)) + IntKind.wrap IntKind.u64 (bMul64_s4 x0 * Int.fdiv x1 bMul64_s0))) bMul64_s0)
def bMul64_1 (x0 : Int) (x1 : Int) : Int := IntKind.wrap IntKind.u64 (x0 * x1)
theorem bMul64_p (x0 : Int) (x1 : Int) : evG Try.prog tabVL 2000 140 [0, 1, 4, 5, 6, 7, 8, 9, 10, 11, 12, 13] [] [] [.a (.int true .u64 x0), .a (.int true .u64 x1)] [] = some ([], LV.t [LV.a (At.int true IntKind.u64 (bMul64_0 x0 x1)), LV.a (At.int true IntKind.u64 (bMul64_1 x0 x1))], []) := by kernel_rfl
def bMul64_c : Con
  | [.a (.int true .u64 x0), .a (.int true .u64 x1)], [] => some ([], LV.t [LV.a (At.int true IntKind.u64 (bMul64_0 x0 x1)), LV.a (At.int true IntKind.u64 (bMul64_1 x0 x1))], [])
  | _, _ => none
theorem bMul64_ok : ConOK Try.prog 140 (normC bMul64_c) := normC_ok (by
  intro args bs obs lv out h ho φ vs w may ha hM
  unfold bMul64_c at h
  split at h
  · simp only [Option.some.injEq, Prod.mk.injEq] at h
    obtain ⟨rfl, rfl, rfl⟩ := h
    rename_i x0 x1
    exact evG_ok tabVL_ok follows _ _ _ _ _ (bMul64_p x0 x1) ho φ vs w may ha hM
  · cases h)
theorem bMul64_en : Enters Try.prog 140 := fun args => by kernel_rfl
-- 189 5 13 ms

/-! (azulejo/azulejolaw19.Small).Pixel -/
theorem smPix_p (x0_0 : Int) (x0_1 : Int) (x0_2 : Int) (x0_3 : Int) (x0_4 : Int) (x0_5 : Int) : evG Try.prog tabVL 2000 39 [0, 1, 2] [] [] [.g [.int true .u8 x0_0, .int true .u8 x0_1, .int true .u8 x0_2, .int true .u8 x0_3, .int true .u16 x0_4, .int true .u8 x0_5]] [] = some ([], LV.g [At.int true IntKind.u8 x0_0, At.int true IntKind.u8 x0_1, At.int true IntKind.u8 x0_2, At.int true IntKind.u8 x0_3, At.int true IntKind.i64 (IntKind.wrap IntKind.i64 x0_4), At.int true IntKind.u8 x0_5], []) := by kernel_rfl
def smPix_c : Con
  | [.g [.int true .u8 x0_0, .int true .u8 x0_1, .int true .u8 x0_2, .int true .u8 x0_3, .int true .u16 x0_4, .int true .u8 x0_5]], [] => some ([], LV.g [At.int true IntKind.u8 x0_0, At.int true IntKind.u8 x0_1, At.int true IntKind.u8 x0_2, At.int true IntKind.u8 x0_3, At.int true IntKind.i64 (IntKind.wrap IntKind.i64 x0_4), At.int true IntKind.u8 x0_5], [])
  | _, _ => none
theorem smPix_ok : ConOK Try.prog 39 (normC smPix_c) := normC_ok (by
  intro args bs obs lv out h ho φ vs w may ha hM
  unfold smPix_c at h
  split at h
  · simp only [Option.some.injEq, Prod.mk.injEq] at h
    obtain ⟨rfl, rfl, rfl⟩ := h
    rename_i x0_0 x0_1 x0_2 x0_3 x0_4 x0_5
    exact evG_ok tabVL_ok follows _ _ _ _ _ (smPix_p x0_0 x0_1 x0_2 x0_3 x0_4 x0_5) ho φ vs w may ha hM
  · cases h)
theorem smPix_en : Enters Try.prog 39 := fun args => by kernel_rfl
-- 159 3 0 ms

/-! azulejo/bin.tiles -/
def bTiles_s0 (x0 : Int) : Int := if x0 < (0 : Int) then (0 : Int) else x0
def bTiles_0 (x0 : Int) : Int := IntKind.wrap IntKind.i64 (Int.tdiv (IntKind.wrap IntKind.i64 (IntKind.wrap IntKind.i64 ((if (64 : Int) < bTiles_s0 x0 then (64 : Int) else bTiles_s0 x0) + (8 : Int)) - (1 : Int))) (8 : Int))
theorem bTiles_p (x0 : Int) : evG Try.prog tabVL 2000 103 [0, 2] [] [] [.a (.int true .i64 x0)] [] = some ([], LV.a (At.int true IntKind.i64 (bTiles_0 x0)), []) := by kernel_rfl
def bTiles_c : Con
  | [.a (.int true .i64 x0)], [] => some ([], LV.a (At.int true IntKind.i64 (bTiles_0 x0)), [])
  | _, _ => none
theorem bTiles_ok : ConOK Try.prog 103 (normC bTiles_c) := normC_ok (by
  intro args bs obs lv out h ho φ vs w may ha hM
  unfold bTiles_c at h
  split at h
  · simp only [Option.some.injEq, Prod.mk.injEq] at h
    obtain ⟨rfl, rfl, rfl⟩ := h
    rename_i x0
    exact evG_ok tabVL_ok follows _ _ _ _ _ (bTiles_p x0) ho φ vs w may ha hM
  · cases h)
theorem bTiles_en : Enters Try.prog 103 := fun args => by kernel_rfl
-- 55 4 5 ms

def tabFa1 : Tab := (139, normC bMul32_c) :: (140, normC bMul64_c) :: (39, normC smPix_c) :: (103, normC bTiles_c) :: tabVL
theorem tabFa1_ok : TOK Try.prog tabFa1 := TOK.cons bMul32_en bMul32_ok (TOK.cons bMul64_en bMul64_ok (TOK.cons smPix_en smPix_ok (TOK.cons bTiles_en bTiles_ok (tabVL_ok))))

end Go.Proofs.Ytcdejlgophpdjaa
end

section
namespace Go.Proofs.Ytcdejlgophpdjaa
open Go Go.RowKit Go.Proofs.Ytcdejlgophpdjaa.V
set_option linter.unusedVariables false

/-! math/bits.Mul -/
theorem bMul_p (x0 : Int) (x1 : Int) : evG Try.prog tabFa1 2000 131 [0, 1, 4, 5, 6, 7, 8, 9] [] [] [.a (.int true .u64 x0), .a (.int true .u64 x1)] [] = some ([], LV.t [LV.a (At.int true IntKind.u64 (bMul64_0 x0 x1)), LV.a (At.int true IntKind.u64 (bMul64_1 x0 x1))], []) := by kernel_rfl
def bMul_c : Con
  | [.a (.int true .u64 x0), .a (.int true .u64 x1)], [] => some ([], LV.t [LV.a (At.int true IntKind.u64 (bMul64_0 x0 x1)), LV.a (At.int true IntKind.u64 (bMul64_1 x0 x1))], [])
  | _, _ => none
theorem bMul_ok : ConOK Try.prog 131 (normC bMul_c) := normC_ok (by
  intro args bs obs lv out h ho φ vs w may ha hM
  unfold bMul_c at h
  split at h
  · simp only [Option.some.injEq, Prod.mk.injEq] at h
    obtain ⟨rfl, rfl, rfl⟩ := h
    rename_i x0 x1
    exact evG_ok tabFa1_ok follows _ _ _ _ _ (bMul_p x0 x1) ho φ vs w may ha hM
  · cases h)
theorem bMul_en : Enters Try.prog 131 := fun args => by kernel_rfl
-- 64 2 0 ms

/-! (azulejo/bin.Grid).Cols -/
theorem bCols_p (x0_0 : Int) (x0_1 : Int) : evG Try.prog tabFa1 2000 36 [0, 1, 2] [] [] [.g [.int true .i64 x0_0, .int true .i64 x0_1]] [] = some ([], LV.a (At.int true IntKind.i64 (bTiles_0 x0_0)), []) := by kernel_rfl
def bCols_c : Con
  | [.g [.int true .i64 x0_0, .int true .i64 x0_1]], [] => some ([], LV.a (At.int true IntKind.i64 (bTiles_0 x0_0)), [])
  | _, _ => none
theorem bCols_ok : ConOK Try.prog 36 (normC bCols_c) := normC_ok (by
  intro args bs obs lv out h ho φ vs w may ha hM
  unfold bCols_c at h
  split at h
  · simp only [Option.some.injEq, Prod.mk.injEq] at h
    obtain ⟨rfl, rfl, rfl⟩ := h
    rename_i x0_0 x0_1
    exact evG_ok tabFa1_ok follows _ _ _ _ _ (bCols_p x0_0 x0_1) ho φ vs w may ha hM
  · cases h)
theorem bCols_en : Enters Try.prog 36 := fun args => by kernel_rfl
-- 79 1 0 ms

/-! (azulejo/bin.Grid).Rows -/
theorem bRows_p (x0_0 : Int) (x0_1 : Int) : evG Try.prog tabFa1 2000 100 [0, 1, 2] [] [] [.g [.int true .i64 x0_0, .int true .i64 x0_1]] [] = some ([], LV.a (At.int true IntKind.i64 (bTiles_0 x0_1)), []) := by kernel_rfl
def bRows_c : Con
  | [.g [.int true .i64 x0_0, .int true .i64 x0_1]], [] => some ([], LV.a (At.int true IntKind.i64 (bTiles_0 x0_1)), [])
  | _, _ => none
theorem bRows_ok : ConOK Try.prog 100 (normC bRows_c) := normC_ok (by
  intro args bs obs lv out h ho φ vs w may ha hM
  unfold bRows_c at h
  split at h
  · simp only [Option.some.injEq, Prod.mk.injEq] at h
    obtain ⟨rfl, rfl, rfl⟩ := h
    rename_i x0_0 x0_1
    exact evG_ok tabFa1_ok follows _ _ _ _ _ (bRows_p x0_0 x0_1) ho φ vs w may ha hM
  · cases h)
theorem bRows_en : Enters Try.prog 100 := fun args => by kernel_rfl
-- 91 1 0 ms

def tabFa2 : Tab := (131, normC bMul_c) :: (36, normC bCols_c) :: (100, normC bRows_c) :: tabFa1
theorem tabFa2_ok : TOK Try.prog tabFa2 := TOK.cons bMul_en bMul_ok (TOK.cons bCols_en bCols_ok (TOK.cons bRows_en bRows_ok (tabFa1_ok)))

end Go.Proofs.Ytcdejlgophpdjaa
end

section
namespace Go.Proofs.Ytcdejlgophpdjaa
open Go Go.RowKit Go.Proofs.Ytcdejlgophpdjaa.V
set_option linter.unusedVariables false

/-! (azulejo/bin.Grid).Tiles -/
def bGTiles_0 (x0_0 : Int) (x0_1 : Int) : Int := IntKind.wrap IntKind.i64 (bTiles_0 x0_0 * bTiles_0 x0_1)
theorem bGTiles_p (x0_0 : Int) (x0_1 : Int) : evG Try.prog tabFa2 2000 29 [0, 1, 2] [] [] [.g [.int true .i64 x0_0, .int true .i64 x0_1]] [] = some ([], LV.a (At.int true IntKind.i64 (bGTiles_0 x0_0 x0_1)), []) := by kernel_rfl
def bGTiles_c : Con
  | [.g [.int true .i64 x0_0, .int true .i64 x0_1]], [] => some ([], LV.a (At.int true IntKind.i64 (bGTiles_0 x0_0 x0_1)), [])
  | _, _ => none
theorem bGTiles_ok : ConOK Try.prog 29 (normC bGTiles_c) := normC_ok (by
  intro args bs obs lv out h ho φ vs w may ha hM
  unfold bGTiles_c at h
  split at h
  · simp only [Option.some.injEq, Prod.mk.injEq] at h
    obtain ⟨rfl, rfl, rfl⟩ := h
    rename_i x0_0 x0_1
    exact evG_ok tabFa2_ok follows _ _ _ _ _ (bGTiles_p x0_0 x0_1) ho φ vs w may ha hM
  · cases h)
theorem bGTiles_en : Enters Try.prog 29 := fun args => by kernel_rfl
-- 68 2 2 ms

def tabFa3 : Tab := (29, normC bGTiles_c) :: tabFa2
theorem tabFa3_ok : TOK Try.prog tabFa3 := TOK.cons bGTiles_en bGTiles_ok (tabFa2_ok)

end Go.Proofs.Ytcdejlgophpdjaa
end

section
namespace Go.Proofs.Ytcdejlgophpdjaa
open Go Go.RowKit Go.Proofs.Ytcdejlgophpdjaa.V
set_option linter.unusedVariables false

/-! (azulejo/bin.Grid).Box -/
def bBox_s0 (x0_0 : Int) (x0_1 : Int) (x1 : Int) : Bool := bif decide (x1 < (0 : Int)) then true else decide (bGTiles_0 x0_0 x0_1 ≤ x1)
def bBox_s1 (x0_0 : Int) (x1 : Int) : Int := IntKind.wrap IntKind.i64 (Int.tmod x1 (bTiles_0 x0_0) * (8 : Int))
def bBox_0 (x0_0 : Int) (x0_1 : Int) (x1 : Int) : Int := bif bBox_s0 x0_0 x0_1 x1 then (0 : Int) else bBox_s1 x0_0 x1
def bBox_s2 (x0_0 : Int) (x1 : Int) : Int := IntKind.wrap IntKind.i64 (IntKind.wrap IntKind.i64 (Int.tdiv x1 (bTiles_0 x0_0)) * (8 : Int))
def bBox_1 (x0_0 : Int) (x0_1 : Int) (x1 : Int) : Int := bif bBox_s0 x0_0 x0_1 x1 then (0 : Int) else bBox_s2 x0_0 x1
def bBox_s3 (x0_0 : Int) (x1 : Int) : Int := IntKind.wrap IntKind.i64 (bBox_s1 x0_0 x1 + (8 : Int))
def bBox_2 (x0_0 : Int) (x0_1 : Int) (x1 : Int) : Int := bif bBox_s0 x0_0 x0_1 x1 then (0 : Int) else if x0_0 < bBox_s3 x0_0 x1 then x0_0 else bBox_s3 x0_0 x1
def bBox_s4 (x0_0 : Int) (x1 : Int) : Int := IntKind.wrap IntKind.i64 (bBox_s2 x0_0 x1 + (8 : Int))
def bBox_3 (x0_0 : Int) (x0_1 : Int) (x1 : Int) : Int := bif bBox_s0 x0_0 x0_1 x1 then (0 : Int) else if x0_1 < bBox_s4 x0_0 x1 then x0_1 else bBox_s4 x0_0 x1
def bBox_o (x0_0 : Int) (x0_1 : Int) (x1 : Int) : List Prop := [(!bBox_s0 x0_0 x0_1 x1) = true → bTiles_0 x0_0 ≠ (0 : Int), (!bBox_s0 x0_0 x0_1 x1) = true → bTiles_0 x0_0 ≠ (0 : Int)]
theorem bBox_p (x0_0 : Int) (x0_1 : Int) (x1 : Int) : evG Try.prog tabFa3 2000 31 [0, 1, 2, 4, 5, 6, 14] [] [] [.g [.int true .i64 x0_0, .int true .i64 x0_1], .a (.int true .i64 x1)] [] = some (bBox_o x0_0 x0_1 x1, LV.g [At.int true IntKind.i64 (bBox_0 x0_0 x0_1 x1), At.int true IntKind.i64 (bBox_1 x0_0 x0_1 x1), At.int true IntKind.i64 (bBox_2 x0_0 x0_1 x1), At.int true IntKind.i64 (bBox_3 x0_0 x0_1 x1)], []) := by kernel_rfl
def bBox_c : Con
  | [.g [.int true .i64 x0_0, .int true .i64 x0_1], .a (.int true .i64 x1)], [] => some (bBox_o x0_0 x0_1 x1, LV.g [At.int true IntKind.i64 (bBox_0 x0_0 x0_1 x1), At.int true IntKind.i64 (bBox_1 x0_0 x0_1 x1), At.int true IntKind.i64 (bBox_2 x0_0 x0_1 x1), At.int true IntKind.i64 (bBox_3 x0_0 x0_1 x1)], [])
  | _, _ => none
theorem bBox_ok : ConOK Try.prog 31 (normC bBox_c) := normC_ok (by
  intro args bs obs lv out h ho φ vs w may ha hM
  unfold bBox_c at h
  split at h
  · simp only [Option.some.injEq, Prod.mk.injEq] at h
    obtain ⟨rfl, rfl, rfl⟩ := h
    rename_i x0_0 x0_1 x1
    exact evG_ok tabFa3_ok follows _ _ _ _ _ (bBox_p x0_0 x0_1 x1) ho φ vs w may ha hM
  · cases h)
theorem bBox_en : Enters Try.prog 31 := fun args => by kernel_rfl
-- 410 107 10 ms

def tabFa4 : Tab := (31, normC bBox_c) :: tabFa3
theorem tabFa4_ok : TOK Try.prog tabFa4 := TOK.cons bBox_en bBox_ok (tabFa3_ok)

end Go.Proofs.Ytcdejlgophpdjaa
end

section
namespace Go.Proofs.Ytcdejlgophpdjaa
open Go Go.RowKit Go.Proofs.Ytcdejlgophpdjaa.V
set_option linter.unusedVariables false

def sRep_D : Tab := (2, decC [(13, false), (61, false)]) :: tabFa4
theorem sRep_D_ok : TOK Try.prog sRep_D := TOK.cons (fun args => by kernel_rfl) (fun _ _ _ _ _ h ho => (decC_ok h ho).elim) tabFa4_ok
/-! slices.Repeat[[]azulejo/pixel.Pixel,azulejo/pixel.Pixel] -/
noncomputable def sRep_l254_code : Go.Code := loopOf (subs (bodyOf Try.prog 104) 1 254)
structure sRep_l254_T where
  a0 : Int
  a1 : List (List Int)
  deriving Inhabited
def sRep_l254_hd (v : sRep_l254_T) : HS := HS.mk [(nat_lit 4, LV.a At.nils), (nat_lit 7, LV.a (At.vec (nat_lit 0) (nat_lit 0) (nat_lit 6))), (nat_lit 8, LV.a (At.int true IntKind.i64 (sRep_l254_T.a0 v)))] [BC.mk (Hd.mk (nat_lit 0) (nat_lit 0) false (some (Rw.mk (nat_lit 0) [Kd.int IntKind.u8, Kd.int IntKind.u8, Kd.int IntKind.u8, Kd.int IntKind.u8, Kd.int IntKind.i64, Kd.int IntKind.u8] (sRep_l254_T.a1 v) none))) []]
def sRep_l254_s0 (v : sRep_l254_T) : Bool := decide (sRep_l254_T.a0 v < Int.ofNat (List.length (sRep_l254_T.a1 v)))
def sRep_l254_s1 (v : sRep_l254_T) : List (List Int) := List.take (Int.toNat (sRep_l254_T.a0 v) - Int.toNat (Int.ofNat (0 : Nat))) (List.drop (Int.toNat (Int.ofNat (0 : Nat))) (sRep_l254_T.a1 v))
def sRep_l254_s2 (v : sRep_l254_T) : Nat := Int.toNat (Int.ofNat (List.length (sRep_l254_T.a1 v))) - Int.toNat (sRep_l254_T.a0 v)
def sRep_l254_st (v : sRep_l254_T) : List Prop × List (X × Bool × sRep_l254_T) := ([sRep_l254_s0 v = true → (0 : Int) ≤ sRep_l254_T.a0 v ∧ sRep_l254_T.a0 v ≤ Int.ofNat (List.length (sRep_l254_T.a1 v)) ∧ Int.ofNat (List.length (sRep_l254_T.a1 v)) ≤ Int.ofNat (List.length (sRep_l254_T.a1 v)), sRep_l254_s0 v = true → (0 : Int) ≤ Int.ofNat (0 : Nat) ∧ Int.ofNat (0 : Nat) ≤ sRep_l254_T.a0 v ∧ sRep_l254_T.a0 v ≤ Int.ofNat (List.length (sRep_l254_T.a1 v))], [(X.e (0 : Nat), !sRep_l254_s0 v, sRep_l254_T.mk (sRep_l254_T.a0 v) (sRep_l254_T.a1 v)), (X.n, sRep_l254_s0 v, sRep_l254_T.mk (IntKind.wrap IntKind.i64 (sRep_l254_T.a0 v + Int.ofNat (Nat.min (List.length (sRep_l254_s1 v)) (sRep_l254_s2 v)))) (List.take (Int.toNat (sRep_l254_T.a0 v)) (sRep_l254_T.a1 v) ++ List.take (sRep_l254_s2 v) (sRep_l254_s1 v) ++ List.drop (Int.toNat (sRep_l254_T.a0 v) + Nat.min (List.length (sRep_l254_s1 v)) (sRep_l254_s2 v)) (sRep_l254_T.a1 v)))])
def sRep_l254_rd : HS → Option sRep_l254_T
  | HS.mk [(4, LV.a At.nils), (7, LV.a (At.vec 0 0 6)), (8, LV.a (At.int true IntKind.i64 a0))] [BC.mk (Hd.mk 0 0 false (some (Rw.mk 0 [Kd.int IntKind.u8, Kd.int IntKind.u8, Kd.int IntKind.u8, Kd.int IntKind.u8, Kd.int IntKind.i64, Kd.int IntKind.u8] a1 none))) []] => some (sRep_l254_T.mk a0 a1)
  | _ => none
def sRep_l254_sum : V.Sum := loopS sRep_l254_hd sRep_l254_rd sRep_l254_st 18446744073709551616 [X.e (0 : Nat)] [0, 1, 4, 5, 6, 7, 8, 10, 26, 37] [4, 7, 8] [0] [0] [] 0
theorem sRep_l254_E : ∀ v, bodyF Try.prog sRep_D (ntOf Try.prog 104) [0, 1, 4, 5, 6, 7, 8, 10, 26, 37] [4, 7, 8] [] 2000 [0] [0] sRep_l254_code 1016 (sRep_l254_hd v) = some ((sRep_l254_st v).1, (sRep_l254_st v).2.map fun q => (q.1, q.2.1, sRep_l254_hd q.2.2)) := fun v => by kernel_rfl
set_option maxHeartbeats 2000000 in
theorem sRep_l254_R : ∀ h v, sRep_l254_rd h = some v → h = sRep_l254_hd v := by
  intro h v e
  unfold sRep_l254_rd at e
  split at e
  · simp only [Option.some.injEq] at e; subst e; rfl
  · cases e
set_option maxRecDepth 100000 in
theorem sRep_l254_sok : SumOK Try.prog (ntOf Try.prog 104) [0, 1, 4, 5, 6, 7, 8, 10, 26, 37] (.block (blockOf (subs (bodyOf Try.prog 104) 1 254)) (.loop sRep_l254_code)) sRep_l254_sum := loopS_ok sRep_D_ok follows sRep_l254_E sRep_l254_R (fun v => by kernel_rfl) (LOK_of _ _ (LOK_nil'))
def sRep_s0 (p0 : Int) (p1 : Int) (p2 : Int) (p3 : Int) (p4 : Int) (p5 : Int) : List (List Int) := [[p0, p1, p2, p3, p4, p5]]
def sRep_s1 (x1 : Int) : Int := bMul64_1 (IntKind.wrap IntKind.u64 (Int.ofNat (1 : Nat))) (IntKind.wrap IntKind.u64 x1)
def sRep_s2 (x1 : Int) : List (List Int) := List.replicate (Int.toNat (IntKind.wrap IntKind.i64 (sRep_s1 x1))) [(0 : Int), (0 : Int), (0 : Int), (0 : Int), (0 : Int), (0 : Int)]
def sRep_s3 (x1 : Int) (p0 : Int) (p1 : Int) (p2 : Int) (p3 : Int) (p4 : Int) (p5 : Int) : Nat := Nat.min (List.length (sRep_s0 p0 p1 p2 p3 p4 p5)) (List.length (sRep_s2 x1))
def sRep_0 (x1 : Int) (p0 : Int) (p1 : Int) (p2 : Int) (p3 : Int) (p4 : Int) (p5 : Int) : List (List Int) := sRep_l254_T.a1 (V.valOf (lrun sRep_l254_st (18446744073709551616 : Nat) (sRep_l254_T.mk (Int.ofNat (sRep_s3 x1 p0 p1 p2 p3 p4 p5)) (List.take (0 : Nat) (sRep_s2 x1) ++ List.take (List.length (sRep_s2 x1)) (sRep_s0 p0 p1 p2 p3 p4 p5) ++ List.drop ((0 : Nat) + sRep_s3 x1 p0 p1 p2 p3 p4 p5) (sRep_s2 x1)))))
def sRep_o (x1 : Int) (r0 : Bool) (p0 : Int) (p1 : Int) (p2 : Int) (p3 : Int) (p4 : Int) (p5 : Int) : List Prop := [decide (x1 < (0 : Int)) = false, (bif decide ((0 : Int) < bMul64_0 (IntKind.wrap IntKind.u64 (Int.ofNat (1 : Nat))) (IntKind.wrap IntKind.u64 x1)) then true else decide ((9223372036854775807 : Int) < sRep_s1 x1)) = false, (0 : Int) ≤ IntKind.wrap IntKind.i64 (sRep_s1 x1) ∧ IntKind.wrap IntKind.i64 (sRep_s1 x1) = IntKind.wrap IntKind.i64 (sRep_s1 x1) ∧ IntKind.wrap IntKind.i64 (sRep_s1 x1) * Int.ofNat (24 : Nat) ≤ (70368744177664 : Int), lok sRep_l254_st (18446744073709551616 : Nat) (sRep_l254_T.mk (Int.ofNat (sRep_s3 x1 p0 p1 p2 p3 p4 p5)) (List.take (0 : Nat) (sRep_s2 x1) ++ List.take (List.length (sRep_s2 x1)) (sRep_s0 p0 p1 p2 p3 p4 p5) ++ List.drop ((0 : Nat) + sRep_s3 x1 p0 p1 p2 p3 p4 p5) (sRep_s2 x1)))]
theorem sRep_p (x1 : Int) (r0 : Bool) (p0 : Int) (p1 : Int) (p2 : Int) (p3 : Int) (p4 : Int) (p5 : Int) : evG Try.prog sRep_D 2000 104 [0, 1, 4, 5, 6, 7, 8, 10, 26, 37] [(254, sRep_l254_sum)] [] [.a (.slc false 0 0 0 6 0 1), .a (.int true .i64 x1)] [⟨⟨0, 6, r0, none⟩, [some (.int true .u8 p0), some (.int true .u8 p1), some (.int true .u8 p2), some (.int true .u8 p3), some (.int true .i64 p4), some (.int true .u8 p5)]⟩] = some (sRep_o x1 r0 p0 p1 p2 p3 p4 p5, LV.a (At.vec (nat_lit 1) (nat_lit 1) (nat_lit 6)), [none, some (BC.mk (Hd.mk (nat_lit 1) (nat_lit 0) false (some (Rw.mk (nat_lit 0) [Kd.int IntKind.u8, Kd.int IntKind.u8, Kd.int IntKind.u8, Kd.int IntKind.u8, Kd.int IntKind.i64, Kd.int IntKind.u8] (sRep_0 x1 p0 p1 p2 p3 p4 p5) none))) [])]) := by kernel_rfl
def sRep_c : Con
  | [.a (.slc false 0 0 0 6 0 1), .a (.int true .i64 x1)], [⟨⟨0, 6, r0, none⟩, [some (.int true .u8 p0), some (.int true .u8 p1), some (.int true .u8 p2), some (.int true .u8 p3), some (.int true .i64 p4), some (.int true .u8 p5)]⟩] => some (sRep_o x1 r0 p0 p1 p2 p3 p4 p5, LV.a (At.vec (nat_lit 1) (nat_lit 1) (nat_lit 6)), [none, some (BC.mk (Hd.mk (nat_lit 1) (nat_lit 0) false (some (Rw.mk (nat_lit 0) [Kd.int IntKind.u8, Kd.int IntKind.u8, Kd.int IntKind.u8, Kd.int IntKind.u8, Kd.int IntKind.i64, Kd.int IntKind.u8] (sRep_0 x1 p0 p1 p2 p3 p4 p5) none))) [])])
  | _, _ => none
theorem sRep_ok : ConOK Try.prog 104 (normC sRep_c) := normC_ok (by
  intro args bs obs lv out h ho φ vs w may ha hM
  unfold sRep_c at h
  split at h
  · simp only [Option.some.injEq, Prod.mk.injEq] at h
    obtain ⟨rfl, rfl, rfl⟩ := h
    rename_i x1 r0 p0 p1 p2 p3 p4 p5
    exact evG_okL' sRep_D_ok follows (LOK_cons (show subs (bodyOf Try.prog 104) 1 254 = [.block (blockOf (subs (bodyOf Try.prog 104) 1 254)) (.loop sRep_l254_code)] from by kernel_rfl) sRep_l254_sok (LOK_nil')) _ _ _ _ _ (sRep_p x1 r0 p0 p1 p2 p3 p4 p5) ho φ vs w may ha hM
  · cases h)
theorem sRep_en : Enters Try.prog 104 := fun args => by kernel_rfl
-- 1748 36 11 ms

def tabFb : Tab := (104, normC sRep_c) :: tabFa4
theorem tabFb_ok : TOK Try.prog tabFb := TOK.cons sRep_en sRep_ok (tabFa4_ok)

end Go.Proofs.Ytcdejlgophpdjaa
end

section
namespace Go.Proofs.Ytcdejlgophpdjaa
open Go Go.RowKit Go.Proofs.Ytcdejlgophpdjaa.V
set_option linter.unusedVariables false

/-! azulejo/frame.New -/
def fNew_s0 (x0 : Int) : Int := if x0 < (1 : Int) then (1 : Int) else x0
def fNew_s1 (x0 : Int) : Int := if (1 : Int) > x0 then (1 : Int) else x0
def fNew_s2 (x0 : Int) : Int := if (64 : Int) < fNew_s0 x0 then (64 : Int) else fNew_s0 x0
def fNew_s3 (x1 : Int) : Int := if x1 < (1 : Int) then (1 : Int) else x1
def fNew_s4 (x1 : Int) : Int := if (1 : Int) > x1 then (1 : Int) else x1
def fNew_s5 (x1 : Int) : Int := if (64 : Int) < fNew_s3 x1 then (64 : Int) else fNew_s3 x1
def fNew_s6 (x0 : Int) (x1 : Int) : Int := IntKind.wrap IntKind.i64 (fNew_s2 x0 * fNew_s5 x1)
def fNew_0 (x0 : Int) (x1 : Int) (x2_0 : Int) (x2_1 : Int) (x2_2 : Int) (x2_3 : Int) (x2_4 : Int) (x2_5 : Int) : List (List Int) := sRep_0 (fNew_s6 x0 x1) x2_0 x2_1 x2_2 x2_3 x2_4 x2_5
def fNew_s7 (x0 : Int) (x1 : Int) : Int := IntKind.wrap IntKind.i64 ((if (64 : Int) < fNew_s1 x0 then (64 : Int) else fNew_s1 x0) * if (64 : Int) < fNew_s4 x1 then (64 : Int) else fNew_s4 x1)
def fNew_o (x0 : Int) (x1 : Int) (x2_0 : Int) (x2_1 : Int) (x2_2 : Int) (x2_3 : Int) (x2_4 : Int) (x2_5 : Int) : List Prop := [decide (fNew_s6 x0 x1 < (0 : Int)) = false, (bif decide ((0 : Int) < bMul64_0 (IntKind.wrap IntKind.u64 (Int.ofNat (1 : Nat))) (IntKind.wrap IntKind.u64 (fNew_s6 x0 x1))) then true else decide ((9223372036854775807 : Int) < sRep_s1 (fNew_s6 x0 x1))) = false, (0 : Int) ≤ IntKind.wrap IntKind.i64 (sRep_s1 (fNew_s6 x0 x1)) ∧ IntKind.wrap IntKind.i64 (sRep_s1 (fNew_s6 x0 x1)) = IntKind.wrap IntKind.i64 (sRep_s1 (fNew_s6 x0 x1)) ∧ IntKind.wrap IntKind.i64 (sRep_s1 (fNew_s6 x0 x1)) * Int.ofNat (24 : Nat) ≤ (70368744177664 : Int), lok sRep_l254_st (18446744073709551616 : Nat) (sRep_l254_T.mk (Int.ofNat (sRep_s3 (fNew_s6 x0 x1) x2_0 x2_1 x2_2 x2_3 x2_4 x2_5)) (List.take (0 : Nat) (sRep_s2 (fNew_s6 x0 x1)) ++ List.take (List.length (sRep_s2 (fNew_s6 x0 x1))) (sRep_s0 x2_0 x2_1 x2_2 x2_3 x2_4 x2_5) ++ List.drop ((0 : Nat) + sRep_s3 (fNew_s6 x0 x1) x2_0 x2_1 x2_2 x2_3 x2_4 x2_5) (sRep_s2 (fNew_s6 x0 x1))))]
theorem fNew_p (x0 : Int) (x1 : Int) (x2_0 : Int) (x2_1 : Int) (x2_2 : Int) (x2_3 : Int) (x2_4 : Int) (x2_5 : Int) : evG Try.prog tabFb 2000 38 [0, 1, 2, 5, 6, 7] [] [] [.a (.int true .i64 x0), .a (.int true .i64 x1), .g [.int true .u8 x2_0, .int true .u8 x2_1, .int true .u8 x2_2, .int true .u8 x2_3, .int true .i64 x2_4, .int true .u8 x2_5]] [] = some (fNew_o x0 x1 x2_0 x2_1 x2_2 x2_3 x2_4 x2_5, LV.g [At.int true IntKind.i64 (fNew_s2 x0), At.int true IntKind.i64 (fNew_s5 x1), At.vec (nat_lit 0) (nat_lit 1) (nat_lit 6)], [some (BC.mk (Hd.mk (nat_lit 1) (nat_lit 0) false (some (Rw.mk (nat_lit 0) [Kd.int IntKind.u8, Kd.int IntKind.u8, Kd.int IntKind.u8, Kd.int IntKind.u8, Kd.int IntKind.i64, Kd.int IntKind.u8] (fNew_0 x0 x1 x2_0 x2_1 x2_2 x2_3 x2_4 x2_5) none))) [])]) := by kernel_rfl
def fNew_c : Con
  | [.a (.int true .i64 x0), .a (.int true .i64 x1), .g [.int true .u8 x2_0, .int true .u8 x2_1, .int true .u8 x2_2, .int true .u8 x2_3, .int true .i64 x2_4, .int true .u8 x2_5]], [] => some (fNew_o x0 x1 x2_0 x2_1 x2_2 x2_3 x2_4 x2_5, LV.g [At.int true IntKind.i64 (fNew_s2 x0), At.int true IntKind.i64 (fNew_s5 x1), At.vec (nat_lit 0) (nat_lit 1) (nat_lit 6)], [some (BC.mk (Hd.mk (nat_lit 1) (nat_lit 0) false (some (Rw.mk (nat_lit 0) [Kd.int IntKind.u8, Kd.int IntKind.u8, Kd.int IntKind.u8, Kd.int IntKind.u8, Kd.int IntKind.i64, Kd.int IntKind.u8] (fNew_0 x0 x1 x2_0 x2_1 x2_2 x2_3 x2_4 x2_5) none))) [])])
  | _, _ => none
theorem fNew_ok : ConOK Try.prog 38 (normC fNew_c) := normC_ok (by
  intro args bs obs lv out h ho φ vs w may ha hM
  unfold fNew_c at h
  split at h
  · simp only [Option.some.injEq, Prod.mk.injEq] at h
    obtain ⟨rfl, rfl, rfl⟩ := h
    rename_i x0 x1 x2_0 x2_1 x2_2 x2_3 x2_4 x2_5
    exact evG_ok tabFb_ok follows _ _ _ _ _ (fNew_p x0 x1 x2_0 x2_1 x2_2 x2_3 x2_4 x2_5) ho φ vs w may ha hM
  · cases h)
theorem fNew_en : Enters Try.prog 38 := fun args => by kernel_rfl
-- 258 22 10 ms

/-! (azulejo/frame.Frame).At -/
def fAt_s0 (w0 : Int) (x1 : Int) (x2 : Int) : Int := IntKind.wrap IntKind.i64 (IntKind.wrap IntKind.i64 (x2 * w0) + x1)
def fAt_s1 (w0 : Int) (h0 : Int) (x1 : Int) (x2 : Int) (l : List (List Int)) : Bool := bif decide (x1 < (0 : Int)) then true else bif decide (w0 ≤ x1) then true else bif decide (x2 < (0 : Int)) then true else bif decide (h0 ≤ x2) then true else decide (Int.ofNat (List.length l) ≤ fAt_s0 w0 x1 x2)
def fAt_0 (w0 : Int) (h0 : Int) (x1 : Int) (x2 : Int) (l : List (List Int)) : Int := bif fAt_s1 w0 h0 x1 x2 l then (0 : Int) else rget l (Int.toNat (fAt_s0 w0 x1 x2)) (0 : Nat)
def fAt_1 (w0 : Int) (h0 : Int) (x1 : Int) (x2 : Int) (l : List (List Int)) : Int := bif fAt_s1 w0 h0 x1 x2 l then (0 : Int) else rget l (Int.toNat (fAt_s0 w0 x1 x2)) (1 : Nat)
def fAt_2 (w0 : Int) (h0 : Int) (x1 : Int) (x2 : Int) (l : List (List Int)) : Int := bif fAt_s1 w0 h0 x1 x2 l then (0 : Int) else rget l (Int.toNat (fAt_s0 w0 x1 x2)) (2 : Nat)
def fAt_3 (w0 : Int) (h0 : Int) (x1 : Int) (x2 : Int) (l : List (List Int)) : Int := bif fAt_s1 w0 h0 x1 x2 l then (0 : Int) else rget l (Int.toNat (fAt_s0 w0 x1 x2)) (3 : Nat)
def fAt_4 (w0 : Int) (h0 : Int) (x1 : Int) (x2 : Int) (l : List (List Int)) : Int := bif fAt_s1 w0 h0 x1 x2 l then (0 : Int) else rget l (Int.toNat (fAt_s0 w0 x1 x2)) (4 : Nat)
def fAt_5 (w0 : Int) (h0 : Int) (x1 : Int) (x2 : Int) (l : List (List Int)) : Int := bif fAt_s1 w0 h0 x1 x2 l then (0 : Int) else rget l (Int.toNat (fAt_s0 w0 x1 x2)) (5 : Nat)
def fAt_o (w0 : Int) (h0 : Int) (x1 : Int) (x2 : Int) (r0 : Bool) (l : List (List Int)) : List Prop := [(!fAt_s1 w0 h0 x1 x2 l) = true → (0 : Int) ≤ fAt_s0 w0 x1 x2 ∧ fAt_s0 w0 x1 x2 < Int.ofNat (List.length l)]
theorem fAt_p (w0 : Int) (h0 : Int) (x1 : Int) (x2 : Int) (r0 : Bool) (l : List (List Int)) : evG Try.prog tabFb 2000 62 [0, 1, 2, 3, 6, 39] [] [] [.g [.int true .i64 w0, .int true .i64 h0, .vec 0 0 6], .a (.int true .i64 x1), .a (.int true .i64 x2)] [⟨⟨0, 0, r0, some ⟨0, [.int .u8, .int .u8, .int .u8, .int .u8, .int .i64, .int .u8], l, none⟩⟩, []⟩] = some (fAt_o w0 h0 x1 x2 r0 l, LV.g [At.int true IntKind.u8 (fAt_0 w0 h0 x1 x2 l), At.int true IntKind.u8 (fAt_1 w0 h0 x1 x2 l), At.int true IntKind.u8 (fAt_2 w0 h0 x1 x2 l), At.int true IntKind.u8 (fAt_3 w0 h0 x1 x2 l), At.int true IntKind.i64 (fAt_4 w0 h0 x1 x2 l), At.int true IntKind.u8 (fAt_5 w0 h0 x1 x2 l)], [none]) := by kernel_rfl
def fAt_c : Con
  | [.g [.int true .i64 w0, .int true .i64 h0, .vec 0 0 6], .a (.int true .i64 x1), .a (.int true .i64 x2)], [⟨⟨0, 0, r0, some ⟨0, [.int .u8, .int .u8, .int .u8, .int .u8, .int .i64, .int .u8], l, none⟩⟩, []⟩] => some (fAt_o w0 h0 x1 x2 r0 l, LV.g [At.int true IntKind.u8 (fAt_0 w0 h0 x1 x2 l), At.int true IntKind.u8 (fAt_1 w0 h0 x1 x2 l), At.int true IntKind.u8 (fAt_2 w0 h0 x1 x2 l), At.int true IntKind.u8 (fAt_3 w0 h0 x1 x2 l), At.int true IntKind.i64 (fAt_4 w0 h0 x1 x2 l), At.int true IntKind.u8 (fAt_5 w0 h0 x1 x2 l)], [none])
  | _, _ => none
theorem fAt_ok : ConOK Try.prog 62 (normC fAt_c) := normC_ok (by
  intro args bs obs lv out h ho φ vs w may ha hM
  unfold fAt_c at h
  split at h
  · simp only [Option.some.injEq, Prod.mk.injEq] at h
    obtain ⟨rfl, rfl, rfl⟩ := h
    rename_i w0 h0 x1 x2 r0 l
    exact evG_ok tabFb_ok follows _ _ _ _ _ (fAt_p w0 h0 x1 x2 r0 l) ho φ vs w may ha hM
  · cases h)
theorem fAt_en : Enters Try.prog 62 := fun args => by kernel_rfl
-- 396 274 12 ms

/-! (azulejo/frame.Frame).Set -/
def fSet_s0 (w0 : Int) (x1 : Int) (x2 : Int) : Int := IntKind.wrap IntKind.i64 (IntKind.wrap IntKind.i64 (x2 * w0) + x1)
def fSet_s1 (w0 : Int) (h0 : Int) (x1 : Int) (x2 : Int) (l : List (List Int)) : Bool := bif decide ((0 : Int) ≤ x1) then bif decide (x1 < w0) then bif decide ((0 : Int) ≤ x2) then bif decide (x2 < h0) then decide (fSet_s0 w0 x1 x2 < Int.ofNat (List.length l)) else false else false else false else false
def fSet_0 (w0 : Int) (h0 : Int) (x1 : Int) (x2 : Int) (p0 : Int) (p1 : Int) (p2 : Int) (p3 : Int) (p4 : Int) (p5 : Int) (l : List (List Int)) : List (List Int) := bif fSet_s1 w0 h0 x1 x2 l then List.set l (Int.toNat (fSet_s0 w0 x1 x2)) [p0, p1, p2, p3, p4, p5] else l
def fSet_o (w0 : Int) (h0 : Int) (x1 : Int) (x2 : Int) (p0 : Int) (p1 : Int) (p2 : Int) (p3 : Int) (p4 : Int) (p5 : Int) (l : List (List Int)) : List Prop := [fSet_s1 w0 h0 x1 x2 l = true → (0 : Int) ≤ fSet_s0 w0 x1 x2 ∧ fSet_s0 w0 x1 x2 < Int.ofNat (List.length l)]
theorem fSet_p (w0 : Int) (h0 : Int) (x1 : Int) (x2 : Int) (p0 : Int) (p1 : Int) (p2 : Int) (p3 : Int) (p4 : Int) (p5 : Int) (l : List (List Int)) : evG Try.prog tabFb 2000 68 [0, 1, 2, 3, 4, 7, 40] [] [0] [.g [.int true .i64 w0, .int true .i64 h0, .vec 0 0 6], .a (.int true .i64 x1), .a (.int true .i64 x2), .g [.int true .u8 p0, .int true .u8 p1, .int true .u8 p2, .int true .u8 p3, .int true .i64 p4, .int true .u8 p5]] [⟨⟨0, 0, false, some ⟨0, [.int .u8, .int .u8, .int .u8, .int .u8, .int .i64, .int .u8], l, none⟩⟩, []⟩] = some (fSet_o w0 h0 x1 x2 p0 p1 p2 p3 p4 p5 l, LV.t [], [some (BC.mk (Hd.mk (nat_lit 0) (nat_lit 0) false (some (Rw.mk (nat_lit 0) [Kd.int IntKind.u8, Kd.int IntKind.u8, Kd.int IntKind.u8, Kd.int IntKind.u8, Kd.int IntKind.i64, Kd.int IntKind.u8] (fSet_0 w0 h0 x1 x2 p0 p1 p2 p3 p4 p5 l) none))) [])]) := by kernel_rfl
def fSet_c : Con
  | [.g [.int true .i64 w0, .int true .i64 h0, .vec 0 0 6], .a (.int true .i64 x1), .a (.int true .i64 x2), .g [.int true .u8 p0, .int true .u8 p1, .int true .u8 p2, .int true .u8 p3, .int true .i64 p4, .int true .u8 p5]], [⟨⟨0, 0, false, some ⟨0, [.int .u8, .int .u8, .int .u8, .int .u8, .int .i64, .int .u8], l, none⟩⟩, []⟩] => some (fSet_o w0 h0 x1 x2 p0 p1 p2 p3 p4 p5 l, LV.t [], [some (BC.mk (Hd.mk (nat_lit 0) (nat_lit 0) false (some (Rw.mk (nat_lit 0) [Kd.int IntKind.u8, Kd.int IntKind.u8, Kd.int IntKind.u8, Kd.int IntKind.u8, Kd.int IntKind.i64, Kd.int IntKind.u8] (fSet_0 w0 h0 x1 x2 p0 p1 p2 p3 p4 p5 l) none))) [])])
  | _, _ => none
theorem fSet_ok : ConOK Try.prog 68 (normC fSet_c) := normC_ok (by
  intro args bs obs lv out h ho φ vs w may ha hM
  unfold fSet_c at h
  split at h
  · simp only [Option.some.injEq, Prod.mk.injEq] at h
    obtain ⟨rfl, rfl, rfl⟩ := h
    rename_i w0 h0 x1 x2 p0 p1 p2 p3 p4 p5 l
    exact evG_ok tabFb_ok follows _ _ _ _ _ (fSet_p w0 h0 x1 x2 p0 p1 p2 p3 p4 p5 l) ho φ vs w may ha hM
  · cases h)
theorem fSet_en : Enters Try.prog 68 := fun args => by kernel_rfl
-- 378 2 7 ms

def sClone_D : Tab := (2, decC [(13, false)]) :: tabFb
theorem sClone_D_ok : TOK Try.prog sClone_D := TOK.cons (fun args => by kernel_rfl) (fun _ _ _ _ _ h ho => (decC_ok h ho).elim) tabFb_ok
/-! slices.Clone[[]azulejo/pixel.Pixel,azulejo/pixel.Pixel] -/
def sClone_s0 (l : List (List Int)) : List (List Int) := [] ++ l
def sClone_o (r0 : Bool) (l : List (List Int)) : List Prop := [List.length l ≠ (0 : Nat), List.length (sClone_s0 l) * (24 : Nat) ≤ (70368744177664 : Nat)]
theorem sClone_p (r0 : Bool) (l : List (List Int)) : evG Try.prog sClone_D 2000 105 [0, 2, 4] [] [] [.a (.vec 0 0 6)] [⟨⟨0, 0, r0, some ⟨0, [.int .u8, .int .u8, .int .u8, .int .u8, .int .i64, .int .u8], l, none⟩⟩, []⟩] = some (sClone_o r0 l, LV.a (At.vec (nat_lit 1) (nat_lit 1) (nat_lit 6)), [none, some (BC.mk (Hd.mk (nat_lit 1) (nat_lit 0) false (some (Rw.mk (nat_lit 0) [Kd.int IntKind.u8, Kd.int IntKind.u8, Kd.int IntKind.u8, Kd.int IntKind.u8, Kd.int IntKind.i64, Kd.int IntKind.u8] (sClone_s0 l) none))) [])]) := by kernel_rfl
def sClone_c : Con
  | [.a (.vec 0 0 6)], [⟨⟨0, 0, r0, some ⟨0, [.int .u8, .int .u8, .int .u8, .int .u8, .int .i64, .int .u8], l, none⟩⟩, []⟩] => some (sClone_o r0 l, LV.a (At.vec (nat_lit 1) (nat_lit 1) (nat_lit 6)), [none, some (BC.mk (Hd.mk (nat_lit 1) (nat_lit 0) false (some (Rw.mk (nat_lit 0) [Kd.int IntKind.u8, Kd.int IntKind.u8, Kd.int IntKind.u8, Kd.int IntKind.u8, Kd.int IntKind.i64, Kd.int IntKind.u8] (sClone_s0 l) none))) [])])
  | _, _ => none
theorem sClone_ok : ConOK Try.prog 105 (normC sClone_c) := normC_ok (by
  intro args bs obs lv out h ho φ vs w may ha hM
  unfold sClone_c at h
  split at h
  · simp only [Option.some.injEq, Prod.mk.injEq] at h
    obtain ⟨rfl, rfl, rfl⟩ := h
    rename_i r0 l
    exact evG_ok sClone_D_ok follows _ _ _ _ _ (sClone_p r0 l) ho φ vs w may ha hM
  · cases h)
theorem sClone_en : Enters Try.prog 105 := fun args => by kernel_rfl
-- 92 11 2 ms

/-! slices.Equal[[]azulejo/pixel.Pixel,azulejo/pixel.Pixel] -/
noncomputable def sEqual_l29_code : Go.Code := loopOf (subs (bodyOf Try.prog 119) 1 29)
structure sEqual_l29_T where
  a0 : Bool
  a1 : Int
  a2 : Int
  a3 : List (List Int)
  a4 : List (List Int)
  deriving Inhabited
def sEqual_l29_hd (v : sEqual_l29_T) : HS := HS.mk [(nat_lit 0, LV.a (At.vec (nat_lit 0) (nat_lit 0) (nat_lit 6))), (nat_lit 1, LV.a (At.vec (nat_lit 1) (nat_lit 0) (nat_lit 6))), (nat_lit 4, LV.a (At.bool true (sEqual_l29_T.a0 v))), (nat_lit 12, LV.a (At.int true IntKind.i64 (sEqual_l29_T.a1 v))), (nat_lit 13, LV.a (At.int true IntKind.i64 (sEqual_l29_T.a2 v)))] [BC.mk (Hd.mk (nat_lit 0) (nat_lit 0) true (some (Rw.mk (nat_lit 0) [Kd.int IntKind.u8, Kd.int IntKind.u8, Kd.int IntKind.u8, Kd.int IntKind.u8, Kd.int IntKind.i64, Kd.int IntKind.u8] (sEqual_l29_T.a3 v) none))) [], BC.mk (Hd.mk (nat_lit 0) (nat_lit 0) true (some (Rw.mk (nat_lit 0) [Kd.int IntKind.u8, Kd.int IntKind.u8, Kd.int IntKind.u8, Kd.int IntKind.u8, Kd.int IntKind.i64, Kd.int IntKind.u8] (sEqual_l29_T.a4 v) none))) []]
def sEqual_l29_s0 (v : sEqual_l29_T) : Bool := decide (sEqual_l29_T.a2 v < sEqual_l29_T.a1 v)
def sEqual_l29_s1 (v : sEqual_l29_T) : Bool := !(rget (sEqual_l29_T.a3 v) (Int.toNat (sEqual_l29_T.a2 v)) (0 : Nat) == rget (sEqual_l29_T.a4 v) (Int.toNat (sEqual_l29_T.a2 v)) (0 : Nat) && (rget (sEqual_l29_T.a3 v) (Int.toNat (sEqual_l29_T.a2 v)) (1 : Nat) == rget (sEqual_l29_T.a4 v) (Int.toNat (sEqual_l29_T.a2 v)) (1 : Nat) && (rget (sEqual_l29_T.a3 v) (Int.toNat (sEqual_l29_T.a2 v)) (2 : Nat) == rget (sEqual_l29_T.a4 v) (Int.toNat (sEqual_l29_T.a2 v)) (2 : Nat) && rget (sEqual_l29_T.a3 v) (Int.toNat (sEqual_l29_T.a2 v)) (3 : Nat) == rget (sEqual_l29_T.a4 v) (Int.toNat (sEqual_l29_T.a2 v)) (3 : Nat))) && (rget (sEqual_l29_T.a3 v) (Int.toNat (sEqual_l29_T.a2 v)) (4 : Nat) == rget (sEqual_l29_T.a4 v) (Int.toNat (sEqual_l29_T.a2 v)) (4 : Nat) && rget (sEqual_l29_T.a3 v) (Int.toNat (sEqual_l29_T.a2 v)) (5 : Nat) == rget (sEqual_l29_T.a4 v) (Int.toNat (sEqual_l29_T.a2 v)) (5 : Nat)))
def sEqual_l29_st (v : sEqual_l29_T) : List Prop × List (X × Bool × sEqual_l29_T) := ([sEqual_l29_s0 v = true → (0 : Int) ≤ sEqual_l29_T.a2 v ∧ sEqual_l29_T.a2 v < Int.ofNat (List.length (sEqual_l29_T.a3 v)), sEqual_l29_s0 v = true → (0 : Int) ≤ sEqual_l29_T.a2 v ∧ sEqual_l29_T.a2 v < Int.ofNat (List.length (sEqual_l29_T.a4 v))], [(X.e (0 : Nat), !sEqual_l29_s0 v, sEqual_l29_T.mk (sEqual_l29_T.a0 v) (sEqual_l29_T.a1 v) (sEqual_l29_T.a2 v) (sEqual_l29_T.a3 v) (sEqual_l29_T.a4 v)), (X.r, sEqual_l29_s0 v && sEqual_l29_s1 v, sEqual_l29_T.mk (false) (sEqual_l29_T.a1 v) (sEqual_l29_T.a2 v) (sEqual_l29_T.a3 v) (sEqual_l29_T.a4 v)), (X.n, sEqual_l29_s0 v && !sEqual_l29_s1 v, sEqual_l29_T.mk (sEqual_l29_T.a0 v) (sEqual_l29_T.a1 v) (IntKind.wrap IntKind.i64 (sEqual_l29_T.a2 v + (1 : Int))) (sEqual_l29_T.a3 v) (sEqual_l29_T.a4 v))])
def sEqual_l29_rd : HS → Option sEqual_l29_T
  | HS.mk [(0, LV.a (At.vec 0 0 6)), (1, LV.a (At.vec 1 0 6)), (4, LV.a (At.bool true a0)), (12, LV.a (At.int true IntKind.i64 a1)), (13, LV.a (At.int true IntKind.i64 a2))] [BC.mk (Hd.mk 0 0 true (some (Rw.mk 0 [Kd.int IntKind.u8, Kd.int IntKind.u8, Kd.int IntKind.u8, Kd.int IntKind.u8, Kd.int IntKind.i64, Kd.int IntKind.u8] a3 none))) [], BC.mk (Hd.mk 0 0 true (some (Rw.mk 0 [Kd.int IntKind.u8, Kd.int IntKind.u8, Kd.int IntKind.u8, Kd.int IntKind.u8, Kd.int IntKind.i64, Kd.int IntKind.u8] a4 none))) []] => some (sEqual_l29_T.mk a0 a1 a2 a3 a4)
  | _ => none
def sEqual_l29_sum : V.Sum := loopS sEqual_l29_hd sEqual_l29_rd sEqual_l29_st 18446744073709551616 [X.e (0 : Nat), X.r] [0, 1, 4, 5, 10, 12, 13, 14, 24] [0, 1, 4, 12, 13] [] [] [] 0
theorem sEqual_l29_E : ∀ v, bodyF Try.prog tabFb (ntOf Try.prog 119) [0, 1, 4, 5, 10, 12, 13, 14, 24] [0, 1, 4, 12, 13] [] 2000 [] [] sEqual_l29_code 116 (sEqual_l29_hd v) = some ((sEqual_l29_st v).1, (sEqual_l29_st v).2.map fun q => (q.1, q.2.1, sEqual_l29_hd q.2.2)) := fun v => by kernel_rfl
set_option maxHeartbeats 2000000 in
theorem sEqual_l29_R : ∀ h v, sEqual_l29_rd h = some v → h = sEqual_l29_hd v := by
  intro h v e
  unfold sEqual_l29_rd at e
  split at e
  · simp only [Option.some.injEq] at e; subst e; rfl
  · cases e
set_option maxRecDepth 100000 in
theorem sEqual_l29_sok : SumOK Try.prog (ntOf Try.prog 119) [0, 1, 4, 5, 10, 12, 13, 14, 24] (.block (blockOf (subs (bodyOf Try.prog 119) 1 29)) (.loop sEqual_l29_code)) sEqual_l29_sum := loopS_ok tabFb_ok follows sEqual_l29_E sEqual_l29_R (fun v => by kernel_rfl) (LOK_of _ _ (LOK_nil'))
def sEqual_s0 (l : List (List Int)) (m : List (List Int)) : Bool := Int.ofNat (List.length l) != Int.ofNat (List.length m)
def sEqual_s1 (l : List (List Int)) (m : List (List Int)) : Option (X × sEqual_l29_T) := lrun sEqual_l29_st (18446744073709551616 : Nat) (sEqual_l29_T.mk false (Int.ofNat (List.length l)) (0 : Int) l m)
def sEqual_0 (l : List (List Int)) (m : List (List Int)) : Bool := bif sEqual_s0 l m then false else bif isX X.r (sEqual_s1 l m) then sEqual_l29_T.a0 (V.valOf (sEqual_s1 l m)) else true
def sEqual_o (r0 : Bool) (l : List (List Int)) (r1 : Bool) (m : List (List Int)) : List Prop := [(!sEqual_s0 l m) = true → lok sEqual_l29_st (18446744073709551616 : Nat) (sEqual_l29_T.mk false (Int.ofNat (List.length l)) (0 : Int) l m)]
theorem sEqual_p (r0 : Bool) (l : List (List Int)) (r1 : Bool) (m : List (List Int)) : evG Try.prog tabFb 2000 119 [0, 1, 4, 5, 10, 12, 13, 14, 24] [(29, sEqual_l29_sum)] [] [.a (.vec 0 0 6), .a (.vec 1 0 6)] [⟨⟨0, 0, r0, some ⟨0, [.int .u8, .int .u8, .int .u8, .int .u8, .int .i64, .int .u8], l, none⟩⟩, []⟩, ⟨⟨0, 0, r1, some ⟨0, [.int .u8, .int .u8, .int .u8, .int .u8, .int .i64, .int .u8], m, none⟩⟩, []⟩] = some (sEqual_o r0 l r1 m, LV.a (At.bool true (sEqual_0 l m)), [none, none]) := by kernel_rfl
def sEqual_c : Con
  | [.a (.vec 0 0 6), .a (.vec 1 0 6)], [⟨⟨0, 0, r0, some ⟨0, [.int .u8, .int .u8, .int .u8, .int .u8, .int .i64, .int .u8], l, none⟩⟩, []⟩, ⟨⟨0, 0, r1, some ⟨0, [.int .u8, .int .u8, .int .u8, .int .u8, .int .i64, .int .u8], m, none⟩⟩, []⟩] => some (sEqual_o r0 l r1 m, LV.a (At.bool true (sEqual_0 l m)), [none, none])
  | _, _ => none
theorem sEqual_ok : ConOK Try.prog 119 (normC sEqual_c) := normC_ok (by
  intro args bs obs lv out h ho φ vs w may ha hM
  unfold sEqual_c at h
  split at h
  · simp only [Option.some.injEq, Prod.mk.injEq] at h
    obtain ⟨rfl, rfl, rfl⟩ := h
    rename_i r0 l r1 m
    exact evG_okL' tabFb_ok follows (LOK_cons (show subs (bodyOf Try.prog 119) 1 29 = [.block (blockOf (subs (bodyOf Try.prog 119) 1 29)) (.loop sEqual_l29_code)] from by kernel_rfl) sEqual_l29_sok (LOK_nil')) _ _ _ _ _ (sEqual_p r0 l r1 m) ho φ vs w may ha hM
  · cases h)
theorem sEqual_en : Enters Try.prog 119 := fun args => by kernel_rfl
-- 1151 22 8 ms

/-! (azulejo/frame.Frame).Check -/
noncomputable def fChk_l29_code : Go.Code := loopOf (subs (bodyOf Try.prog 40) 1 29)
structure fChk_l29_T where
  a0 : Int
  a1 : Int
  a2 : Int
  a3 : List (List Int)
  deriving Inhabited
def fChk_l29_hd (v : fChk_l29_T) : HS := HS.mk [(nat_lit 2, LV.a (At.int true IntKind.i64 (fChk_l29_T.a0 v))), (nat_lit 41, LV.a (At.vec (nat_lit 0) (nat_lit 0) (nat_lit 6))), (nat_lit 42, LV.a (At.int true IntKind.i64 (fChk_l29_T.a1 v))), (nat_lit 43, LV.a (At.int true IntKind.i64 (fChk_l29_T.a2 v)))] [BC.mk (Hd.mk (nat_lit 0) (nat_lit 0) true (some (Rw.mk (nat_lit 0) [Kd.int IntKind.u8, Kd.int IntKind.u8, Kd.int IntKind.u8, Kd.int IntKind.u8, Kd.int IntKind.i64, Kd.int IntKind.u8] (fChk_l29_T.a3 v) none))) []]
def fChk_l29_s0 (v : fChk_l29_T) : Bool := decide (fChk_l29_T.a2 v < fChk_l29_T.a1 v)
def fChk_l29_s1 (v : fChk_l29_T) : Int := rget (Rw.l (Rw.mk (nat_lit 0) [Kd.int IntKind.u8, Kd.int IntKind.u8, Kd.int IntKind.u8, Kd.int IntKind.u8, Kd.int IntKind.i64, Kd.int IntKind.u8] (fChk_l29_T.a3 v) none)) (Int.toNat (fChk_l29_T.a2 v)) ((0 : Nat) + (1 : Nat) + (1 : Nat) + (1 : Nat) + (1 : Nat))
def fChk_l29_s2 (v : fChk_l29_T) : Bool := bif decide (rget (fChk_l29_T.a3 v) (Int.toNat (fChk_l29_T.a2 v)) (4 : Nat) < (0 : Int)) then true else decide ((65535 : Int) < rget (fChk_l29_T.a3 v) (Int.toNat (fChk_l29_T.a2 v)) (4 : Nat))
def fChk_l29_st (v : fChk_l29_T) : List Prop × List (X × Bool × fChk_l29_T) := ([fChk_l29_s0 v = true → (0 : Int) ≤ fChk_l29_T.a2 v ∧ fChk_l29_T.a2 v < Int.ofNat (List.length (fChk_l29_T.a3 v))], [(X.e (0 : Nat), !fChk_l29_s0 v, fChk_l29_T.mk (fChk_l29_T.a0 v) (fChk_l29_T.a1 v) (fChk_l29_T.a2 v) (fChk_l29_T.a3 v)), (X.r, fChk_l29_s0 v && fChk_l29_s2 v, fChk_l29_T.mk ((2 : Int)) (fChk_l29_T.a1 v) (fChk_l29_T.a2 v) (fChk_l29_T.a3 v)), (X.n, fChk_l29_s0 v && !fChk_l29_s2 v, fChk_l29_T.mk (fChk_l29_T.a0 v) (fChk_l29_T.a1 v) (IntKind.wrap IntKind.i64 (fChk_l29_T.a2 v + (1 : Int))) (fChk_l29_T.a3 v))])
def fChk_l29_rd : HS → Option fChk_l29_T
  | HS.mk [(2, LV.a (At.int true IntKind.i64 a0)), (41, LV.a (At.vec 0 0 6)), (42, LV.a (At.int true IntKind.i64 a1)), (43, LV.a (At.int true IntKind.i64 a2))] [BC.mk (Hd.mk 0 0 true (some (Rw.mk 0 [Kd.int IntKind.u8, Kd.int IntKind.u8, Kd.int IntKind.u8, Kd.int IntKind.u8, Kd.int IntKind.i64, Kd.int IntKind.u8] a3 none))) []] => some (fChk_l29_T.mk a0 a1 a2 a3)
  | _ => none
def fChk_l29_sum : V.Sum := loopS fChk_l29_hd fChk_l29_rd fChk_l29_st 18446744073709551616 [X.e (0 : Nat), X.r] [0, 1, 2, 4, 39, 41, 42, 43, 44, 54] [2, 41, 42, 43] [] [] [] 0
theorem fChk_l29_E : ∀ v, bodyF Try.prog tabFb (ntOf Try.prog 40) [0, 1, 2, 4, 39, 41, 42, 43, 44, 54] [2, 41, 42, 43] [] 2000 [] [] fChk_l29_code 116 (fChk_l29_hd v) = some ((fChk_l29_st v).1, (fChk_l29_st v).2.map fun q => (q.1, q.2.1, fChk_l29_hd q.2.2)) := fun v => by kernel_rfl
set_option maxHeartbeats 2000000 in
theorem fChk_l29_R : ∀ h v, fChk_l29_rd h = some v → h = fChk_l29_hd v := by
  intro h v e
  unfold fChk_l29_rd at e
  split at e
  · simp only [Option.some.injEq] at e; subst e; rfl
  · cases e
set_option maxRecDepth 100000 in
theorem fChk_l29_sok : SumOK Try.prog (ntOf Try.prog 40) [0, 1, 2, 4, 39, 41, 42, 43, 44, 54] (.block (blockOf (subs (bodyOf Try.prog 40) 1 29)) (.loop fChk_l29_code)) fChk_l29_sum := loopS_ok tabFb_ok follows fChk_l29_E fChk_l29_R (fun v => by kernel_rfl) (LOK_of _ _ (LOK_nil'))
def fChk_s0 (w0 : Int) (h0 : Int) (l : List (List Int)) : Bool := bif decide (w0 < (1 : Int)) then true else bif decide ((64 : Int) < w0) then true else bif decide (h0 < (1 : Int)) then true else bif decide ((64 : Int) < h0) then true else Int.ofNat (List.length l) != IntKind.wrap IntKind.i64 (w0 * h0)
def fChk_s1 (l : List (List Int)) : Option (X × fChk_l29_T) := lrun fChk_l29_st (18446744073709551616 : Nat) (fChk_l29_T.mk (0 : Int) (Int.ofNat (List.length l)) (0 : Int) l)
def fChk_0 (w0 : Int) (h0 : Int) (l : List (List Int)) : Int := bif fChk_s0 w0 h0 l then (6 : Int) else bif isX X.r (fChk_s1 l) then fChk_l29_T.a0 (V.valOf (fChk_s1 l)) else (0 : Int)
def fChk_o (w0 : Int) (h0 : Int) (r0 : Bool) (l : List (List Int)) : List Prop := [(!fChk_s0 w0 h0 l) = true → lok fChk_l29_st (18446744073709551616 : Nat) (fChk_l29_T.mk (0 : Int) (Int.ofNat (List.length l)) (0 : Int) l)]
theorem fChk_p (w0 : Int) (h0 : Int) (r0 : Bool) (l : List (List Int)) : evG Try.prog tabFb 2000 40 [0, 1, 2, 4, 39, 41, 42, 43, 44, 54] [(29, fChk_l29_sum)] [] [.g [.int true .i64 w0, .int true .i64 h0, .vec 0 0 6]] [⟨⟨0, 0, r0, some ⟨0, [.int .u8, .int .u8, .int .u8, .int .u8, .int .i64, .int .u8], l, none⟩⟩, []⟩] = some (fChk_o w0 h0 r0 l, LV.a (At.int true IntKind.i64 (fChk_0 w0 h0 l)), [none]) := by kernel_rfl
def fChk_c : Con
  | [.g [.int true .i64 w0, .int true .i64 h0, .vec 0 0 6]], [⟨⟨0, 0, r0, some ⟨0, [.int .u8, .int .u8, .int .u8, .int .u8, .int .i64, .int .u8], l, none⟩⟩, []⟩] => some (fChk_o w0 h0 r0 l, LV.a (At.int true IntKind.i64 (fChk_0 w0 h0 l)), [none])
  | _, _ => none
theorem fChk_ok : ConOK Try.prog 40 (normC fChk_c) := normC_ok (by
  intro args bs obs lv out h ho φ vs w may ha hM
  unfold fChk_c at h
  split at h
  · simp only [Option.some.injEq, Prod.mk.injEq] at h
    obtain ⟨rfl, rfl, rfl⟩ := h
    rename_i w0 h0 r0 l
    exact evG_okL' tabFb_ok follows (LOK_cons (show subs (bodyOf Try.prog 40) 1 29 = [.block (blockOf (subs (bodyOf Try.prog 40) 1 29)) (.loop fChk_l29_code)] from by kernel_rfl) fChk_l29_sok (LOK_nil')) _ _ _ _ _ (fChk_p w0 h0 r0 l) ho φ vs w may ha hM
  · cases h)
theorem fChk_en : Enters Try.prog 40 := fun args => by kernel_rfl
-- 2352 77 8 ms

def tabFd1 : Tab := (38, normC fNew_c) :: (62, normC fAt_c) :: (68, normC fSet_c) :: (105, normC sClone_c) :: (119, normC sEqual_c) :: (40, normC fChk_c) :: tabFb
theorem tabFd1_ok : TOK Try.prog tabFd1 := TOK.cons fNew_en fNew_ok (TOK.cons fAt_en fAt_ok (TOK.cons fSet_en fSet_ok (TOK.cons sClone_en sClone_ok (TOK.cons sEqual_en sEqual_ok (TOK.cons fChk_en fChk_ok (tabFb_ok))))))

end Go.Proofs.Ytcdejlgophpdjaa
end

section
namespace Go.Proofs.Ytcdejlgophpdjaa
open Go Go.RowKit Go.Proofs.Ytcdejlgophpdjaa.V
set_option linter.unusedVariables false

/-! (azulejo/frame.Frame).Clone -/
def fClone_o (w0 : Int) (h0 : Int) (r0 : Bool) (l : List (List Int)) : List Prop := [List.length l ≠ (0 : Nat), List.length (sClone_s0 l) * (24 : Nat) ≤ (70368744177664 : Nat)]
theorem fClone_p (w0 : Int) (h0 : Int) (r0 : Bool) (l : List (List Int)) : evG Try.prog tabFd1 2000 41 [0, 1, 2] [] [] [.g [.int true .i64 w0, .int true .i64 h0, .vec 0 0 6]] [⟨⟨0, 0, r0, some ⟨0, [.int .u8, .int .u8, .int .u8, .int .u8, .int .i64, .int .u8], l, none⟩⟩, []⟩] = some (fClone_o w0 h0 r0 l, LV.g [At.int true IntKind.i64 w0, At.int true IntKind.i64 h0, At.vec (nat_lit 1) (nat_lit 1) (nat_lit 6)], [none, some (BC.mk (Hd.mk (nat_lit 1) (nat_lit 0) false (some (Rw.mk (nat_lit 0) [Kd.int IntKind.u8, Kd.int IntKind.u8, Kd.int IntKind.u8, Kd.int IntKind.u8, Kd.int IntKind.i64, Kd.int IntKind.u8] (sClone_s0 l) none))) [])]) := by kernel_rfl
def fClone_c : Con
  | [.g [.int true .i64 w0, .int true .i64 h0, .vec 0 0 6]], [⟨⟨0, 0, r0, some ⟨0, [.int .u8, .int .u8, .int .u8, .int .u8, .int .i64, .int .u8], l, none⟩⟩, []⟩] => some (fClone_o w0 h0 r0 l, LV.g [At.int true IntKind.i64 w0, At.int true IntKind.i64 h0, At.vec (nat_lit 1) (nat_lit 1) (nat_lit 6)], [none, some (BC.mk (Hd.mk (nat_lit 1) (nat_lit 0) false (some (Rw.mk (nat_lit 0) [Kd.int IntKind.u8, Kd.int IntKind.u8, Kd.int IntKind.u8, Kd.int IntKind.u8, Kd.int IntKind.i64, Kd.int IntKind.u8] (sClone_s0 l) none))) [])])
  | _, _ => none
theorem fClone_ok : ConOK Try.prog 41 (normC fClone_c) := normC_ok (by
  intro args bs obs lv out h ho φ vs w may ha hM
  unfold fClone_c at h
  split at h
  · simp only [Option.some.injEq, Prod.mk.injEq] at h
    obtain ⟨rfl, rfl, rfl⟩ := h
    rename_i w0 h0 r0 l
    exact evG_ok tabFd1_ok follows _ _ _ _ _ (fClone_p w0 h0 r0 l) ho φ vs w may ha hM
  · cases h)
theorem fClone_en : Enters Try.prog 41 := fun args => by kernel_rfl
-- 173 6 0 ms

/-! (azulejo/frame.Frame).Text -/
noncomputable def fText_l31333_code : Go.Code := loopOf (subs (bodyOf Try.prog 42) 1 31333)
structure fText_l31333_T where
  a0 : ByteArray
  a1 : Int
  a2 : Int
  a3 : Int
  a4 : Bool
  a5 : Int
  a6 : Int
  a7 : Int
  a8 : Int
  a9 : List (List Int)
  a10 : List (List Int)
  deriving Inhabited
def fText_l31333_hd (v : fText_l31333_T) : HS := HS.mk [(nat_lit 1, LV.a (At.ptr (nat_lit 0) (nat_lit 0))), (nat_lit 2, LV.a (At.str true (fText_l31333_T.a0 v))), (nat_lit 3, LV.a (At.vec (nat_lit 2) (nat_lit 0) (nat_lit 1))), (nat_lit 4, LV.a (At.int true IntKind.i64 (fText_l31333_T.a1 v))), (nat_lit 12, LV.a (At.int true IntKind.i64 (fText_l31333_T.a2 v))), (nat_lit 13, LV.a (At.int true IntKind.i64 (fText_l31333_T.a3 v))), (nat_lit 14, LV.a (At.bool true (fText_l31333_T.a4 v))), (nat_lit 18, LV.a (At.int true IntKind.i64 (fText_l31333_T.a5 v))), (nat_lit 19, LV.a (At.int true IntKind.i64 (fText_l31333_T.a6 v)))] [BC.mk (Hd.mk (nat_lit 0) (nat_lit 3) true none) [some (At.int true IntKind.i64 (fText_l31333_T.a7 v)), some (At.int true IntKind.i64 (fText_l31333_T.a8 v)), some (At.vec (nat_lit 1) (nat_lit 0) (nat_lit 6))], BC.mk (Hd.mk (nat_lit 0) (nat_lit 0) true (some (Rw.mk (nat_lit 0) [Kd.int IntKind.u8, Kd.int IntKind.u8, Kd.int IntKind.u8, Kd.int IntKind.u8, Kd.int IntKind.i64, Kd.int IntKind.u8] (fText_l31333_T.a9 v) none))) [], BC.mk (Hd.mk (nat_lit 0) (nat_lit 0) false (some (Rw.mk (nat_lit 0) [Kd.int IntKind.u8] (fText_l31333_T.a10 v) none))) []]
def fText_l31333_s0 (v : fText_l31333_T) : Bool := decide (fText_l31333_T.a6 v < fText_l31333_T.a5 v)
def fText_l31333_s1 (v : fText_l31333_T) : Int := IntKind.wrap IntKind.i64 (Int.tdiv (IntKind.wrap IntKind.i64 (IntKind.wrap IntKind.i64 (IntKind.wrap IntKind.i64 (IntKind.wrap IntKind.i64 (fAt_0 (fText_l31333_T.a7 v) (fText_l31333_T.a8 v) (fText_l31333_T.a6 v) (fText_l31333_T.a1 v) (fText_l31333_T.a9 v)) + IntKind.wrap IntKind.i64 (fAt_1 (fText_l31333_T.a7 v) (fText_l31333_T.a8 v) (fText_l31333_T.a6 v) (fText_l31333_T.a1 v) (fText_l31333_T.a9 v))) + IntKind.wrap IntKind.i64 (fAt_2 (fText_l31333_T.a7 v) (fText_l31333_T.a8 v) (fText_l31333_T.a6 v) (fText_l31333_T.a1 v) (fText_l31333_T.a9 v))) * (10 : Int))) (766 : Int))
def fText_l31333_s2 : ByteArray := ByteArray.mk (Array.mk [(32 : UInt8), (46 : UInt8), (58 : UInt8), (45 : UInt8), (61 : UInt8), (43 : UInt8), (42 : UInt8), (35 : UInt8), (37 : UInt8), (64 : UInt8)])
def fText_l31333_s3 (v : fText_l31333_T) : List (List Int) := fText_l31333_T.a10 v ++ [[byteAt fText_l31333_s2 (Int.toNat (fText_l31333_s1 v))]]
def fText_l31333_st (v : fText_l31333_T) : List Prop × List (X × Bool × fText_l31333_T) := ([fText_l31333_s0 v = true → (!fAt_s1 (fText_l31333_T.a7 v) (fText_l31333_T.a8 v) (fText_l31333_T.a6 v) (fText_l31333_T.a1 v) (fText_l31333_T.a9 v)) = true → (0 : Int) ≤ fAt_s0 (fText_l31333_T.a7 v) (fText_l31333_T.a6 v) (fText_l31333_T.a1 v) ∧ fAt_s0 (fText_l31333_T.a7 v) (fText_l31333_T.a6 v) (fText_l31333_T.a1 v) < Int.ofNat (List.length (fText_l31333_T.a9 v)), fText_l31333_s0 v = true → (0 : Int) ≤ fText_l31333_s1 v ∧ fText_l31333_s1 v < Int.ofNat (ByteArray.size fText_l31333_s2), fText_l31333_s0 v = true → List.length (fText_l31333_s3 v) * (1 : Nat) ≤ (70368744177664 : Nat)], [(X.e (2 : Nat), !fText_l31333_s0 v, fText_l31333_T.mk (fText_l31333_T.a0 v) (fText_l31333_T.a1 v) (fText_l31333_T.a2 v) (fText_l31333_T.a3 v) (fText_l31333_T.a4 v) (fText_l31333_T.a5 v) (fText_l31333_T.a6 v) (fText_l31333_T.a7 v) (fText_l31333_T.a8 v) (fText_l31333_T.a9 v) (fText_l31333_T.a10 v)), (X.n, fText_l31333_s0 v, fText_l31333_T.mk (fText_l31333_T.a0 v) (fText_l31333_T.a1 v) (fText_l31333_T.a2 v) (fText_l31333_T.a3 v) (fText_l31333_T.a4 v) (fText_l31333_T.a5 v) (IntKind.wrap IntKind.i64 (fText_l31333_T.a6 v + (1 : Int))) (fText_l31333_T.a7 v) (fText_l31333_T.a8 v) (fText_l31333_T.a9 v) (fText_l31333_s3 v))])
def fText_l31333_rd : HS → Option fText_l31333_T
  | HS.mk [(1, LV.a (At.ptr 0 0)), (2, LV.a (At.str true a0)), (3, LV.a (At.vec 2 0 1)), (4, LV.a (At.int true IntKind.i64 a1)), (12, LV.a (At.int true IntKind.i64 a2)), (13, LV.a (At.int true IntKind.i64 a3)), (14, LV.a (At.bool true a4)), (18, LV.a (At.int true IntKind.i64 a5)), (19, LV.a (At.int true IntKind.i64 a6))] [BC.mk (Hd.mk 0 3 true none) [some (At.int true IntKind.i64 a7), some (At.int true IntKind.i64 a8), some (At.vec 1 0 6)], BC.mk (Hd.mk 0 0 true (some (Rw.mk 0 [Kd.int IntKind.u8, Kd.int IntKind.u8, Kd.int IntKind.u8, Kd.int IntKind.u8, Kd.int IntKind.i64, Kd.int IntKind.u8] a9 none))) [], BC.mk (Hd.mk 0 0 false (some (Rw.mk 0 [Kd.int IntKind.u8] a10 none))) []] => some (fText_l31333_T.mk a0 a1 a2 a3 a4 a5 a6 a7 a8 a9 a10)
  | _ => none
def fText_l31333_sum : V.Sum := loopS fText_l31333_hd fText_l31333_rd fText_l31333_st 18446744073709551616 [X.e (2 : Nat)] [0, 1, 2, 3, 4, 5, 6, 9, 12, 13, 14, 18, 19, 20] [1, 2, 3, 4, 12, 13, 14, 18, 19] [2] [2] [] 2
theorem fText_l31333_E : ∀ v, bodyF Try.prog tabFd1 (ntOf Try.prog 42) [0, 1, 2, 3, 4, 5, 6, 9, 12, 13, 14, 18, 19, 20] [1, 2, 3, 4, 12, 13, 14, 18, 19] [] 2000 [2] [2] fText_l31333_code 125332 (fText_l31333_hd v) = some ((fText_l31333_st v).1, (fText_l31333_st v).2.map fun q => (q.1, q.2.1, fText_l31333_hd q.2.2)) := fun v => by kernel_rfl
set_option maxHeartbeats 2000000 in
theorem fText_l31333_R : ∀ h v, fText_l31333_rd h = some v → h = fText_l31333_hd v := by
  intro h v e
  unfold fText_l31333_rd at e
  split at e
  · simp only [Option.some.injEq] at e; subst e; rfl
  · cases e
set_option maxRecDepth 100000 in
theorem fText_l31333_sok : SumOK Try.prog (ntOf Try.prog 42) [0, 1, 2, 3, 4, 5, 6, 9, 12, 13, 14, 18, 19, 20] (.block (blockOf (subs (bodyOf Try.prog 42) 1 31333)) (.loop fText_l31333_code)) fText_l31333_sum := loopS_ok tabFd1_ok follows fText_l31333_E fText_l31333_R (fun v => by kernel_rfl) (LOK_of _ _ (LOK_nil'))
noncomputable def fText_l61_code : Go.Code := loopOf (subs (bodyOf Try.prog 42) 1 61)
structure fText_l61_T where
  a0 : ByteArray
  a1 : Int
  a2 : Int
  a3 : Int
  a4 : Int
  a5 : List (List Int)
  a6 : List (List Int)
  deriving Inhabited
def fText_l61_hd (v : fText_l61_T) : HS := HS.mk [(nat_lit 1, LV.a (At.ptr (nat_lit 0) (nat_lit 0))), (nat_lit 2, LV.a (At.str true (fText_l61_T.a0 v))), (nat_lit 3, LV.a (At.vec (nat_lit 2) (nat_lit 0) (nat_lit 1))), (nat_lit 12, LV.a (At.int true IntKind.i64 (fText_l61_T.a1 v))), (nat_lit 13, LV.a (At.int true IntKind.i64 (fText_l61_T.a2 v)))] [BC.mk (Hd.mk (nat_lit 0) (nat_lit 3) true none) [some (At.int true IntKind.i64 (fText_l61_T.a3 v)), some (At.int true IntKind.i64 (fText_l61_T.a4 v)), some (At.vec (nat_lit 1) (nat_lit 0) (nat_lit 6))], BC.mk (Hd.mk (nat_lit 0) (nat_lit 0) true (some (Rw.mk (nat_lit 0) [Kd.int IntKind.u8, Kd.int IntKind.u8, Kd.int IntKind.u8, Kd.int IntKind.u8, Kd.int IntKind.i64, Kd.int IntKind.u8] (fText_l61_T.a5 v) none))) [], BC.mk (Hd.mk (nat_lit 0) (nat_lit 0) false (some (Rw.mk (nat_lit 0) [Kd.int IntKind.u8] (fText_l61_T.a6 v) none))) []]
def fText_l61_s0 (v : fText_l61_T) : Bool := decide (fText_l61_T.a2 v < fText_l61_T.a1 v)
def fText_l61_s1 (v : fText_l61_T) : Option (X × fText_l31333_T) := lrun fText_l31333_st (18446744073709551616 : Nat) (fText_l31333_T.mk (fText_l61_T.a0 v) (fText_l61_T.a2 v) (fText_l61_T.a1 v) (fText_l61_T.a2 v) (fText_l61_s0 v) (fText_l61_T.a3 v) (0 : Int) (fText_l61_T.a3 v) (fText_l61_T.a4 v) (fText_l61_T.a5 v) (fText_l61_T.a6 v))
def fText_l61_s2 (v : fText_l61_T) : List (List Int) := fText_l31333_T.a10 (V.valOf (fText_l61_s1 v)) ++ [[(10 : Int)]]
def fText_l61_st (v : fText_l61_T) : List Prop × List (X × Bool × fText_l61_T) := ([fText_l61_s0 v = true → lok fText_l31333_st (18446744073709551616 : Nat) (fText_l31333_T.mk (fText_l61_T.a0 v) (fText_l61_T.a2 v) (fText_l61_T.a1 v) (fText_l61_T.a2 v) (fText_l61_s0 v) (fText_l61_T.a3 v) (0 : Int) (fText_l61_T.a3 v) (fText_l61_T.a4 v) (fText_l61_T.a5 v) (fText_l61_T.a6 v)), fText_l61_s0 v = true → isX (X.e (2 : Nat)) (fText_l61_s1 v) = true → List.length (fText_l61_s2 v) * (1 : Nat) ≤ (70368744177664 : Nat)], [(X.e (0 : Nat), !fText_l61_s0 v, fText_l61_T.mk (fText_l61_T.a0 v) (fText_l61_T.a1 v) (fText_l61_T.a2 v) (fText_l61_T.a3 v) (fText_l61_T.a4 v) (fText_l61_T.a5 v) (fText_l61_T.a6 v)), (X.n, fText_l61_s0 v && isX (X.e (2 : Nat)) (fText_l61_s1 v), fText_l61_T.mk (fText_l31333_T.a0 (V.valOf (fText_l61_s1 v))) (fText_l31333_T.a2 (V.valOf (fText_l61_s1 v))) (IntKind.wrap IntKind.i64 (fText_l31333_T.a3 (V.valOf (fText_l61_s1 v)) + (1 : Int))) (fText_l61_T.a3 v) (fText_l61_T.a4 v) (fText_l61_T.a5 v) (fText_l61_s2 v))])
def fText_l61_rd : HS → Option fText_l61_T
  | HS.mk [(1, LV.a (At.ptr 0 0)), (2, LV.a (At.str true a0)), (3, LV.a (At.vec 2 0 1)), (12, LV.a (At.int true IntKind.i64 a1)), (13, LV.a (At.int true IntKind.i64 a2))] [BC.mk (Hd.mk 0 3 true none) [some (At.int true IntKind.i64 a3), some (At.int true IntKind.i64 a4), some (At.vec 1 0 6)], BC.mk (Hd.mk 0 0 true (some (Rw.mk 0 [Kd.int IntKind.u8, Kd.int IntKind.u8, Kd.int IntKind.u8, Kd.int IntKind.u8, Kd.int IntKind.i64, Kd.int IntKind.u8] a5 none))) [], BC.mk (Hd.mk 0 0 false (some (Rw.mk 0 [Kd.int IntKind.u8] a6 none))) []] => some (fText_l61_T.mk a0 a1 a2 a3 a4 a5 a6)
  | _ => none
def fText_l61_sum : V.Sum := loopS fText_l61_hd fText_l61_rd fText_l61_st 18446744073709551616 [X.e (0 : Nat)] [0, 1, 2, 3, 4, 5, 6, 9, 12, 13, 14, 18, 19, 20] [1, 2, 3, 12, 13] [2] [2] [(3, [.int .u8])] 0
theorem fText_l61_E : ∀ v, bodyF Try.prog tabFd1 (ntOf Try.prog 42) [0, 1, 2, 3, 4, 5, 6, 9, 12, 13, 14, 18, 19, 20] [1, 2, 3, 12, 13] [(31333, fText_l31333_sum)] 2000 [2] [2] fText_l61_code 244 (fText_l61_hd v) = some ((fText_l61_st v).1, (fText_l61_st v).2.map fun q => (q.1, q.2.1, fText_l61_hd q.2.2)) := fun v => by kernel_rfl
set_option maxHeartbeats 2000000 in
theorem fText_l61_R : ∀ h v, fText_l61_rd h = some v → h = fText_l61_hd v := by
  intro h v e
  unfold fText_l61_rd at e
  split at e
  · simp only [Option.some.injEq] at e; subst e; rfl
  · cases e
set_option maxRecDepth 100000 in
theorem fText_l61_sok : SumOK Try.prog (ntOf Try.prog 42) [0, 1, 2, 3, 4, 5, 6, 9, 12, 13, 14, 18, 19, 20] (.block (blockOf (subs (bodyOf Try.prog 42) 1 61)) (.loop fText_l61_code)) fText_l61_sum := loopS_ok tabFd1_ok follows fText_l61_E fText_l61_R (fun v => by kernel_rfl) (LOK_of _ _ (LOK_cons (show subs fText_l61_code 244 31333 = [.block (blockOf (subs (bodyOf Try.prog 42) 1 31333)) (.loop fText_l31333_code)] from by kernel_rfl) fText_l31333_sok (LOK_nil')))
def fText_s0 (w0 : Int) (h0 : Int) (l : List (List Int)) : Bool := fChk_0 w0 h0 l != (0 : Int)
def fText_0 (w0 : Int) (h0 : Int) (l : List (List Int)) : ByteArray := bif fText_s0 w0 h0 l then ByteArray.mk (Array.mk []) else bytesOf (fText_l61_T.a6 (V.valOf (lrun fText_l61_st (18446744073709551616 : Nat) (fText_l61_T.mk (ByteArray.mk (Array.mk [])) h0 (0 : Int) w0 h0 l []))))
def fText_o (w0 : Int) (h0 : Int) (r0 : Bool) (l : List (List Int)) : List Prop := [(!fChk_s0 w0 h0 l) = true → lok fChk_l29_st (18446744073709551616 : Nat) (fChk_l29_T.mk (0 : Int) (Int.ofNat (List.length l)) (0 : Int) l), (!fText_s0 w0 h0 l) = true → lok fText_l61_st (18446744073709551616 : Nat) (fText_l61_T.mk (ByteArray.mk (Array.mk [])) h0 (0 : Int) w0 h0 l [])]
theorem fText_p (w0 : Int) (h0 : Int) (r0 : Bool) (l : List (List Int)) : evG Try.prog tabFd1 2000 42 [0, 1, 2, 3, 4, 5, 6, 9, 12, 13, 14, 18, 19, 20] [(61, fText_l61_sum), (31333, fText_l31333_sum)] [] [.g [.int true .i64 w0, .int true .i64 h0, .vec 0 0 6]] [⟨⟨0, 0, r0, some ⟨0, [.int .u8, .int .u8, .int .u8, .int .u8, .int .i64, .int .u8], l, none⟩⟩, []⟩] = some (fText_o w0 h0 r0 l, LV.a (At.str true (fText_0 w0 h0 l)), [none]) := by kernel_rfl
def fText_c : Con
  | [.g [.int true .i64 w0, .int true .i64 h0, .vec 0 0 6]], [⟨⟨0, 0, r0, some ⟨0, [.int .u8, .int .u8, .int .u8, .int .u8, .int .i64, .int .u8], l, none⟩⟩, []⟩] => some (fText_o w0 h0 r0 l, LV.a (At.str true (fText_0 w0 h0 l)), [none])
  | _, _ => none
theorem fText_ok : ConOK Try.prog 42 (normC fText_c) := normC_ok (by
  intro args bs obs lv out h ho φ vs w may ha hM
  unfold fText_c at h
  split at h
  · simp only [Option.some.injEq, Prod.mk.injEq] at h
    obtain ⟨rfl, rfl, rfl⟩ := h
    rename_i w0 h0 r0 l
    exact evG_okL' tabFd1_ok follows (LOK_cons (show subs (bodyOf Try.prog 42) 1 61 = [.block (blockOf (subs (bodyOf Try.prog 42) 1 61)) (.loop fText_l61_code)] from by kernel_rfl) fText_l61_sok (LOK_cons (show subs (bodyOf Try.prog 42) 1 31333 = [.block (blockOf (subs (bodyOf Try.prog 42) 1 31333)) (.loop fText_l31333_code)] from by kernel_rfl) fText_l31333_sok (LOK_nil'))) _ _ _ _ _ (fText_p w0 h0 r0 l) ho φ vs w may ha hM
  · cases h)
theorem fText_en : Enters Try.prog 42 := fun args => by kernel_rfl
-- 2552 37 6 ms

/-! (azulejo/frame.Frame).Check -/
noncomputable def fChkS_l29_code : Go.Code := loopOf (subs (bodyOf Try.prog 40) 1 29)
structure fChkS_l29_T where
  a0 : Int
  a1 : Nat
  a2 : Nat
  a3 : Int
  a4 : Int
  a5 : List (List Int)
  deriving Inhabited
def fChkS_l29_hd (v : fChkS_l29_T) : HS := HS.mk [(nat_lit 2, LV.a (At.int true IntKind.i64 (fChkS_l29_T.a0 v))), (nat_lit 41, LV.a (At.slc true (nat_lit 0) (nat_lit 0) (nat_lit 0) (nat_lit 6) (fChkS_l29_T.a1 v) (fChkS_l29_T.a2 v))), (nat_lit 42, LV.a (At.int true IntKind.i64 (fChkS_l29_T.a3 v))), (nat_lit 43, LV.a (At.int true IntKind.i64 (fChkS_l29_T.a4 v)))] [BC.mk (Hd.mk (nat_lit 0) (nat_lit 0) true (some (Rw.mk (nat_lit 0) [Kd.int IntKind.u8, Kd.int IntKind.u8, Kd.int IntKind.u8, Kd.int IntKind.u8, Kd.int IntKind.i64, Kd.int IntKind.u8] (fChkS_l29_T.a5 v) none))) []]
def fChkS_l29_s0 (v : fChkS_l29_T) : Bool := decide (fChkS_l29_T.a4 v < fChkS_l29_T.a3 v)
def fChkS_l29_s1 (v : fChkS_l29_T) : Nat := fChkS_l29_T.a1 v + Int.toNat (fChkS_l29_T.a4 v)
def fChkS_l29_s2 (v : fChkS_l29_T) : Int := rget (Rw.l (Rw.mk (nat_lit 0) [Kd.int IntKind.u8, Kd.int IntKind.u8, Kd.int IntKind.u8, Kd.int IntKind.u8, Kd.int IntKind.i64, Kd.int IntKind.u8] (fChkS_l29_T.a5 v) none)) (fChkS_l29_s1 v) ((0 : Nat) + (1 : Nat) + (1 : Nat) + (1 : Nat) + (1 : Nat))
def fChkS_l29_s3 (v : fChkS_l29_T) : Bool := bif decide (rget (fChkS_l29_T.a5 v) (fChkS_l29_s1 v) (4 : Nat) < (0 : Int)) then true else decide ((65535 : Int) < rget (fChkS_l29_T.a5 v) (fChkS_l29_s1 v) (4 : Nat))
def fChkS_l29_st (v : fChkS_l29_T) : List Prop × List (X × Bool × fChkS_l29_T) := ([fChkS_l29_s0 v = true → (0 : Int) ≤ fChkS_l29_T.a4 v ∧ fChkS_l29_T.a4 v < Int.ofNat (fChkS_l29_T.a2 v)], [(X.e (0 : Nat), !fChkS_l29_s0 v, fChkS_l29_T.mk (fChkS_l29_T.a0 v) (fChkS_l29_T.a1 v) (fChkS_l29_T.a2 v) (fChkS_l29_T.a3 v) (fChkS_l29_T.a4 v) (fChkS_l29_T.a5 v)), (X.r, fChkS_l29_s0 v && fChkS_l29_s3 v, fChkS_l29_T.mk ((2 : Int)) (fChkS_l29_T.a1 v) (fChkS_l29_T.a2 v) (fChkS_l29_T.a3 v) (fChkS_l29_T.a4 v) (fChkS_l29_T.a5 v)), (X.n, fChkS_l29_s0 v && !fChkS_l29_s3 v, fChkS_l29_T.mk (fChkS_l29_T.a0 v) (fChkS_l29_T.a1 v) (fChkS_l29_T.a2 v) (fChkS_l29_T.a3 v) (IntKind.wrap IntKind.i64 (fChkS_l29_T.a4 v + (1 : Int))) (fChkS_l29_T.a5 v))])
def fChkS_l29_rd : HS → Option fChkS_l29_T
  | HS.mk [(2, LV.a (At.int true IntKind.i64 a0)), (41, LV.a (At.slc true 0 0 0 6 a1 a2)), (42, LV.a (At.int true IntKind.i64 a3)), (43, LV.a (At.int true IntKind.i64 a4))] [BC.mk (Hd.mk 0 0 true (some (Rw.mk 0 [Kd.int IntKind.u8, Kd.int IntKind.u8, Kd.int IntKind.u8, Kd.int IntKind.u8, Kd.int IntKind.i64, Kd.int IntKind.u8] a5 none))) []] => some (fChkS_l29_T.mk a0 a1 a2 a3 a4 a5)
  | _ => none
def fChkS_l29_sum : V.Sum := loopS fChkS_l29_hd fChkS_l29_rd fChkS_l29_st 18446744073709551616 [X.e (0 : Nat), X.r] [0, 1, 2, 4, 39, 41, 42, 43, 44, 54] [2, 41, 42, 43] [] [] [] 0
theorem fChkS_l29_E : ∀ v, bodyF Try.prog tabFd1 (ntOf Try.prog 40) [0, 1, 2, 4, 39, 41, 42, 43, 44, 54] [2, 41, 42, 43] [] 2000 [] [] fChkS_l29_code 116 (fChkS_l29_hd v) = some ((fChkS_l29_st v).1, (fChkS_l29_st v).2.map fun q => (q.1, q.2.1, fChkS_l29_hd q.2.2)) := fun v => by kernel_rfl
set_option maxHeartbeats 2000000 in
theorem fChkS_l29_R : ∀ h v, fChkS_l29_rd h = some v → h = fChkS_l29_hd v := by
  intro h v e
  unfold fChkS_l29_rd at e
  split at e
  · simp only [Option.some.injEq] at e; subst e; rfl
  · cases e
set_option maxRecDepth 100000 in
theorem fChkS_l29_sok : SumOK Try.prog (ntOf Try.prog 40) [0, 1, 2, 4, 39, 41, 42, 43, 44, 54] (.block (blockOf (subs (bodyOf Try.prog 40) 1 29)) (.loop fChkS_l29_code)) fChkS_l29_sum := loopS_ok tabFd1_ok follows fChkS_l29_E fChkS_l29_R (fun v => by kernel_rfl) (LOK_of _ _ (LOK_nil'))
def fChkS_s0 (w0 : Int) (h0 : Int) (n0 : Nat) : Bool := bif decide (w0 < (1 : Int)) then true else bif decide ((64 : Int) < w0) then true else bif decide (h0 < (1 : Int)) then true else bif decide ((64 : Int) < h0) then true else Int.ofNat n0 != IntKind.wrap IntKind.i64 (w0 * h0)
def fChkS_s1 (o0 : Nat) (n0 : Nat) (l : List (List Int)) : Option (X × fChkS_l29_T) := lrun fChkS_l29_st (18446744073709551616 : Nat) (fChkS_l29_T.mk (0 : Int) o0 n0 (Int.ofNat n0) (0 : Int) l)
def fChkS_0 (w0 : Int) (h0 : Int) (o0 : Nat) (n0 : Nat) (l : List (List Int)) : Int := bif fChkS_s0 w0 h0 n0 then (6 : Int) else bif isX X.r (fChkS_s1 o0 n0 l) then fChkS_l29_T.a0 (V.valOf (fChkS_s1 o0 n0 l)) else (0 : Int)
def fChkS_o (w0 : Int) (h0 : Int) (o0 : Nat) (n0 : Nat) (r0 : Bool) (l : List (List Int)) : List Prop := [(!fChkS_s0 w0 h0 n0) = true → lok fChkS_l29_st (18446744073709551616 : Nat) (fChkS_l29_T.mk (0 : Int) o0 n0 (Int.ofNat n0) (0 : Int) l)]
theorem fChkS_p (w0 : Int) (h0 : Int) (o0 : Nat) (n0 : Nat) (r0 : Bool) (l : List (List Int)) : evG Try.prog tabFd1 2000 40 [0, 1, 2, 4, 39, 41, 42, 43, 44, 54] [(29, fChkS_l29_sum)] [] [.g [.int true .i64 w0, .int true .i64 h0, .slc true 0 0 0 6 o0 n0]] [⟨⟨0, 0, r0, some ⟨0, [.int .u8, .int .u8, .int .u8, .int .u8, .int .i64, .int .u8], l, none⟩⟩, []⟩] = some (fChkS_o w0 h0 o0 n0 r0 l, LV.a (At.int true IntKind.i64 (fChkS_0 w0 h0 o0 n0 l)), [none]) := by kernel_rfl
def fChkS_c : Con
  | [.g [.int true .i64 w0, .int true .i64 h0, .slc true 0 0 0 6 o0 n0]], [⟨⟨0, 0, r0, some ⟨0, [.int .u8, .int .u8, .int .u8, .int .u8, .int .i64, .int .u8], l, none⟩⟩, []⟩] => some (fChkS_o w0 h0 o0 n0 r0 l, LV.a (At.int true IntKind.i64 (fChkS_0 w0 h0 o0 n0 l)), [none])
  | _, _ => none
theorem fChkS_ok : ConOK Try.prog 40 (normC fChkS_c) := normC_ok (by
  intro args bs obs lv out h ho φ vs w may ha hM
  unfold fChkS_c at h
  split at h
  · simp only [Option.some.injEq, Prod.mk.injEq] at h
    obtain ⟨rfl, rfl, rfl⟩ := h
    rename_i w0 h0 o0 n0 r0 l
    exact evG_okL' tabFd1_ok follows (LOK_cons (show subs (bodyOf Try.prog 40) 1 29 = [.block (blockOf (subs (bodyOf Try.prog 40) 1 29)) (.loop fChkS_l29_code)] from by kernel_rfl) fChkS_l29_sok (LOK_nil')) _ _ _ _ _ (fChkS_p w0 h0 o0 n0 r0 l) ho φ vs w may ha hM
  · cases h)
theorem fChkS_en : Enters Try.prog 40 := fun args => by kernel_rfl
-- 2738 82 9 ms

def tabFd2 : Tab := (41, normC fClone_c) :: (42, normC fText_c) :: (40, normC fChkS_c) :: tabFd1
theorem tabFd2_ok : TOK Try.prog tabFd2 := TOK.cons fClone_en fClone_ok (TOK.cons fText_en fText_ok (TOK.cons fChkS_en fChkS_ok (tabFd1_ok)))

end Go.Proofs.Ytcdejlgophpdjaa
end

section
namespace Go.Proofs.Ytcdejlgophpdjaa
open Go Go.RowKit Go.Proofs.Ytcdejlgophpdjaa.V
set_option linter.unusedVariables false

/-! azulejo/azulejolaw20.Awake -/
def fAwake_s0 : List (List Int) := fNew_0 (2 : Int) (1 : Int) (0 : Int) (0 : Int) (0 : Int) (0 : Int) (0 : Int) (0 : Int)
def fAwake_s1 : Bool := ByteArray.toList (fText_0 (fNew_s2 (2 : Int)) (fNew_s5 (1 : Int)) fAwake_s0) == ByteArray.toList (ByteArray.mk (Array.mk [(32 : UInt8), (32 : UInt8), (10 : UInt8)]))
def fAwake_0 : Bool := bif fAwake_s1 then fChk_0 (fNew_s2 (2 : Int)) (fNew_s5 (1 : Int)) fAwake_s0 == (0 : Int) else false
def fAwake_s2 : Int := bMul64_0 (IntKind.wrap IntKind.u64 (Int.ofNat (1 : Nat))) (IntKind.wrap IntKind.u64 (fNew_s6 (2 : Int) (1 : Int)))
def fAwake_s3 : Int := sRep_s1 (fNew_s6 (2 : Int) (1 : Int))
def fAwake_s4 : List (List Int) := sRep_s2 (fNew_s6 (2 : Int) (1 : Int))
def fAwake_o  : List Prop := [decide (fNew_s6 (2 : Int) (1 : Int) < (0 : Int)) = false, (bif decide ((0 : Int) < fAwake_s2) then true else decide ((9223372036854775807 : Int) < fAwake_s3)) = false, (0 : Int) ≤ IntKind.wrap IntKind.i64 fAwake_s3 ∧ IntKind.wrap IntKind.i64 fAwake_s3 = IntKind.wrap IntKind.i64 fAwake_s3 ∧ IntKind.wrap IntKind.i64 fAwake_s3 * Int.ofNat (24 : Nat) ≤ (70368744177664 : Int), lok sRep_l254_st (18446744073709551616 : Nat) (sRep_l254_T.mk (Int.ofNat (sRep_s3 (fNew_s6 (2 : Int) (1 : Int)) (0 : Int) (0 : Int) (0 : Int) (0 : Int) (0 : Int) (0 : Int))) (List.take (0 : Nat) fAwake_s4 ++ List.take (2 : Nat) (sRep_s0 (0 : Int) (0 : Int) (0 : Int) (0 : Int) (0 : Int) (0 : Int)) ++ List.drop (1 : Nat) fAwake_s4)), (!fChk_s0 (fNew_s2 (2 : Int)) (fNew_s5 (1 : Int)) fAwake_s0) = true → lok fChk_l29_st (18446744073709551616 : Nat) (fChk_l29_T.mk (0 : Int) (Int.ofNat (2 : Nat)) (0 : Int) fAwake_s0), (!fText_s0 (fNew_s2 (2 : Int)) (fNew_s5 (1 : Int)) fAwake_s0) = true → lok fText_l61_st (18446744073709551616 : Nat) (fText_l61_T.mk (ByteArray.mk (Array.mk [])) (fNew_s5 (1 : Int)) (0 : Int) (fNew_s2 (2 : Int)) (fNew_s5 (1 : Int)) fAwake_s0 []), fAwake_s1 = true → (!fChk_s0 (fNew_s2 (2 : Int)) (fNew_s5 (1 : Int)) fAwake_s0) = true → lok fChk_l29_st (18446744073709551616 : Nat) (fChk_l29_T.mk (0 : Int) (Int.ofNat (2 : Nat)) (0 : Int) fAwake_s0)]
theorem fAwake_p  : evG Try.prog tabFd2 2000 37 [0, 1] [] [] [] [] = some (fAwake_o , LV.a (At.bool true fAwake_0), []) := by kernel_rfl
def fAwake_c : Con
  | [], [] => some (fAwake_o , LV.a (At.bool true fAwake_0), [])
  | _, _ => none
theorem fAwake_ok : ConOK Try.prog 37 (normC fAwake_c) := normC_ok (by
  intro args bs obs lv out h ho φ vs w may ha hM
  unfold fAwake_c at h
  split at h
  · simp only [Option.some.injEq, Prod.mk.injEq] at h
    obtain ⟨rfl, rfl, rfl⟩ := h
    exact evG_ok tabFd2_ok follows _ _ _ _ _ (fAwake_p ) ho φ vs w may ha hM
  · cases h)
theorem fAwake_en : Enters Try.prog 37 := fun args => by kernel_rfl
-- 162 11 8 ms

def tabFd3 : Tab := (37, normC fAwake_c) :: tabFd2
theorem tabFd3_ok : TOK Try.prog tabFd3 := TOK.cons fAwake_en fAwake_ok (tabFd2_ok)

end Go.Proofs.Ytcdejlgophpdjaa
end

section
namespace Go.Proofs.Ytcdejlgophpdjaa
open Go Go.RowKit Go.Proofs.Ytcdejlgophpdjaa.V
set_option linter.unusedVariables false

/-! azulejo/azulejolaw20.FrameNew -/
noncomputable def lFrNew_l253_code : Go.Code := loopOf (subs (bodyOf Try.prog 4) 1 253)
structure lFrNew_l253_T where
  a0 : Int
  a1 : Int
  a2 : Bool
  a3 : Int
  a4 : Int
  a5 : Int
  a6 : Int
  a7 : Int
  a8 : Int
  a9 : Int
  a10 : Int
  a11 : Int
  a12 : Int
  a13 : List (List Int)
  deriving Inhabited
def lFrNew_l253_hd (v : lFrNew_l253_T) : HS := HS.mk [(nat_lit 3, LV.a (At.int true IntKind.i64 (lFrNew_l253_T.a0 v))), (nat_lit 4, LV.a (At.int true IntKind.u8 (lFrNew_l253_T.a1 v))), (nat_lit 7, LV.a (At.ptr (nat_lit 0) (nat_lit 0))), (nat_lit 10, LV.a (At.bool true (lFrNew_l253_T.a2 v))), (nat_lit 11, LV.a (At.ptr (nat_lit 1) (nat_lit 0))), (nat_lit 60, LV.a (At.vec (nat_lit 2) (nat_lit 0) (nat_lit 6))), (nat_lit 61, LV.a (At.int true IntKind.i64 (lFrNew_l253_T.a3 v))), (nat_lit 62, LV.a (At.int true IntKind.i64 (lFrNew_l253_T.a4 v)))] [BC.mk (Hd.mk (nat_lit 0) (nat_lit 6) true none) [some (At.int true IntKind.u8 (lFrNew_l253_T.a5 v)), some (At.int true IntKind.u8 (lFrNew_l253_T.a6 v)), some (At.int true IntKind.u8 (lFrNew_l253_T.a7 v)), some (At.int true IntKind.u8 (lFrNew_l253_T.a8 v)), some (At.int true IntKind.u16 (lFrNew_l253_T.a9 v)), some (At.int true IntKind.u8 (lFrNew_l253_T.a10 v))], BC.mk (Hd.mk (nat_lit 0) (nat_lit 3) true none) [some (At.int true IntKind.i64 (lFrNew_l253_T.a11 v)), some (At.int true IntKind.i64 (lFrNew_l253_T.a12 v)), some (At.vec (nat_lit 2) (nat_lit 0) (nat_lit 6))], BC.mk (Hd.mk (nat_lit 0) (nat_lit 0) true (some (Rw.mk (nat_lit 0) [Kd.int IntKind.u8, Kd.int IntKind.u8, Kd.int IntKind.u8, Kd.int IntKind.u8, Kd.int IntKind.i64, Kd.int IntKind.u8] (lFrNew_l253_T.a13 v) none))) []]
def lFrNew_l253_s0 (v : lFrNew_l253_T) : Bool := decide (lFrNew_l253_T.a4 v < lFrNew_l253_T.a3 v)
def lFrNew_l253_s1 (v : lFrNew_l253_T) : Bool := !(rget (lFrNew_l253_T.a13 v) (Int.toNat (lFrNew_l253_T.a4 v)) (0 : Nat) == lFrNew_l253_T.a5 v && (rget (lFrNew_l253_T.a13 v) (Int.toNat (lFrNew_l253_T.a4 v)) (1 : Nat) == lFrNew_l253_T.a6 v && (rget (lFrNew_l253_T.a13 v) (Int.toNat (lFrNew_l253_T.a4 v)) (2 : Nat) == lFrNew_l253_T.a7 v && rget (lFrNew_l253_T.a13 v) (Int.toNat (lFrNew_l253_T.a4 v)) (3 : Nat) == lFrNew_l253_T.a8 v)) && (rget (lFrNew_l253_T.a13 v) (Int.toNat (lFrNew_l253_T.a4 v)) (4 : Nat) == IntKind.wrap IntKind.i64 (lFrNew_l253_T.a9 v) && rget (lFrNew_l253_T.a13 v) (Int.toNat (lFrNew_l253_T.a4 v)) (5 : Nat) == lFrNew_l253_T.a10 v))
def lFrNew_l253_st (v : lFrNew_l253_T) : List Prop × List (X × Bool × lFrNew_l253_T) := ([lFrNew_l253_s0 v = true → (0 : Int) ≤ lFrNew_l253_T.a4 v ∧ lFrNew_l253_T.a4 v < Int.ofNat (List.length (lFrNew_l253_T.a13 v))], [(X.e (0 : Nat), !lFrNew_l253_s0 v, lFrNew_l253_T.mk (lFrNew_l253_T.a0 v) (lFrNew_l253_T.a1 v) (lFrNew_l253_T.a2 v) (lFrNew_l253_T.a3 v) (lFrNew_l253_T.a4 v) (lFrNew_l253_T.a5 v) (lFrNew_l253_T.a6 v) (lFrNew_l253_T.a7 v) (lFrNew_l253_T.a8 v) (lFrNew_l253_T.a9 v) (lFrNew_l253_T.a10 v) (lFrNew_l253_T.a11 v) (lFrNew_l253_T.a12 v) (lFrNew_l253_T.a13 v)), (X.r, lFrNew_l253_s0 v && lFrNew_l253_s1 v, lFrNew_l253_T.mk (lFrNew_l253_T.a0 v) (lFrNew_l253_T.a1 v) (false) (lFrNew_l253_T.a3 v) (lFrNew_l253_T.a4 v) (lFrNew_l253_T.a5 v) (lFrNew_l253_T.a6 v) (lFrNew_l253_T.a7 v) (lFrNew_l253_T.a8 v) (lFrNew_l253_T.a9 v) (lFrNew_l253_T.a10 v) (lFrNew_l253_T.a11 v) (lFrNew_l253_T.a12 v) (lFrNew_l253_T.a13 v)), (X.n, lFrNew_l253_s0 v && !lFrNew_l253_s1 v, lFrNew_l253_T.mk (lFrNew_l253_T.a0 v) (lFrNew_l253_T.a1 v) (lFrNew_l253_T.a2 v) (lFrNew_l253_T.a3 v) (IntKind.wrap IntKind.i64 (lFrNew_l253_T.a4 v + (1 : Int))) (lFrNew_l253_T.a5 v) (lFrNew_l253_T.a6 v) (lFrNew_l253_T.a7 v) (lFrNew_l253_T.a8 v) (lFrNew_l253_T.a9 v) (lFrNew_l253_T.a10 v) (lFrNew_l253_T.a11 v) (lFrNew_l253_T.a12 v) (lFrNew_l253_T.a13 v))])
def lFrNew_l253_rd : HS → Option lFrNew_l253_T
  | HS.mk [(3, LV.a (At.int true IntKind.i64 a0)), (4, LV.a (At.int true IntKind.u8 a1)), (7, LV.a (At.ptr 0 0)), (10, LV.a (At.bool true a2)), (11, LV.a (At.ptr 1 0)), (60, LV.a (At.vec 2 0 6)), (61, LV.a (At.int true IntKind.i64 a3)), (62, LV.a (At.int true IntKind.i64 a4))] [BC.mk (Hd.mk 0 6 true none) [some (At.int true IntKind.u8 a5), some (At.int true IntKind.u8 a6), some (At.int true IntKind.u8 a7), some (At.int true IntKind.u8 a8), some (At.int true IntKind.u16 a9), some (At.int true IntKind.u8 a10)], BC.mk (Hd.mk 0 3 true none) [some (At.int true IntKind.i64 a11), some (At.int true IntKind.i64 a12), some (At.vec 2 0 6)], BC.mk (Hd.mk 0 0 true (some (Rw.mk 0 [Kd.int IntKind.u8, Kd.int IntKind.u8, Kd.int IntKind.u8, Kd.int IntKind.u8, Kd.int IntKind.i64, Kd.int IntKind.u8] a13 none))) []] => some (lFrNew_l253_T.mk a0 a1 a2 a3 a4 a5 a6 a7 a8 a9 a10 a11 a12 a13)
  | _ => none
def lFrNew_l253_sum : V.Sum := loopS lFrNew_l253_hd lFrNew_l253_rd lFrNew_l253_st 18446744073709551616 [X.e (0 : Nat), X.r] [0, 1, 2, 3, 4, 7, 10, 11, 12, 13, 15, 16, 17, 18, 19, 21, 58, 60, 61, 62, 63, 69, 89] [3, 4, 7, 10, 11, 60, 61, 62] [] [] [] 0
theorem lFrNew_l253_E : ∀ v, bodyF Try.prog tabFd3 (ntOf Try.prog 4) [0, 1, 2, 3, 4, 7, 10, 11, 12, 13, 15, 16, 17, 18, 19, 21, 58, 60, 61, 62, 63, 69, 89] [3, 4, 7, 10, 11, 60, 61, 62] [] 2000 [] [] lFrNew_l253_code 1012 (lFrNew_l253_hd v) = some ((lFrNew_l253_st v).1, (lFrNew_l253_st v).2.map fun q => (q.1, q.2.1, lFrNew_l253_hd q.2.2)) := fun v => by kernel_rfl
set_option maxHeartbeats 2000000 in
theorem lFrNew_l253_R : ∀ h v, lFrNew_l253_rd h = some v → h = lFrNew_l253_hd v := by
  intro h v e
  unfold lFrNew_l253_rd at e
  split at e
  · simp only [Option.some.injEq] at e; subst e; rfl
  · cases e
set_option maxRecDepth 100000 in
theorem lFrNew_l253_sok : SumOK Try.prog (ntOf Try.prog 4) [0, 1, 2, 3, 4, 7, 10, 11, 12, 13, 15, 16, 17, 18, 19, 21, 58, 60, 61, 62, 63, 69, 89] (.block (blockOf (subs (bodyOf Try.prog 4) 1 253)) (.loop lFrNew_l253_code)) lFrNew_l253_sum := loopS_ok tabFd3_ok follows lFrNew_l253_E lFrNew_l253_R (fun v => by kernel_rfl) (LOK_of _ _ (LOK_nil'))
def lFrNew_s0 (x0 : Int) : Int := if x0 < (1 : Int) then (1 : Int) else x0
def lFrNew_s1 (x0 : Int) : Int := if (64 : Int) < lFrNew_s0 x0 then (64 : Int) else lFrNew_s0 x0
def lFrNew_s2 (x1 : Int) : Int := if x1 < (1 : Int) then (1 : Int) else x1
def lFrNew_s3 (x1 : Int) : Int := if (64 : Int) < lFrNew_s2 x1 then (64 : Int) else lFrNew_s2 x1
def lFrNew_s4 (x0 : Int) (x1 : Int) (x2_0 : Int) (x2_1 : Int) (x2_2 : Int) (x2_3 : Int) (x2_4 : Int) (x2_5 : Int) : Nat := List.length (fNew_0 x0 x1 x2_0 x2_1 x2_2 x2_3 (IntKind.wrap IntKind.i64 x2_4) x2_5)
def lFrNew_s5 (x0 : Int) (x1 : Int) (x2_0 : Int) (x2_1 : Int) (x2_2 : Int) (x2_3 : Int) (x2_4 : Int) (x2_5 : Int) : Bool := Int.ofNat (lFrNew_s4 x0 x1 x2_0 x2_1 x2_2 x2_3 x2_4 x2_5) != IntKind.wrap IntKind.i64 (lFrNew_s1 x0 * lFrNew_s3 x1)
def lFrNew_s6 (x0 : Int) (x1 : Int) (x2_0 : Int) (x2_1 : Int) (x2_2 : Int) (x2_3 : Int) (x2_4 : Int) (x2_5 : Int) : Bool := bif fNew_s2 x0 != lFrNew_s1 x0 then true else bif fNew_s5 x1 != lFrNew_s3 x1 then true else bif lFrNew_s5 x0 x1 x2_0 x2_1 x2_2 x2_3 x2_4 x2_5 then true else fChk_0 (fNew_s2 x0) (fNew_s5 x1) (fNew_0 x0 x1 x2_0 x2_1 x2_2 x2_3 (IntKind.wrap IntKind.i64 x2_4) x2_5) != (0 : Int)
def lFrNew_s7 (x0 : Int) (x1 : Int) (x2_0 : Int) (x2_1 : Int) (x2_2 : Int) (x2_3 : Int) (x2_4 : Int) (x2_5 : Int) (x3 : Int) (x4 : Int) : Option (X × lFrNew_l253_T) := lrun lFrNew_l253_st (18446744073709551616 : Nat) (lFrNew_l253_T.mk x3 x4 false (Int.ofNat (lFrNew_s4 x0 x1 x2_0 x2_1 x2_2 x2_3 x2_4 x2_5)) (0 : Int) x2_0 x2_1 x2_2 x2_3 x2_4 x2_5 (fNew_s2 x0) (fNew_s5 x1) (fNew_0 x0 x1 x2_0 x2_1 x2_2 x2_3 (IntKind.wrap IntKind.i64 x2_4) x2_5))
def lFrNew_s8 (x0 : Int) (x1 : Int) (x2_0 : Int) (x2_1 : Int) (x2_2 : Int) (x2_3 : Int) (x2_4 : Int) (x2_5 : Int) : List (List Int) := sClone_s0 (fNew_0 x0 x1 x2_0 x2_1 x2_2 x2_3 (IntKind.wrap IntKind.i64 x2_4) x2_5)
def lFrNew_s9 (x0 : Int) (x1 : Int) (x2_0 : Int) (x2_1 : Int) (x2_2 : Int) (x2_3 : Int) (x2_4 : Int) (x2_5 : Int) : Nat := List.length (lFrNew_s8 x0 x1 x2_0 x2_1 x2_2 x2_3 x2_4 x2_5)
def lFrNew_s10 (x0 : Int) (x1 : Int) (x2_0 : Int) (x2_1 : Int) (x2_2 : Int) (x2_3 : Int) (x2_4 : Int) (x2_5 : Int) (x3 : Int) (x4 : Int) : Int := Int.tmod (IntKind.wrap IntKind.i64 (lFrNew_l253_T.a1 (V.valOf (lFrNew_s7 x0 x1 x2_0 x2_1 x2_2 x2_3 x2_4 x2_5 x3 x4)))) (Int.ofNat (lFrNew_s9 x0 x1 x2_0 x2_1 x2_2 x2_3 x2_4 x2_5))
def lFrNew_s11 (x0 : Int) (x1 : Int) (x2_0 : Int) (x2_1 : Int) (x2_2 : Int) (x2_3 : Int) (x2_4 : Int) (x2_5 : Int) (x3 : Int) (x4 : Int) : Int := lFrNew_l253_T.a0 (V.valOf (lFrNew_s7 x0 x1 x2_0 x2_1 x2_2 x2_3 x2_4 x2_5 x3 x4))
def lFrNew_s12 (x0 : Int) (x1 : Int) (x2_0 : Int) (x2_1 : Int) (x2_2 : Int) (x2_3 : Int) (x2_4 : Int) (x2_5 : Int) (x3 : Int) (x4 : Int) : List (List Int) := rset (lFrNew_s8 x0 x1 x2_0 x2_1 x2_2 x2_3 x2_4 x2_5) (Int.toNat (lFrNew_s10 x0 x1 x2_0 x2_1 x2_2 x2_3 x2_4 x2_5 x3 x4)) (4 : Nat) [lFrNew_s11 x0 x1 x2_0 x2_1 x2_2 x2_3 x2_4 x2_5 x3 x4]
def lFrNew_s13 (x0 : Int) (x1 : Int) (x2_0 : Int) (x2_1 : Int) (x2_2 : Int) (x2_3 : Int) (x2_4 : Int) (x2_5 : Int) (x3 : Int) (x4 : Int) : Int := lFrNew_l253_T.a0 (V.valOf (lrun lFrNew_l253_st (18446744073709551616 : Nat) (lFrNew_l253_T.mk x3 x4 false ↑(List.length (Rw.l (Rw.mk (nat_lit 0) [Kd.int IntKind.u8, Kd.int IntKind.u8, Kd.int IntKind.u8, Kd.int IntKind.u8, Kd.int IntKind.i64, Kd.int IntKind.u8] (fNew_0 x0 x1 x2_0 x2_1 x2_2 x2_3 (IntKind.wrap IntKind.i64 x2_4) x2_5) none))) (0 : Int) x2_0 x2_1 x2_2 x2_3 x2_4 x2_5 (fNew_s2 x0) (fNew_s5 x1) (fNew_0 x0 x1 x2_0 x2_1 x2_2 x2_3 (IntKind.wrap IntKind.i64 x2_4) x2_5))))
def lFrNew_s14 (x0 : Int) (x1 : Int) (x2_0 : Int) (x2_1 : Int) (x2_2 : Int) (x2_3 : Int) (x2_4 : Int) (x2_5 : Int) (x3 : Int) (x4 : Int) : Int := bif bif decide (lFrNew_s11 x0 x1 x2_0 x2_1 x2_2 x2_3 x2_4 x2_5 x3 x4 < (0 : Int)) then true else decide ((65535 : Int) < lFrNew_s11 x0 x1 x2_0 x2_1 x2_2 x2_3 x2_4 x2_5 x3 x4) then (2 : Int) else (0 : Int)
def lFrNew_s15 (x0 : Int) (x1 : Int) (x2_0 : Int) (x2_1 : Int) (x2_2 : Int) (x2_3 : Int) (x2_4 : Int) (x2_5 : Int) (x3 : Int) (x4 : Int) : Bool := fChk_0 (fNew_s2 x0) (fNew_s5 x1) (lFrNew_s12 x0 x1 x2_0 x2_1 x2_2 x2_3 x2_4 x2_5 x3 x4) == lFrNew_s14 x0 x1 x2_0 x2_1 x2_2 x2_3 x2_4 x2_5 x3 x4
def lFrNew_s16 (x0 : Int) (x1 : Int) (x2_0 : Int) (x2_1 : Int) (x2_2 : Int) (x2_3 : Int) (x2_4 : Int) (x2_5 : Int) : Nat := Int.toNat (Int.ofNat (lFrNew_s9 x0 x1 x2_0 x2_1 x2_2 x2_3 x2_4 x2_5)) - Int.toNat (1 : Int)
def lFrNew_s17 (x0 : Int) (x1 : Int) (x2_0 : Int) (x2_1 : Int) (x2_2 : Int) (x2_3 : Int) (x2_4 : Int) (x2_5 : Int) : Bool := fChkS_0 (fNew_s2 x0) (fNew_s5 x1) (Int.toNat (1 : Int)) (lFrNew_s16 x0 x1 x2_0 x2_1 x2_2 x2_3 x2_4 x2_5) (lFrNew_s8 x0 x1 x2_0 x2_1 x2_2 x2_3 x2_4 x2_5) == (6 : Int)
def lFrNew_s18 (x0 : Int) (x1 : Int) (x2_0 : Int) (x2_1 : Int) (x2_2 : Int) (x2_3 : Int) (x2_4 : Int) (x2_5 : Int) : Bool := fChk_0 (65 : Int) (fNew_s5 x1) (lFrNew_s8 x0 x1 x2_0 x2_1 x2_2 x2_3 x2_4 x2_5) == (6 : Int)
def lFrNew_s19 (x0 : Int) (x1 : Int) (x2_0 : Int) (x2_1 : Int) (x2_2 : Int) (x2_3 : Int) (x2_4 : Int) (x2_5 : Int) : Bool := ByteArray.toList (fText_0 (65 : Int) (fNew_s5 x1) (lFrNew_s8 x0 x1 x2_0 x2_1 x2_2 x2_3 x2_4 x2_5)) == ByteArray.toList (ByteArray.mk (Array.mk []))
def lFrNew_s20 (x0 : Int) (x1 : Int) (x2_0 : Int) (x2_1 : Int) (x2_2 : Int) (x2_3 : Int) (x2_4 : Int) (x2_5 : Int) (x3 : Int) (x4 : Int) : Bool := lFrNew_s14 x0 x1 x2_0 x2_1 x2_2 x2_3 x2_4 x2_5 x3 x4 == (0 : Int)
def lFrNew_0 (x0 : Int) (x1 : Int) (x2_0 : Int) (x2_1 : Int) (x2_2 : Int) (x2_3 : Int) (x2_4 : Int) (x2_5 : Int) (x3 : Int) (x4 : Int) : Bool := bif !fAwake_0 then false else bif lFrNew_s6 x0 x1 x2_0 x2_1 x2_2 x2_3 x2_4 x2_5 then false else bif isX X.r (lFrNew_s7 x0 x1 x2_0 x2_1 x2_2 x2_3 x2_4 x2_5 x3 x4) then lFrNew_l253_T.a2 (V.valOf (lFrNew_s7 x0 x1 x2_0 x2_1 x2_2 x2_3 x2_4 x2_5 x3 x4)) else bif lFrNew_s15 x0 x1 x2_0 x2_1 x2_2 x2_3 x2_4 x2_5 x3 x4 then bif lFrNew_s17 x0 x1 x2_0 x2_1 x2_2 x2_3 x2_4 x2_5 then bif lFrNew_s18 x0 x1 x2_0 x2_1 x2_2 x2_3 x2_4 x2_5 then bif lFrNew_s19 x0 x1 x2_0 x2_1 x2_2 x2_3 x2_4 x2_5 then bif lFrNew_s20 x0 x1 x2_0 x2_1 x2_2 x2_3 x2_4 x2_5 x3 x4 then true else ByteArray.toList (fText_0 (fNew_s2 x0) (fNew_s5 x1) (lFrNew_s12 x0 x1 x2_0 x2_1 x2_2 x2_3 x2_4 x2_5 x3 x4)) == ByteArray.toList (ByteArray.mk (Array.mk [])) else false else false else false else false
def lFrNew_s21 (x0 : Int) (x1 : Int) : Int := bMul64_0 (IntKind.wrap IntKind.u64 (Int.ofNat (1 : Nat))) (IntKind.wrap IntKind.u64 (fNew_s6 x0 x1))
def lFrNew_s22 (x0 : Int) (x1 : Int) (x2_0 : Int) (x2_1 : Int) (x2_2 : Int) (x2_3 : Int) (x2_4 : Int) (x2_5 : Int) : Nat := sRep_s3 (fNew_s6 x0 x1) x2_0 x2_1 x2_2 x2_3 (IntKind.wrap IntKind.i64 x2_4) x2_5
def lFrNew_o (x0 : Int) (x1 : Int) (x2_0 : Int) (x2_1 : Int) (x2_2 : Int) (x2_3 : Int) (x2_4 : Int) (x2_5 : Int) (x3 : Int) (x4 : Int) : List Prop := [decide (fNew_s6 (2 : Int) (1 : Int) < (0 : Int)) = false, (bif decide ((0 : Int) < fAwake_s2) then true else decide ((9223372036854775807 : Int) < fAwake_s3)) = false, (0 : Int) ≤ IntKind.wrap IntKind.i64 fAwake_s3 ∧ IntKind.wrap IntKind.i64 fAwake_s3 = IntKind.wrap IntKind.i64 fAwake_s3 ∧ IntKind.wrap IntKind.i64 fAwake_s3 * Int.ofNat (24 : Nat) ≤ (70368744177664 : Int), lok sRep_l254_st (18446744073709551616 : Nat) (sRep_l254_T.mk (Int.ofNat (sRep_s3 (fNew_s6 (2 : Int) (1 : Int)) (0 : Int) (0 : Int) (0 : Int) (0 : Int) (0 : Int) (0 : Int))) (List.take (0 : Nat) fAwake_s4 ++ List.take (2 : Nat) (sRep_s0 (0 : Int) (0 : Int) (0 : Int) (0 : Int) (0 : Int) (0 : Int)) ++ List.drop (1 : Nat) fAwake_s4)), (!fChk_s0 (fNew_s2 (2 : Int)) (fNew_s5 (1 : Int)) fAwake_s0) = true → lok fChk_l29_st (18446744073709551616 : Nat) (fChk_l29_T.mk (0 : Int) (Int.ofNat (2 : Nat)) (0 : Int) fAwake_s0), (!fText_s0 (fNew_s2 (2 : Int)) (fNew_s5 (1 : Int)) fAwake_s0) = true → lok fText_l61_st (18446744073709551616 : Nat) (fText_l61_T.mk (ByteArray.mk (Array.mk [])) (fNew_s5 (1 : Int)) (0 : Int) (fNew_s2 (2 : Int)) (fNew_s5 (1 : Int)) fAwake_s0 []), fAwake_s1 = true → (!fChk_s0 (fNew_s2 (2 : Int)) (fNew_s5 (1 : Int)) fAwake_s0) = true → lok fChk_l29_st (18446744073709551616 : Nat) (fChk_l29_T.mk (0 : Int) (Int.ofNat (2 : Nat)) (0 : Int) fAwake_s0), (!!fAwake_0) = true → decide (fNew_s6 x0 x1 < (0 : Int)) = false, (!!fAwake_0) = true → (bif decide ((0 : Int) < lFrNew_s21 x0 x1) then true else decide ((9223372036854775807 : Int) < sRep_s1 (fNew_s6 x0 x1))) = false, (!!fAwake_0) = true → (0 : Int) ≤ IntKind.wrap IntKind.i64 (sRep_s1 (fNew_s6 x0 x1)) ∧ IntKind.wrap IntKind.i64 (sRep_s1 (fNew_s6 x0 x1)) = IntKind.wrap IntKind.i64 (sRep_s1 (fNew_s6 x0 x1)) ∧ IntKind.wrap IntKind.i64 (sRep_s1 (fNew_s6 x0 x1)) * Int.ofNat (24 : Nat) ≤ (70368744177664 : Int), (!!fAwake_0) = true → lok sRep_l254_st (18446744073709551616 : Nat) (sRep_l254_T.mk (Int.ofNat (lFrNew_s22 x0 x1 x2_0 x2_1 x2_2 x2_3 x2_4 x2_5)) (List.take (0 : Nat) (sRep_s2 (fNew_s6 x0 x1)) ++ List.take (List.length (sRep_s2 (fNew_s6 x0 x1))) (sRep_s0 x2_0 x2_1 x2_2 x2_3 (IntKind.wrap IntKind.i64 x2_4) x2_5) ++ List.drop ((0 : Nat) + lFrNew_s22 x0 x1 x2_0 x2_1 x2_2 x2_3 x2_4 x2_5) (sRep_s2 (fNew_s6 x0 x1)))), (!!fAwake_0) = true → (fNew_s2 x0 != lFrNew_s1 x0) = false → (fNew_s5 x1 != lFrNew_s3 x1) = false → lFrNew_s5 x0 x1 x2_0 x2_1 x2_2 x2_3 x2_4 x2_5 = false → (!fChk_s0 (fNew_s2 x0) (fNew_s5 x1) (fNew_0 x0 x1 x2_0 x2_1 x2_2 x2_3 (IntKind.wrap IntKind.i64 x2_4) x2_5)) = true → lok fChk_l29_st (18446744073709551616 : Nat) (fChk_l29_T.mk (0 : Int) (Int.ofNat (lFrNew_s4 x0 x1 x2_0 x2_1 x2_2 x2_3 x2_4 x2_5)) (0 : Int) (fNew_0 x0 x1 x2_0 x2_1 x2_2 x2_3 (IntKind.wrap IntKind.i64 x2_4) x2_5)), (!!fAwake_0) = true → (!lFrNew_s6 x0 x1 x2_0 x2_1 x2_2 x2_3 x2_4 x2_5) = true → lok lFrNew_l253_st (18446744073709551616 : Nat) (lFrNew_l253_T.mk x3 x4 false (Int.ofNat (lFrNew_s4 x0 x1 x2_0 x2_1 x2_2 x2_3 x2_4 x2_5)) (0 : Int) x2_0 x2_1 x2_2 x2_3 x2_4 x2_5 (fNew_s2 x0) (fNew_s5 x1) (fNew_0 x0 x1 x2_0 x2_1 x2_2 x2_3 (IntKind.wrap IntKind.i64 x2_4) x2_5)), (!!fAwake_0) = true → (!lFrNew_s6 x0 x1 x2_0 x2_1 x2_2 x2_3 x2_4 x2_5) = true → isX (X.e (0 : Nat)) (lFrNew_s7 x0 x1 x2_0 x2_1 x2_2 x2_3 x2_4 x2_5 x3 x4) = true → lFrNew_s4 x0 x1 x2_0 x2_1 x2_2 x2_3 x2_4 x2_5 ≠ (0 : Nat), (!!fAwake_0) = true → (!lFrNew_s6 x0 x1 x2_0 x2_1 x2_2 x2_3 x2_4 x2_5) = true → isX (X.e (0 : Nat)) (lFrNew_s7 x0 x1 x2_0 x2_1 x2_2 x2_3 x2_4 x2_5 x3 x4) = true → lFrNew_s9 x0 x1 x2_0 x2_1 x2_2 x2_3 x2_4 x2_5 * (24 : Nat) ≤ (70368744177664 : Nat), (!!fAwake_0) = true → (!lFrNew_s6 x0 x1 x2_0 x2_1 x2_2 x2_3 x2_4 x2_5) = true → isX (X.e (0 : Nat)) (lFrNew_s7 x0 x1 x2_0 x2_1 x2_2 x2_3 x2_4 x2_5 x3 x4) = true → Int.ofNat (lFrNew_s9 x0 x1 x2_0 x2_1 x2_2 x2_3 x2_4 x2_5) ≠ (0 : Int), (!!fAwake_0) = true → (!lFrNew_s6 x0 x1 x2_0 x2_1 x2_2 x2_3 x2_4 x2_5) = true → isX (X.e (0 : Nat)) (lFrNew_s7 x0 x1 x2_0 x2_1 x2_2 x2_3 x2_4 x2_5 x3 x4) = true → (0 : Int) ≤ lFrNew_s10 x0 x1 x2_0 x2_1 x2_2 x2_3 x2_4 x2_5 x3 x4 ∧ lFrNew_s10 x0 x1 x2_0 x2_1 x2_2 x2_3 x2_4 x2_5 x3 x4 < Int.ofNat (lFrNew_s9 x0 x1 x2_0 x2_1 x2_2 x2_3 x2_4 x2_5), (!!fAwake_0) = true → (!lFrNew_s6 x0 x1 x2_0 x2_1 x2_2 x2_3 x2_4 x2_5) = true → isX (X.e (0 : Nat)) (lFrNew_s7 x0 x1 x2_0 x2_1 x2_2 x2_3 x2_4 x2_5 x3 x4) = true → lFrNew_s4 x0 x1 x2_0 x2_1 x2_2 x2_3 x2_4 x2_5 ≠ (0 : Nat), (!!fAwake_0) = true → (!lFrNew_s6 x0 x1 x2_0 x2_1 x2_2 x2_3 x2_4 x2_5) = true → isX (X.e (0 : Nat)) (lFrNew_s7 x0 x1 x2_0 x2_1 x2_2 x2_3 x2_4 x2_5 x3 x4) = true → lFrNew_s9 x0 x1 x2_0 x2_1 x2_2 x2_3 x2_4 x2_5 * (24 : Nat) ≤ (70368744177664 : Nat), (!!fAwake_0) = true → (!lFrNew_s6 x0 x1 x2_0 x2_1 x2_2 x2_3 x2_4 x2_5) = true → isX (X.e (0 : Nat)) (lFrNew_s7 x0 x1 x2_0 x2_1 x2_2 x2_3 x2_4 x2_5 x3 x4) = true → (0 : Int) ≤ (1 : Int) ∧ (1 : Int) ≤ Int.ofNat (lFrNew_s9 x0 x1 x2_0 x2_1 x2_2 x2_3 x2_4 x2_5) ∧ Int.ofNat (lFrNew_s9 x0 x1 x2_0 x2_1 x2_2 x2_3 x2_4 x2_5) ≤ Int.ofNat (lFrNew_s9 x0 x1 x2_0 x2_1 x2_2 x2_3 x2_4 x2_5), (!!fAwake_0) = true → (!lFrNew_s6 x0 x1 x2_0 x2_1 x2_2 x2_3 x2_4 x2_5) = true → isX (X.e (0 : Nat)) (lFrNew_s7 x0 x1 x2_0 x2_1 x2_2 x2_3 x2_4 x2_5 x3 x4) = true → lFrNew_s4 x0 x1 x2_0 x2_1 x2_2 x2_3 x2_4 x2_5 ≠ (0 : Nat), (!!fAwake_0) = true → (!lFrNew_s6 x0 x1 x2_0 x2_1 x2_2 x2_3 x2_4 x2_5) = true → isX (X.e (0 : Nat)) (lFrNew_s7 x0 x1 x2_0 x2_1 x2_2 x2_3 x2_4 x2_5 x3 x4) = true → lFrNew_s9 x0 x1 x2_0 x2_1 x2_2 x2_3 x2_4 x2_5 * (24 : Nat) ≤ (70368744177664 : Nat), (!!fAwake_0) = true → (!lFrNew_s6 x0 x1 x2_0 x2_1 x2_2 x2_3 x2_4 x2_5) = true → isX (X.e (0 : Nat)) (lFrNew_s7 x0 x1 x2_0 x2_1 x2_2 x2_3 x2_4 x2_5 x3 x4) = true → (!fChk_s0 (fNew_s2 x0) (fNew_s5 x1) (lFrNew_s12 x0 x1 x2_0 x2_1 x2_2 x2_3 x2_4 x2_5 x3 x4)) = true → lok fChk_l29_st (18446744073709551616 : Nat) (fChk_l29_T.mk (0 : Int) (Int.ofNat (List.length (lFrNew_s12 x0 x1 x2_0 x2_1 x2_2 x2_3 x2_4 x2_5 x3 x4))) (0 : Int) (lFrNew_s12 x0 x1 x2_0 x2_1 x2_2 x2_3 x2_4 x2_5 x3 x4)), (!!fAwake_0) = true → (!lFrNew_s6 x0 x1 x2_0 x2_1 x2_2 x2_3 x2_4 x2_5) = true → isX (X.e (0 : Nat)) (lFrNew_s7 x0 x1 x2_0 x2_1 x2_2 x2_3 x2_4 x2_5 x3 x4) = true → lFrNew_s15 x0 x1 x2_0 x2_1 x2_2 x2_3 x2_4 x2_5 x3 x4 = true → (!fChkS_s0 (fNew_s2 x0) (fNew_s5 x1) (lFrNew_s16 x0 x1 x2_0 x2_1 x2_2 x2_3 x2_4 x2_5)) = true → lok fChkS_l29_st (18446744073709551616 : Nat) (fChkS_l29_T.mk (0 : Int) (Int.toNat (1 : Int)) (lFrNew_s16 x0 x1 x2_0 x2_1 x2_2 x2_3 x2_4 x2_5) (Int.ofNat (lFrNew_s16 x0 x1 x2_0 x2_1 x2_2 x2_3 x2_4 x2_5)) (0 : Int) (lFrNew_s8 x0 x1 x2_0 x2_1 x2_2 x2_3 x2_4 x2_5)), (!!fAwake_0) = true → (!lFrNew_s6 x0 x1 x2_0 x2_1 x2_2 x2_3 x2_4 x2_5) = true → isX (X.e (0 : Nat)) (lFrNew_s7 x0 x1 x2_0 x2_1 x2_2 x2_3 x2_4 x2_5 x3 x4) = true → lFrNew_s15 x0 x1 x2_0 x2_1 x2_2 x2_3 x2_4 x2_5 x3 x4 = true → lFrNew_s17 x0 x1 x2_0 x2_1 x2_2 x2_3 x2_4 x2_5 = true → (!fChk_s0 (65 : Int) (fNew_s5 x1) (lFrNew_s8 x0 x1 x2_0 x2_1 x2_2 x2_3 x2_4 x2_5)) = true → lok fChk_l29_st (18446744073709551616 : Nat) (fChk_l29_T.mk (0 : Int) (Int.ofNat (lFrNew_s9 x0 x1 x2_0 x2_1 x2_2 x2_3 x2_4 x2_5)) (0 : Int) (lFrNew_s8 x0 x1 x2_0 x2_1 x2_2 x2_3 x2_4 x2_5)), (!!fAwake_0) = true → (!lFrNew_s6 x0 x1 x2_0 x2_1 x2_2 x2_3 x2_4 x2_5) = true → isX (X.e (0 : Nat)) (lFrNew_s7 x0 x1 x2_0 x2_1 x2_2 x2_3 x2_4 x2_5 x3 x4) = true → lFrNew_s15 x0 x1 x2_0 x2_1 x2_2 x2_3 x2_4 x2_5 x3 x4 = true → lFrNew_s17 x0 x1 x2_0 x2_1 x2_2 x2_3 x2_4 x2_5 = true → lFrNew_s18 x0 x1 x2_0 x2_1 x2_2 x2_3 x2_4 x2_5 = true → (!fChk_s0 (65 : Int) (fNew_s5 x1) (lFrNew_s8 x0 x1 x2_0 x2_1 x2_2 x2_3 x2_4 x2_5)) = true → lok fChk_l29_st (18446744073709551616 : Nat) (fChk_l29_T.mk (0 : Int) (Int.ofNat (lFrNew_s9 x0 x1 x2_0 x2_1 x2_2 x2_3 x2_4 x2_5)) (0 : Int) (lFrNew_s8 x0 x1 x2_0 x2_1 x2_2 x2_3 x2_4 x2_5)), (!!fAwake_0) = true → (!lFrNew_s6 x0 x1 x2_0 x2_1 x2_2 x2_3 x2_4 x2_5) = true → isX (X.e (0 : Nat)) (lFrNew_s7 x0 x1 x2_0 x2_1 x2_2 x2_3 x2_4 x2_5 x3 x4) = true → lFrNew_s15 x0 x1 x2_0 x2_1 x2_2 x2_3 x2_4 x2_5 x3 x4 = true → lFrNew_s17 x0 x1 x2_0 x2_1 x2_2 x2_3 x2_4 x2_5 = true → lFrNew_s18 x0 x1 x2_0 x2_1 x2_2 x2_3 x2_4 x2_5 = true → (!fText_s0 (65 : Int) (fNew_s5 x1) (lFrNew_s8 x0 x1 x2_0 x2_1 x2_2 x2_3 x2_4 x2_5)) = true → lok fText_l61_st (18446744073709551616 : Nat) (fText_l61_T.mk (ByteArray.mk (Array.mk [])) (fNew_s5 x1) (0 : Int) (65 : Int) (fNew_s5 x1) (lFrNew_s8 x0 x1 x2_0 x2_1 x2_2 x2_3 x2_4 x2_5) []), (!!fAwake_0) = true → (!lFrNew_s6 x0 x1 x2_0 x2_1 x2_2 x2_3 x2_4 x2_5) = true → isX (X.e (0 : Nat)) (lFrNew_s7 x0 x1 x2_0 x2_1 x2_2 x2_3 x2_4 x2_5 x3 x4) = true → lFrNew_s15 x0 x1 x2_0 x2_1 x2_2 x2_3 x2_4 x2_5 x3 x4 = true → lFrNew_s17 x0 x1 x2_0 x2_1 x2_2 x2_3 x2_4 x2_5 = true → lFrNew_s18 x0 x1 x2_0 x2_1 x2_2 x2_3 x2_4 x2_5 = true → lFrNew_s19 x0 x1 x2_0 x2_1 x2_2 x2_3 x2_4 x2_5 = true → lFrNew_s20 x0 x1 x2_0 x2_1 x2_2 x2_3 x2_4 x2_5 x3 x4 = false → (!fChk_s0 (fNew_s2 x0) (fNew_s5 x1) (lFrNew_s12 x0 x1 x2_0 x2_1 x2_2 x2_3 x2_4 x2_5 x3 x4)) = true → lok fChk_l29_st (18446744073709551616 : Nat) (fChk_l29_T.mk (0 : Int) (Int.ofNat (List.length (lFrNew_s12 x0 x1 x2_0 x2_1 x2_2 x2_3 x2_4 x2_5 x3 x4))) (0 : Int) (lFrNew_s12 x0 x1 x2_0 x2_1 x2_2 x2_3 x2_4 x2_5 x3 x4)), (!!fAwake_0) = true → (!lFrNew_s6 x0 x1 x2_0 x2_1 x2_2 x2_3 x2_4 x2_5) = true → isX (X.e (0 : Nat)) (lFrNew_s7 x0 x1 x2_0 x2_1 x2_2 x2_3 x2_4 x2_5 x3 x4) = true → lFrNew_s15 x0 x1 x2_0 x2_1 x2_2 x2_3 x2_4 x2_5 x3 x4 = true → lFrNew_s17 x0 x1 x2_0 x2_1 x2_2 x2_3 x2_4 x2_5 = true → lFrNew_s18 x0 x1 x2_0 x2_1 x2_2 x2_3 x2_4 x2_5 = true → lFrNew_s19 x0 x1 x2_0 x2_1 x2_2 x2_3 x2_4 x2_5 = true → lFrNew_s20 x0 x1 x2_0 x2_1 x2_2 x2_3 x2_4 x2_5 x3 x4 = false → (!fText_s0 (fNew_s2 x0) (fNew_s5 x1) (lFrNew_s12 x0 x1 x2_0 x2_1 x2_2 x2_3 x2_4 x2_5 x3 x4)) = true → lok fText_l61_st (18446744073709551616 : Nat) (fText_l61_T.mk (ByteArray.mk (Array.mk [])) (fNew_s5 x1) (0 : Int) (fNew_s2 x0) (fNew_s5 x1) (lFrNew_s12 x0 x1 x2_0 x2_1 x2_2 x2_3 x2_4 x2_5 x3 x4) [])]
theorem lFrNew_p (x0 : Int) (x1 : Int) (x2_0 : Int) (x2_1 : Int) (x2_2 : Int) (x2_3 : Int) (x2_4 : Int) (x2_5 : Int) (x3 : Int) (x4 : Int) : evG Try.prog tabFd3 2000 4 [0, 1, 2, 3, 4, 7, 10, 11, 12, 13, 15, 16, 17, 18, 19, 21, 58, 60, 61, 62, 63, 69, 89] [(253, lFrNew_l253_sum)] [] [.a (.int true .i64 x0), .a (.int true .i64 x1), .g [.int true .u8 x2_0, .int true .u8 x2_1, .int true .u8 x2_2, .int true .u8 x2_3, .int true .u16 x2_4, .int true .u8 x2_5], .a (.int true .i64 x3), .a (.int true .u8 x4)] [] = some (lFrNew_o x0 x1 x2_0 x2_1 x2_2 x2_3 x2_4 x2_5 x3 x4, LV.a (At.bool true (lFrNew_0 x0 x1 x2_0 x2_1 x2_2 x2_3 x2_4 x2_5 x3 x4)), []) := by kernel_rfl
def lFrNew_c : Con
  | [.a (.int true .i64 x0), .a (.int true .i64 x1), .g [.int true .u8 x2_0, .int true .u8 x2_1, .int true .u8 x2_2, .int true .u8 x2_3, .int true .u16 x2_4, .int true .u8 x2_5], .a (.int true .i64 x3), .a (.int true .u8 x4)], [] => some (lFrNew_o x0 x1 x2_0 x2_1 x2_2 x2_3 x2_4 x2_5 x3 x4, LV.a (At.bool true (lFrNew_0 x0 x1 x2_0 x2_1 x2_2 x2_3 x2_4 x2_5 x3 x4)), [])
  | _, _ => none
theorem lFrNew_ok : ConOK Try.prog 4 (normC lFrNew_c) := normC_ok (by
  intro args bs obs lv out h ho φ vs w may ha hM
  unfold lFrNew_c at h
  split at h
  · simp only [Option.some.injEq, Prod.mk.injEq] at h
    obtain ⟨rfl, rfl, rfl⟩ := h
    rename_i x0 x1 x2_0 x2_1 x2_2 x2_3 x2_4 x2_5 x3 x4
    exact evG_okL' tabFd3_ok follows (LOK_cons (show subs (bodyOf Try.prog 4) 1 253 = [.block (blockOf (subs (bodyOf Try.prog 4) 1 253)) (.loop lFrNew_l253_code)] from by kernel_rfl) lFrNew_l253_sok (LOK_nil')) _ _ _ _ _ (lFrNew_p x0 x1 x2_0 x2_1 x2_2 x2_3 x2_4 x2_5 x3 x4) ho φ vs w may ha hM
  · cases h)
theorem lFrNew_en : Enters Try.prog 4 := fun args => by kernel_rfl
-- 10356 501 51 ms

def tabFd4 : Tab := (4, normC lFrNew_c) :: tabFd3
theorem tabFd4_ok : TOK Try.prog tabFd4 := TOK.cons lFrNew_en lFrNew_ok (tabFd3_ok)

end Go.Proofs.Ytcdejlgophpdjaa
end

section
namespace Go.Proofs.Ytcdejlgophpdjaa
open Go Go.RowKit Go.Proofs.Ytcdejlgophpdjaa.V
set_option linter.unusedVariables false

/-! azulejo/frame.Same -/
def fSame_s0 (w0 : Int) (h0 : Int) (w1 : Int) (h1 : Int) : Bool := w0 == w1 && h0 == h1
def fSame_0 (w0 : Int) (h0 : Int) (w1 : Int) (h1 : Int) (l : List (List Int)) (m : List (List Int)) : Bool := bif fSame_s0 w0 h0 w1 h1 then sEqual_0 l m else false
def fSame_o (w0 : Int) (h0 : Int) (w1 : Int) (h1 : Int) (r0 : Bool) (l : List (List Int)) (r1 : Bool) (m : List (List Int)) : List Prop := [fSame_s0 w0 h0 w1 h1 = true → (!sEqual_s0 l m) = true → lok sEqual_l29_st (18446744073709551616 : Nat) (sEqual_l29_T.mk false (Int.ofNat (List.length l)) (0 : Int) l m)]
theorem fSame_p (w0 : Int) (h0 : Int) (w1 : Int) (h1 : Int) (r0 : Bool) (l : List (List Int)) (r1 : Bool) (m : List (List Int)) : evG Try.prog tabFd4 2000 69 [0, 1, 2, 3, 4] [] [] [.g [.int true .i64 w0, .int true .i64 h0, .vec 0 0 6], .g [.int true .i64 w1, .int true .i64 h1, .vec 1 0 6]] [⟨⟨0, 0, r0, some ⟨0, [.int .u8, .int .u8, .int .u8, .int .u8, .int .i64, .int .u8], l, none⟩⟩, []⟩, ⟨⟨0, 0, r1, some ⟨0, [.int .u8, .int .u8, .int .u8, .int .u8, .int .i64, .int .u8], m, none⟩⟩, []⟩] = some (fSame_o w0 h0 w1 h1 r0 l r1 m, LV.a (At.bool true (fSame_0 w0 h0 w1 h1 l m)), [none, none]) := by kernel_rfl
def fSame_c : Con
  | [.g [.int true .i64 w0, .int true .i64 h0, .vec 0 0 6], .g [.int true .i64 w1, .int true .i64 h1, .vec 1 0 6]], [⟨⟨0, 0, r0, some ⟨0, [.int .u8, .int .u8, .int .u8, .int .u8, .int .i64, .int .u8], l, none⟩⟩, []⟩, ⟨⟨0, 0, r1, some ⟨0, [.int .u8, .int .u8, .int .u8, .int .u8, .int .i64, .int .u8], m, none⟩⟩, []⟩] => some (fSame_o w0 h0 w1 h1 r0 l r1 m, LV.a (At.bool true (fSame_0 w0 h0 w1 h1 l m)), [none, none])
  | _, _ => none
theorem fSame_ok : ConOK Try.prog 69 (normC fSame_c) := normC_ok (by
  intro args bs obs lv out h ho φ vs w may ha hM
  unfold fSame_c at h
  split at h
  · simp only [Option.some.injEq, Prod.mk.injEq] at h
    obtain ⟨rfl, rfl, rfl⟩ := h
    rename_i w0 h0 w1 h1 r0 l r1 m
    exact evG_ok tabFd4_ok follows _ _ _ _ _ (fSame_p w0 h0 w1 h1 r0 l r1 m) ho φ vs w may ha hM
  · cases h)
theorem fSame_en : Enters Try.prog 69 := fun args => by kernel_rfl
-- 320 9 6 ms

/-! azulejo/frame.SameIn -/
noncomputable def fSameIn_l841_code : Go.Code := loopOf (subs (bodyOf Try.prog 70) 1 841)
structure fSameIn_l841_T where
  a0 : Bool
  a1 : Int
  a2 : Int
  a3 : Bool
  a4 : Int
  a5 : Int
  a6 : List (List Int)
  a7 : Int
  a8 : Int
  a9 : List (List Int)
  a10 : Int
  a11 : Int
  a12 : Int
  a13 : Int
  deriving Inhabited
def fSameIn_l841_hd (v : fSameIn_l841_T) : HS := HS.mk [(nat_lit 3, LV.a (At.ptr (nat_lit 0) (nat_lit 0))), (nat_lit 4, LV.a (At.ptr (nat_lit 2) (nat_lit 0))), (nat_lit 5, LV.a (At.ptr (nat_lit 4) (nat_lit 0))), (nat_lit 6, LV.a (At.bool true (fSameIn_l841_T.a0 v))), (nat_lit 7, LV.a (At.int true IntKind.i64 (fSameIn_l841_T.a1 v))), (nat_lit 8, LV.a (At.int true IntKind.i64 (fSameIn_l841_T.a2 v))), (nat_lit 16, LV.a (At.bool true (fSameIn_l841_T.a3 v)))] [BC.mk (Hd.mk (nat_lit 0) (nat_lit 3) true none) [some (At.int true IntKind.i64 (fSameIn_l841_T.a4 v)), some (At.int true IntKind.i64 (fSameIn_l841_T.a5 v)), some (At.vec (nat_lit 1) (nat_lit 0) (nat_lit 6))], BC.mk (Hd.mk (nat_lit 0) (nat_lit 0) true (some (Rw.mk (nat_lit 0) [Kd.int IntKind.u8, Kd.int IntKind.u8, Kd.int IntKind.u8, Kd.int IntKind.u8, Kd.int IntKind.i64, Kd.int IntKind.u8] (fSameIn_l841_T.a6 v) none))) [], BC.mk (Hd.mk (nat_lit 0) (nat_lit 3) true none) [some (At.int true IntKind.i64 (fSameIn_l841_T.a7 v)), some (At.int true IntKind.i64 (fSameIn_l841_T.a8 v)), some (At.vec (nat_lit 3) (nat_lit 0) (nat_lit 6))], BC.mk (Hd.mk (nat_lit 0) (nat_lit 0) true (some (Rw.mk (nat_lit 0) [Kd.int IntKind.u8, Kd.int IntKind.u8, Kd.int IntKind.u8, Kd.int IntKind.u8, Kd.int IntKind.i64, Kd.int IntKind.u8] (fSameIn_l841_T.a9 v) none))) [], BC.mk (Hd.mk (nat_lit 0) (nat_lit 4) true none) [some (At.int true IntKind.i64 (fSameIn_l841_T.a10 v)), some (At.int true IntKind.i64 (fSameIn_l841_T.a11 v)), some (At.int true IntKind.i64 (fSameIn_l841_T.a12 v)), some (At.int true IntKind.i64 (fSameIn_l841_T.a13 v))]]
def fSameIn_l841_s0 (v : fSameIn_l841_T) : Int := if (64 : Int) < fSameIn_l841_T.a12 v then (64 : Int) else fSameIn_l841_T.a12 v
def fSameIn_l841_s1 (v : fSameIn_l841_T) : Bool := decide (fSameIn_l841_T.a2 v < fSameIn_l841_s0 v)
def fSameIn_l841_s2 (v : fSameIn_l841_T) : Bool := !(fAt_0 (fSameIn_l841_T.a4 v) (fSameIn_l841_T.a5 v) (fSameIn_l841_T.a2 v) (fSameIn_l841_T.a1 v) (fSameIn_l841_T.a6 v) == fAt_0 (fSameIn_l841_T.a7 v) (fSameIn_l841_T.a8 v) (fSameIn_l841_T.a2 v) (fSameIn_l841_T.a1 v) (fSameIn_l841_T.a9 v) && (fAt_1 (fSameIn_l841_T.a4 v) (fSameIn_l841_T.a5 v) (fSameIn_l841_T.a2 v) (fSameIn_l841_T.a1 v) (fSameIn_l841_T.a6 v) == fAt_1 (fSameIn_l841_T.a7 v) (fSameIn_l841_T.a8 v) (fSameIn_l841_T.a2 v) (fSameIn_l841_T.a1 v) (fSameIn_l841_T.a9 v) && (fAt_2 (fSameIn_l841_T.a4 v) (fSameIn_l841_T.a5 v) (fSameIn_l841_T.a2 v) (fSameIn_l841_T.a1 v) (fSameIn_l841_T.a6 v) == fAt_2 (fSameIn_l841_T.a7 v) (fSameIn_l841_T.a8 v) (fSameIn_l841_T.a2 v) (fSameIn_l841_T.a1 v) (fSameIn_l841_T.a9 v) && fAt_3 (fSameIn_l841_T.a4 v) (fSameIn_l841_T.a5 v) (fSameIn_l841_T.a2 v) (fSameIn_l841_T.a1 v) (fSameIn_l841_T.a6 v) == fAt_3 (fSameIn_l841_T.a7 v) (fSameIn_l841_T.a8 v) (fSameIn_l841_T.a2 v) (fSameIn_l841_T.a1 v) (fSameIn_l841_T.a9 v))) && (fAt_4 (fSameIn_l841_T.a4 v) (fSameIn_l841_T.a5 v) (fSameIn_l841_T.a2 v) (fSameIn_l841_T.a1 v) (fSameIn_l841_T.a6 v) == fAt_4 (fSameIn_l841_T.a7 v) (fSameIn_l841_T.a8 v) (fSameIn_l841_T.a2 v) (fSameIn_l841_T.a1 v) (fSameIn_l841_T.a9 v) && fAt_5 (fSameIn_l841_T.a4 v) (fSameIn_l841_T.a5 v) (fSameIn_l841_T.a2 v) (fSameIn_l841_T.a1 v) (fSameIn_l841_T.a6 v) == fAt_5 (fSameIn_l841_T.a7 v) (fSameIn_l841_T.a8 v) (fSameIn_l841_T.a2 v) (fSameIn_l841_T.a1 v) (fSameIn_l841_T.a9 v)))
def fSameIn_l841_st (v : fSameIn_l841_T) : List Prop × List (X × Bool × fSameIn_l841_T) := ([fSameIn_l841_s1 v = true → (!fAt_s1 (fSameIn_l841_T.a4 v) (fSameIn_l841_T.a5 v) (fSameIn_l841_T.a2 v) (fSameIn_l841_T.a1 v) (fSameIn_l841_T.a6 v)) = true → (0 : Int) ≤ fAt_s0 (fSameIn_l841_T.a4 v) (fSameIn_l841_T.a2 v) (fSameIn_l841_T.a1 v) ∧ fAt_s0 (fSameIn_l841_T.a4 v) (fSameIn_l841_T.a2 v) (fSameIn_l841_T.a1 v) < Int.ofNat (List.length (fSameIn_l841_T.a6 v)), fSameIn_l841_s1 v = true → (!fAt_s1 (fSameIn_l841_T.a7 v) (fSameIn_l841_T.a8 v) (fSameIn_l841_T.a2 v) (fSameIn_l841_T.a1 v) (fSameIn_l841_T.a9 v)) = true → (0 : Int) ≤ fAt_s0 (fSameIn_l841_T.a7 v) (fSameIn_l841_T.a2 v) (fSameIn_l841_T.a1 v) ∧ fAt_s0 (fSameIn_l841_T.a7 v) (fSameIn_l841_T.a2 v) (fSameIn_l841_T.a1 v) < Int.ofNat (List.length (fSameIn_l841_T.a9 v))], [(X.e (2 : Nat), !fSameIn_l841_s1 v, fSameIn_l841_T.mk (fSameIn_l841_T.a0 v) (fSameIn_l841_T.a1 v) (fSameIn_l841_T.a2 v) (fSameIn_l841_T.a3 v) (fSameIn_l841_T.a4 v) (fSameIn_l841_T.a5 v) (fSameIn_l841_T.a6 v) (fSameIn_l841_T.a7 v) (fSameIn_l841_T.a8 v) (fSameIn_l841_T.a9 v) (fSameIn_l841_T.a10 v) (fSameIn_l841_T.a11 v) (fSameIn_l841_T.a12 v) (fSameIn_l841_T.a13 v)), (X.r, fSameIn_l841_s1 v && fSameIn_l841_s2 v, fSameIn_l841_T.mk (false) (fSameIn_l841_T.a1 v) (fSameIn_l841_T.a2 v) (fSameIn_l841_T.a3 v) (fSameIn_l841_T.a4 v) (fSameIn_l841_T.a5 v) (fSameIn_l841_T.a6 v) (fSameIn_l841_T.a7 v) (fSameIn_l841_T.a8 v) (fSameIn_l841_T.a9 v) (fSameIn_l841_T.a10 v) (fSameIn_l841_T.a11 v) (fSameIn_l841_T.a12 v) (fSameIn_l841_T.a13 v)), (X.n, fSameIn_l841_s1 v && !fSameIn_l841_s2 v, fSameIn_l841_T.mk (fSameIn_l841_T.a0 v) (fSameIn_l841_T.a1 v) (IntKind.wrap IntKind.i64 (fSameIn_l841_T.a2 v + (1 : Int))) (fSameIn_l841_T.a3 v) (fSameIn_l841_T.a4 v) (fSameIn_l841_T.a5 v) (fSameIn_l841_T.a6 v) (fSameIn_l841_T.a7 v) (fSameIn_l841_T.a8 v) (fSameIn_l841_T.a9 v) (fSameIn_l841_T.a10 v) (fSameIn_l841_T.a11 v) (fSameIn_l841_T.a12 v) (fSameIn_l841_T.a13 v))])
def fSameIn_l841_rd : HS → Option fSameIn_l841_T
  | HS.mk [(3, LV.a (At.ptr 0 0)), (4, LV.a (At.ptr 2 0)), (5, LV.a (At.ptr 4 0)), (6, LV.a (At.bool true a0)), (7, LV.a (At.int true IntKind.i64 a1)), (8, LV.a (At.int true IntKind.i64 a2)), (16, LV.a (At.bool true a3))] [BC.mk (Hd.mk 0 3 true none) [some (At.int true IntKind.i64 a4), some (At.int true IntKind.i64 a5), some (At.vec 1 0 6)], BC.mk (Hd.mk 0 0 true (some (Rw.mk 0 [Kd.int IntKind.u8, Kd.int IntKind.u8, Kd.int IntKind.u8, Kd.int IntKind.u8, Kd.int IntKind.i64, Kd.int IntKind.u8] a6 none))) [], BC.mk (Hd.mk 0 3 true none) [some (At.int true IntKind.i64 a7), some (At.int true IntKind.i64 a8), some (At.vec 3 0 6)], BC.mk (Hd.mk 0 0 true (some (Rw.mk 0 [Kd.int IntKind.u8, Kd.int IntKind.u8, Kd.int IntKind.u8, Kd.int IntKind.u8, Kd.int IntKind.i64, Kd.int IntKind.u8] a9 none))) [], BC.mk (Hd.mk 0 4 true none) [some (At.int true IntKind.i64 a10), some (At.int true IntKind.i64 a11), some (At.int true IntKind.i64 a12), some (At.int true IntKind.i64 a13)]] => some (fSameIn_l841_T.mk a0 a1 a2 a3 a4 a5 a6 a7 a8 a9 a10 a11 a12 a13)
  | _ => none
def fSameIn_l841_sum : V.Sum := loopS fSameIn_l841_hd fSameIn_l841_rd fSameIn_l841_st 18446744073709551616 [X.e (2 : Nat), X.r] [0, 1, 2, 3, 4, 5, 6, 7, 8, 16, 26, 37] [3, 4, 5, 6, 7, 8, 16] [] [] [] 2
theorem fSameIn_l841_E : ∀ v, bodyF Try.prog tabFd4 (ntOf Try.prog 70) [0, 1, 2, 3, 4, 5, 6, 7, 8, 16, 26, 37] [3, 4, 5, 6, 7, 8, 16] [] 2000 [] [] fSameIn_l841_code 3364 (fSameIn_l841_hd v) = some ((fSameIn_l841_st v).1, (fSameIn_l841_st v).2.map fun q => (q.1, q.2.1, fSameIn_l841_hd q.2.2)) := fun v => by kernel_rfl
set_option maxHeartbeats 2000000 in
theorem fSameIn_l841_R : ∀ h v, fSameIn_l841_rd h = some v → h = fSameIn_l841_hd v := by
  intro h v e
  unfold fSameIn_l841_rd at e
  split at e
  · simp only [Option.some.injEq] at e; subst e; rfl
  · cases e
set_option maxRecDepth 100000 in
theorem fSameIn_l841_sok : SumOK Try.prog (ntOf Try.prog 70) [0, 1, 2, 3, 4, 5, 6, 7, 8, 16, 26, 37] (.block (blockOf (subs (bodyOf Try.prog 70) 1 841)) (.loop fSameIn_l841_code)) fSameIn_l841_sum := loopS_ok tabFd4_ok follows fSameIn_l841_E fSameIn_l841_R (fun v => by kernel_rfl) (LOK_of _ _ (LOK_nil'))
noncomputable def fSameIn_l13_code : Go.Code := loopOf (subs (bodyOf Try.prog 70) 1 13)
structure fSameIn_l13_T where
  a0 : Bool
  a1 : Int
  a2 : Int
  a3 : Int
  a4 : List (List Int)
  a5 : Int
  a6 : Int
  a7 : List (List Int)
  a8 : Int
  a9 : Int
  a10 : Int
  a11 : Int
  deriving Inhabited
def fSameIn_l13_hd (v : fSameIn_l13_T) : HS := HS.mk [(nat_lit 3, LV.a (At.ptr (nat_lit 0) (nat_lit 0))), (nat_lit 4, LV.a (At.ptr (nat_lit 2) (nat_lit 0))), (nat_lit 5, LV.a (At.ptr (nat_lit 4) (nat_lit 0))), (nat_lit 6, LV.a (At.bool true (fSameIn_l13_T.a0 v))), (nat_lit 7, LV.a (At.int true IntKind.i64 (fSameIn_l13_T.a1 v)))] [BC.mk (Hd.mk (nat_lit 0) (nat_lit 3) true none) [some (At.int true IntKind.i64 (fSameIn_l13_T.a2 v)), some (At.int true IntKind.i64 (fSameIn_l13_T.a3 v)), some (At.vec (nat_lit 1) (nat_lit 0) (nat_lit 6))], BC.mk (Hd.mk (nat_lit 0) (nat_lit 0) true (some (Rw.mk (nat_lit 0) [Kd.int IntKind.u8, Kd.int IntKind.u8, Kd.int IntKind.u8, Kd.int IntKind.u8, Kd.int IntKind.i64, Kd.int IntKind.u8] (fSameIn_l13_T.a4 v) none))) [], BC.mk (Hd.mk (nat_lit 0) (nat_lit 3) true none) [some (At.int true IntKind.i64 (fSameIn_l13_T.a5 v)), some (At.int true IntKind.i64 (fSameIn_l13_T.a6 v)), some (At.vec (nat_lit 3) (nat_lit 0) (nat_lit 6))], BC.mk (Hd.mk (nat_lit 0) (nat_lit 0) true (some (Rw.mk (nat_lit 0) [Kd.int IntKind.u8, Kd.int IntKind.u8, Kd.int IntKind.u8, Kd.int IntKind.u8, Kd.int IntKind.i64, Kd.int IntKind.u8] (fSameIn_l13_T.a7 v) none))) [], BC.mk (Hd.mk (nat_lit 0) (nat_lit 4) true none) [some (At.int true IntKind.i64 (fSameIn_l13_T.a8 v)), some (At.int true IntKind.i64 (fSameIn_l13_T.a9 v)), some (At.int true IntKind.i64 (fSameIn_l13_T.a10 v)), some (At.int true IntKind.i64 (fSameIn_l13_T.a11 v))]]
def fSameIn_l13_s0 (v : fSameIn_l13_T) : Int := if (64 : Int) < fSameIn_l13_T.a11 v then (64 : Int) else fSameIn_l13_T.a11 v
def fSameIn_l13_s1 (v : fSameIn_l13_T) : Bool := decide (fSameIn_l13_T.a1 v < fSameIn_l13_s0 v)
def fSameIn_l13_s2 (v : fSameIn_l13_T) : Option (X × fSameIn_l841_T) := lrun fSameIn_l841_st (18446744073709551616 : Nat) (fSameIn_l841_T.mk (fSameIn_l13_T.a0 v) (fSameIn_l13_T.a1 v) (if fSameIn_l13_T.a8 v < (0 : Int) then (0 : Int) else fSameIn_l13_T.a8 v) (fSameIn_l13_s1 v) (fSameIn_l13_T.a2 v) (fSameIn_l13_T.a3 v) (fSameIn_l13_T.a4 v) (fSameIn_l13_T.a5 v) (fSameIn_l13_T.a6 v) (fSameIn_l13_T.a7 v) (fSameIn_l13_T.a8 v) (fSameIn_l13_T.a9 v) (fSameIn_l13_T.a10 v) (fSameIn_l13_T.a11 v))
def fSameIn_l13_st (v : fSameIn_l13_T) : List Prop × List (X × Bool × fSameIn_l13_T) := ([fSameIn_l13_s1 v = true → lok fSameIn_l841_st (18446744073709551616 : Nat) (fSameIn_l841_T.mk (fSameIn_l13_T.a0 v) (fSameIn_l13_T.a1 v) (if fSameIn_l13_T.a8 v < (0 : Int) then (0 : Int) else fSameIn_l13_T.a8 v) (fSameIn_l13_s1 v) (fSameIn_l13_T.a2 v) (fSameIn_l13_T.a3 v) (fSameIn_l13_T.a4 v) (fSameIn_l13_T.a5 v) (fSameIn_l13_T.a6 v) (fSameIn_l13_T.a7 v) (fSameIn_l13_T.a8 v) (fSameIn_l13_T.a9 v) (fSameIn_l13_T.a10 v) (fSameIn_l13_T.a11 v))], [(X.e (0 : Nat), !fSameIn_l13_s1 v, fSameIn_l13_T.mk (fSameIn_l13_T.a0 v) (fSameIn_l13_T.a1 v) (fSameIn_l13_T.a2 v) (fSameIn_l13_T.a3 v) (fSameIn_l13_T.a4 v) (fSameIn_l13_T.a5 v) (fSameIn_l13_T.a6 v) (fSameIn_l13_T.a7 v) (fSameIn_l13_T.a8 v) (fSameIn_l13_T.a9 v) (fSameIn_l13_T.a10 v) (fSameIn_l13_T.a11 v)), (X.r, fSameIn_l13_s1 v && isX X.r (fSameIn_l13_s2 v), fSameIn_l13_T.mk (fSameIn_l841_T.a0 (V.valOf (fSameIn_l13_s2 v))) (fSameIn_l841_T.a1 (V.valOf (fSameIn_l13_s2 v))) (fSameIn_l13_T.a2 v) (fSameIn_l13_T.a3 v) (fSameIn_l13_T.a4 v) (fSameIn_l13_T.a5 v) (fSameIn_l13_T.a6 v) (fSameIn_l13_T.a7 v) (fSameIn_l13_T.a8 v) (fSameIn_l13_T.a9 v) (fSameIn_l13_T.a10 v) (fSameIn_l13_T.a11 v)), (X.n, fSameIn_l13_s1 v && isX (X.e (2 : Nat)) (fSameIn_l13_s2 v), fSameIn_l13_T.mk (fSameIn_l841_T.a0 (V.valOf (fSameIn_l13_s2 v))) (IntKind.wrap IntKind.i64 (fSameIn_l841_T.a1 (V.valOf (fSameIn_l13_s2 v)) + (1 : Int))) (fSameIn_l13_T.a2 v) (fSameIn_l13_T.a3 v) (fSameIn_l13_T.a4 v) (fSameIn_l13_T.a5 v) (fSameIn_l13_T.a6 v) (fSameIn_l13_T.a7 v) (fSameIn_l13_T.a8 v) (fSameIn_l13_T.a9 v) (fSameIn_l13_T.a10 v) (fSameIn_l13_T.a11 v))])
def fSameIn_l13_rd : HS → Option fSameIn_l13_T
  | HS.mk [(3, LV.a (At.ptr 0 0)), (4, LV.a (At.ptr 2 0)), (5, LV.a (At.ptr 4 0)), (6, LV.a (At.bool true a0)), (7, LV.a (At.int true IntKind.i64 a1))] [BC.mk (Hd.mk 0 3 true none) [some (At.int true IntKind.i64 a2), some (At.int true IntKind.i64 a3), some (At.vec 1 0 6)], BC.mk (Hd.mk 0 0 true (some (Rw.mk 0 [Kd.int IntKind.u8, Kd.int IntKind.u8, Kd.int IntKind.u8, Kd.int IntKind.u8, Kd.int IntKind.i64, Kd.int IntKind.u8] a4 none))) [], BC.mk (Hd.mk 0 3 true none) [some (At.int true IntKind.i64 a5), some (At.int true IntKind.i64 a6), some (At.vec 3 0 6)], BC.mk (Hd.mk 0 0 true (some (Rw.mk 0 [Kd.int IntKind.u8, Kd.int IntKind.u8, Kd.int IntKind.u8, Kd.int IntKind.u8, Kd.int IntKind.i64, Kd.int IntKind.u8] a7 none))) [], BC.mk (Hd.mk 0 4 true none) [some (At.int true IntKind.i64 a8), some (At.int true IntKind.i64 a9), some (At.int true IntKind.i64 a10), some (At.int true IntKind.i64 a11)]] => some (fSameIn_l13_T.mk a0 a1 a2 a3 a4 a5 a6 a7 a8 a9 a10 a11)
  | _ => none
def fSameIn_l13_sum : V.Sum := loopS fSameIn_l13_hd fSameIn_l13_rd fSameIn_l13_st 18446744073709551616 [X.e (0 : Nat), X.r] [0, 1, 2, 3, 4, 5, 6, 7, 8, 16, 26, 37] [3, 4, 5, 6, 7] [] [] [] 0
theorem fSameIn_l13_E : ∀ v, bodyF Try.prog tabFd4 (ntOf Try.prog 70) [0, 1, 2, 3, 4, 5, 6, 7, 8, 16, 26, 37] [3, 4, 5, 6, 7] [(841, fSameIn_l841_sum)] 2000 [] [] fSameIn_l13_code 52 (fSameIn_l13_hd v) = some ((fSameIn_l13_st v).1, (fSameIn_l13_st v).2.map fun q => (q.1, q.2.1, fSameIn_l13_hd q.2.2)) := fun v => by kernel_rfl
set_option maxHeartbeats 2000000 in
theorem fSameIn_l13_R : ∀ h v, fSameIn_l13_rd h = some v → h = fSameIn_l13_hd v := by
  intro h v e
  unfold fSameIn_l13_rd at e
  split at e
  · simp only [Option.some.injEq] at e; subst e; rfl
  · cases e
set_option maxRecDepth 100000 in
theorem fSameIn_l13_sok : SumOK Try.prog (ntOf Try.prog 70) [0, 1, 2, 3, 4, 5, 6, 7, 8, 16, 26, 37] (.block (blockOf (subs (bodyOf Try.prog 70) 1 13)) (.loop fSameIn_l13_code)) fSameIn_l13_sum := loopS_ok tabFd4_ok follows fSameIn_l13_E fSameIn_l13_R (fun v => by kernel_rfl) (LOK_of _ _ (LOK_cons (show subs fSameIn_l13_code 52 841 = [.block (blockOf (subs (bodyOf Try.prog 70) 1 841)) (.loop fSameIn_l841_code)] from by kernel_rfl) fSameIn_l841_sok (LOK_nil')))
def fSameIn_s0 (w0 : Int) (h0 : Int) (w1 : Int) (h1 : Int) (x2_0 : Int) (x2_1 : Int) (x2_2 : Int) (x2_3 : Int) (l : List (List Int)) (m : List (List Int)) : Option (X × fSameIn_l13_T) := lrun fSameIn_l13_st (18446744073709551616 : Nat) (fSameIn_l13_T.mk false (if x2_1 < (0 : Int) then (0 : Int) else x2_1) w0 h0 l w1 h1 m x2_0 x2_1 x2_2 x2_3)
def fSameIn_0 (w0 : Int) (h0 : Int) (w1 : Int) (h1 : Int) (x2_0 : Int) (x2_1 : Int) (x2_2 : Int) (x2_3 : Int) (l : List (List Int)) (m : List (List Int)) : Bool := bif isX X.r (fSameIn_s0 w0 h0 w1 h1 x2_0 x2_1 x2_2 x2_3 l m) then fSameIn_l13_T.a0 (V.valOf (fSameIn_s0 w0 h0 w1 h1 x2_0 x2_1 x2_2 x2_3 l m)) else true
def fSameIn_o (w0 : Int) (h0 : Int) (w1 : Int) (h1 : Int) (x2_0 : Int) (x2_1 : Int) (x2_2 : Int) (x2_3 : Int) (r0 : Bool) (l : List (List Int)) (r1 : Bool) (m : List (List Int)) : List Prop := [lok fSameIn_l13_st (18446744073709551616 : Nat) (fSameIn_l13_T.mk false (if x2_1 < (0 : Int) then (0 : Int) else x2_1) w0 h0 l w1 h1 m x2_0 x2_1 x2_2 x2_3)]
theorem fSameIn_p (w0 : Int) (h0 : Int) (w1 : Int) (h1 : Int) (x2_0 : Int) (x2_1 : Int) (x2_2 : Int) (x2_3 : Int) (r0 : Bool) (l : List (List Int)) (r1 : Bool) (m : List (List Int)) : evG Try.prog tabFd4 2000 70 [0, 1, 2, 3, 4, 5, 6, 7, 8, 16, 26, 37] [(13, fSameIn_l13_sum), (841, fSameIn_l841_sum)] [] [.g [.int true .i64 w0, .int true .i64 h0, .vec 0 0 6], .g [.int true .i64 w1, .int true .i64 h1, .vec 1 0 6], .g [.int true .i64 x2_0, .int true .i64 x2_1, .int true .i64 x2_2, .int true .i64 x2_3]] [⟨⟨0, 0, r0, some ⟨0, [.int .u8, .int .u8, .int .u8, .int .u8, .int .i64, .int .u8], l, none⟩⟩, []⟩, ⟨⟨0, 0, r1, some ⟨0, [.int .u8, .int .u8, .int .u8, .int .u8, .int .i64, .int .u8], m, none⟩⟩, []⟩] = some (fSameIn_o w0 h0 w1 h1 x2_0 x2_1 x2_2 x2_3 r0 l r1 m, LV.a (At.bool true (fSameIn_0 w0 h0 w1 h1 x2_0 x2_1 x2_2 x2_3 l m)), [none, none]) := by kernel_rfl
def fSameIn_c : Con
  | [.g [.int true .i64 w0, .int true .i64 h0, .vec 0 0 6], .g [.int true .i64 w1, .int true .i64 h1, .vec 1 0 6], .g [.int true .i64 x2_0, .int true .i64 x2_1, .int true .i64 x2_2, .int true .i64 x2_3]], [⟨⟨0, 0, r0, some ⟨0, [.int .u8, .int .u8, .int .u8, .int .u8, .int .i64, .int .u8], l, none⟩⟩, []⟩, ⟨⟨0, 0, r1, some ⟨0, [.int .u8, .int .u8, .int .u8, .int .u8, .int .i64, .int .u8], m, none⟩⟩, []⟩] => some (fSameIn_o w0 h0 w1 h1 x2_0 x2_1 x2_2 x2_3 r0 l r1 m, LV.a (At.bool true (fSameIn_0 w0 h0 w1 h1 x2_0 x2_1 x2_2 x2_3 l m)), [none, none])
  | _, _ => none
theorem fSameIn_ok : ConOK Try.prog 70 (normC fSameIn_c) := normC_ok (by
  intro args bs obs lv out h ho φ vs w may ha hM
  unfold fSameIn_c at h
  split at h
  · simp only [Option.some.injEq, Prod.mk.injEq] at h
    obtain ⟨rfl, rfl, rfl⟩ := h
    rename_i w0 h0 w1 h1 x2_0 x2_1 x2_2 x2_3 r0 l r1 m
    exact evG_okL' tabFd4_ok follows (LOK_cons (show subs (bodyOf Try.prog 70) 1 13 = [.block (blockOf (subs (bodyOf Try.prog 70) 1 13)) (.loop fSameIn_l13_code)] from by kernel_rfl) fSameIn_l13_sok (LOK_cons (show subs (bodyOf Try.prog 70) 1 841 = [.block (blockOf (subs (bodyOf Try.prog 70) 1 841)) (.loop fSameIn_l841_code)] from by kernel_rfl) fSameIn_l841_sok (LOK_nil'))) _ _ _ _ _ (fSameIn_p w0 h0 w1 h1 x2_0 x2_1 x2_2 x2_3 r0 l r1 m) ho φ vs w may ha hM
  · cases h)
theorem fSameIn_en : Enters Try.prog 70 := fun args => by kernel_rfl
-- 3306 33 9 ms

def tabFg1 : Tab := (69, normC fSame_c) :: (70, normC fSameIn_c) :: tabFd4
theorem tabFg1_ok : TOK Try.prog tabFg1 := TOK.cons fSame_en fSame_ok (TOK.cons fSameIn_en fSameIn_ok (tabFd4_ok))

end Go.Proofs.Ytcdejlgophpdjaa
end

section
namespace Go.Proofs.Ytcdejlgophpdjaa
open Go Go.RowKit Go.Proofs.Ytcdejlgophpdjaa.V
set_option linter.unusedVariables false

/-! (azulejo/azulejolaw20.Small).Sized -/
noncomputable def fSized_l7475_code : Go.Code := loopOf (subs (bodyOf Try.prog 72) 1 7475)
structure fSized_l7475_T where
  a0 : Int
  a1 : Int
  a2 : Int
  a3 : Int
  a4 : Bool
  a5 : Int
  a6 : Int
  a7 : Int
  a8 : Int
  a9 : Nat
  a10 : List (List Int)
  a11 : Int
  a12 : Int
  a13 : Int
  a14 : Int
  a15 : List (List Int)
  deriving Inhabited
def fSized_l7475_hd (v : fSized_l7475_T) : HS := HS.mk [(nat_lit 1, LV.a (At.int true IntKind.i64 (fSized_l7475_T.a0 v))), (nat_lit 3, LV.a (At.ptr (nat_lit 0) (nat_lit 0))), (nat_lit 6, LV.a (At.ptr (nat_lit 2) (nat_lit 0))), (nat_lit 7, LV.a (At.ptr (nat_lit 3) (nat_lit 0))), (nat_lit 8, LV.a (At.int true IntKind.i64 (fSized_l7475_T.a1 v))), (nat_lit 15, LV.a (At.int true IntKind.i64 (fSized_l7475_T.a2 v))), (nat_lit 16, LV.a (At.int true IntKind.i64 (fSized_l7475_T.a3 v))), (nat_lit 17, LV.a (At.bool true (fSized_l7475_T.a4 v))), (nat_lit 19, LV.a (At.int true IntKind.i64 (fSized_l7475_T.a5 v))), (nat_lit 20, LV.a (At.int true IntKind.i64 (fSized_l7475_T.a6 v)))] [BC.mk (Hd.mk (nat_lit 0) (nat_lit 3) true none) [some (At.int true IntKind.u8 (fSized_l7475_T.a7 v)), some (At.int true IntKind.u8 (fSized_l7475_T.a8 v)), some (At.slc true (nat_lit 1) (nat_lit 0) (nat_lit 0) (nat_lit 6) (nat_lit 0) (fSized_l7475_T.a9 v))], BC.mk (Hd.mk (nat_lit 0) (nat_lit 0) true (some (Rw.mk (nat_lit 0) [Kd.int IntKind.u8, Kd.int IntKind.u8, Kd.int IntKind.u8, Kd.int IntKind.u8, Kd.int IntKind.u16, Kd.int IntKind.u8] (fSized_l7475_T.a10 v) none))) [], BC.mk (Hd.mk (nat_lit 0) (nat_lit 3) true none) [some (At.int true IntKind.i64 (fSized_l7475_T.a11 v)), some (At.int true IntKind.i64 (fSized_l7475_T.a12 v)), some At.nils], BC.mk (Hd.mk (nat_lit 0) (nat_lit 3) false none) [some (At.int true IntKind.i64 (fSized_l7475_T.a13 v)), some (At.int true IntKind.i64 (fSized_l7475_T.a14 v)), some (At.vec (nat_lit 4) (nat_lit 0) (nat_lit 6))], BC.mk (Hd.mk (nat_lit 0) (nat_lit 0) false (some (Rw.mk (nat_lit 0) [Kd.int IntKind.u8, Kd.int IntKind.u8, Kd.int IntKind.u8, Kd.int IntKind.u8, Kd.int IntKind.i64, Kd.int IntKind.u8] (fSized_l7475_T.a15 v) none))) []]
def fSized_l7475_s0 (v : fSized_l7475_T) : Bool := decide (fSized_l7475_T.a6 v < fSized_l7475_T.a5 v)
def fSized_l7475_s1 (v : fSized_l7475_T) : Bool := decide ((0 : Int) < Int.ofNat (fSized_l7475_T.a9 v))
def fSized_l7475_s2 (v : fSized_l7475_T) : Int := Int.tmod (IntKind.wrap IntKind.i64 (IntKind.wrap IntKind.i64 (fSized_l7475_T.a1 v * fSized_l7475_T.a0 v) + fSized_l7475_T.a6 v)) (Int.ofNat (fSized_l7475_T.a9 v))
def fSized_l7475_st (v : fSized_l7475_T) : List Prop × List (X × Bool × fSized_l7475_T) := ([fSized_l7475_s0 v = true → fSized_l7475_s1 v = true → Int.ofNat (fSized_l7475_T.a9 v) ≠ (0 : Int), fSized_l7475_s0 v = true → fSized_l7475_s1 v = true → (0 : Int) ≤ fSized_l7475_s2 v ∧ fSized_l7475_s2 v < Int.ofNat (fSized_l7475_T.a9 v), fSized_l7475_s0 v = true → fSized_l7475_s1 v = true → fSet_s1 (fSized_l7475_T.a13 v) (fSized_l7475_T.a14 v) (fSized_l7475_T.a6 v) (fSized_l7475_T.a1 v) (fSized_l7475_T.a15 v) = true → (0 : Int) ≤ fSet_s0 (fSized_l7475_T.a13 v) (fSized_l7475_T.a6 v) (fSized_l7475_T.a1 v) ∧ fSet_s0 (fSized_l7475_T.a13 v) (fSized_l7475_T.a6 v) (fSized_l7475_T.a1 v) < Int.ofNat (List.length (fSized_l7475_T.a15 v))], [(X.e (2 : Nat), !fSized_l7475_s0 v, fSized_l7475_T.mk (fSized_l7475_T.a0 v) (fSized_l7475_T.a1 v) (fSized_l7475_T.a2 v) (fSized_l7475_T.a3 v) (fSized_l7475_T.a4 v) (fSized_l7475_T.a5 v) (fSized_l7475_T.a6 v) (fSized_l7475_T.a7 v) (fSized_l7475_T.a8 v) (fSized_l7475_T.a9 v) (fSized_l7475_T.a10 v) (fSized_l7475_T.a11 v) (fSized_l7475_T.a12 v) (fSized_l7475_T.a13 v) (fSized_l7475_T.a14 v) (fSized_l7475_T.a15 v)), (X.n, fSized_l7475_s0 v, fSized_l7475_T.mk (fSized_l7475_T.a0 v) (fSized_l7475_T.a1 v) (fSized_l7475_T.a2 v) (fSized_l7475_T.a3 v) (fSized_l7475_T.a4 v) (fSized_l7475_T.a5 v) (IntKind.wrap IntKind.i64 (fSized_l7475_T.a6 v + (1 : Int))) (fSized_l7475_T.a7 v) (fSized_l7475_T.a8 v) (fSized_l7475_T.a9 v) (fSized_l7475_T.a10 v) (fSized_l7475_T.a11 v) (fSized_l7475_T.a12 v) (fSized_l7475_T.a13 v) (fSized_l7475_T.a14 v) (bif fSized_l7475_s1 v then fSet_0 (fSized_l7475_T.a13 v) (fSized_l7475_T.a14 v) (fSized_l7475_T.a6 v) (fSized_l7475_T.a1 v) (rget (fSized_l7475_T.a10 v) (nat_lit 0 + Int.toNat (fSized_l7475_s2 v)) (0 : Nat)) (rget (fSized_l7475_T.a10 v) (nat_lit 0 + Int.toNat (fSized_l7475_s2 v)) (1 : Nat)) (rget (fSized_l7475_T.a10 v) (nat_lit 0 + Int.toNat (fSized_l7475_s2 v)) (2 : Nat)) (rget (fSized_l7475_T.a10 v) (nat_lit 0 + Int.toNat (fSized_l7475_s2 v)) (3 : Nat)) (IntKind.wrap IntKind.i64 (rget (fSized_l7475_T.a10 v) (nat_lit 0 + Int.toNat (fSized_l7475_s2 v)) (4 : Nat))) (rget (fSized_l7475_T.a10 v) (nat_lit 0 + Int.toNat (fSized_l7475_s2 v)) (5 : Nat)) (fSized_l7475_T.a15 v) else fSized_l7475_T.a15 v))])
def fSized_l7475_rd : HS → Option fSized_l7475_T
  | HS.mk [(1, LV.a (At.int true IntKind.i64 a0)), (3, LV.a (At.ptr 0 0)), (6, LV.a (At.ptr 2 0)), (7, LV.a (At.ptr 3 0)), (8, LV.a (At.int true IntKind.i64 a1)), (15, LV.a (At.int true IntKind.i64 a2)), (16, LV.a (At.int true IntKind.i64 a3)), (17, LV.a (At.bool true a4)), (19, LV.a (At.int true IntKind.i64 a5)), (20, LV.a (At.int true IntKind.i64 a6))] [BC.mk (Hd.mk 0 3 true none) [some (At.int true IntKind.u8 a7), some (At.int true IntKind.u8 a8), some (At.slc true 1 0 0 6 0 a9)], BC.mk (Hd.mk 0 0 true (some (Rw.mk 0 [Kd.int IntKind.u8, Kd.int IntKind.u8, Kd.int IntKind.u8, Kd.int IntKind.u8, Kd.int IntKind.u16, Kd.int IntKind.u8] a10 none))) [], BC.mk (Hd.mk 0 3 true none) [some (At.int true IntKind.i64 a11), some (At.int true IntKind.i64 a12), some At.nils], BC.mk (Hd.mk 0 3 false none) [some (At.int true IntKind.i64 a13), some (At.int true IntKind.i64 a14), some (At.vec 4 0 6)], BC.mk (Hd.mk 0 0 false (some (Rw.mk 0 [Kd.int IntKind.u8, Kd.int IntKind.u8, Kd.int IntKind.u8, Kd.int IntKind.u8, Kd.int IntKind.i64, Kd.int IntKind.u8] a15 none))) []] => some (fSized_l7475_T.mk a0 a1 a2 a3 a4 a5 a6 a7 a8 a9 a10 a11 a12 a13 a14 a15)
  | _ => none
def fSized_l7475_sum : V.Sum := loopS fSized_l7475_hd fSized_l7475_rd fSized_l7475_st 18446744073709551616 [X.e (2 : Nat)] [0, 1, 2, 3, 6, 7, 8, 9, 10, 15, 16, 17, 19, 20, 21, 27] [1, 3, 6, 7, 8, 15, 16, 17, 19, 20] [3, 4] [4] [] 2
theorem fSized_l7475_E : ∀ v, bodyF Try.prog tabFg1 (ntOf Try.prog 72) [0, 1, 2, 3, 6, 7, 8, 9, 10, 15, 16, 17, 19, 20, 21, 27] [1, 3, 6, 7, 8, 15, 16, 17, 19, 20] [] 2000 [3, 4] [4] fSized_l7475_code 29900 (fSized_l7475_hd v) = some ((fSized_l7475_st v).1, (fSized_l7475_st v).2.map fun q => (q.1, q.2.1, fSized_l7475_hd q.2.2)) := fun v => by kernel_rfl
set_option maxHeartbeats 2000000 in
theorem fSized_l7475_R : ∀ h v, fSized_l7475_rd h = some v → h = fSized_l7475_hd v := by
  intro h v e
  unfold fSized_l7475_rd at e
  split at e
  · simp only [Option.some.injEq] at e; subst e; rfl
  · cases e
set_option maxRecDepth 100000 in
theorem fSized_l7475_sok : SumOK Try.prog (ntOf Try.prog 72) [0, 1, 2, 3, 6, 7, 8, 9, 10, 15, 16, 17, 19, 20, 21, 27] (.block (blockOf (subs (bodyOf Try.prog 72) 1 7475)) (.loop fSized_l7475_code)) fSized_l7475_sum := loopS_ok tabFg1_ok follows fSized_l7475_E fSized_l7475_R (fun v => by kernel_rfl) (LOK_of _ _ (LOK_nil'))
noncomputable def fSized_l29_code : Go.Code := loopOf (subs (bodyOf Try.prog 72) 1 29)
structure fSized_l29_T where
  a0 : Int
  a1 : Int
  a2 : Int
  a3 : Int
  a4 : Int
  a5 : Nat
  a6 : List (List Int)
  a7 : Int
  a8 : Int
  a9 : Int
  a10 : Int
  a11 : List (List Int)
  deriving Inhabited
def fSized_l29_hd (v : fSized_l29_T) : HS := HS.mk [(nat_lit 1, LV.a (At.int true IntKind.i64 (fSized_l29_T.a0 v))), (nat_lit 3, LV.a (At.ptr (nat_lit 0) (nat_lit 0))), (nat_lit 6, LV.a (At.ptr (nat_lit 2) (nat_lit 0))), (nat_lit 7, LV.a (At.ptr (nat_lit 3) (nat_lit 0))), (nat_lit 15, LV.a (At.int true IntKind.i64 (fSized_l29_T.a1 v))), (nat_lit 16, LV.a (At.int true IntKind.i64 (fSized_l29_T.a2 v)))] [BC.mk (Hd.mk (nat_lit 0) (nat_lit 3) true none) [some (At.int true IntKind.u8 (fSized_l29_T.a3 v)), some (At.int true IntKind.u8 (fSized_l29_T.a4 v)), some (At.slc true (nat_lit 1) (nat_lit 0) (nat_lit 0) (nat_lit 6) (nat_lit 0) (fSized_l29_T.a5 v))], BC.mk (Hd.mk (nat_lit 0) (nat_lit 0) true (some (Rw.mk (nat_lit 0) [Kd.int IntKind.u8, Kd.int IntKind.u8, Kd.int IntKind.u8, Kd.int IntKind.u8, Kd.int IntKind.u16, Kd.int IntKind.u8] (fSized_l29_T.a6 v) none))) [], BC.mk (Hd.mk (nat_lit 0) (nat_lit 3) true none) [some (At.int true IntKind.i64 (fSized_l29_T.a7 v)), some (At.int true IntKind.i64 (fSized_l29_T.a8 v)), some At.nils], BC.mk (Hd.mk (nat_lit 0) (nat_lit 3) false none) [some (At.int true IntKind.i64 (fSized_l29_T.a9 v)), some (At.int true IntKind.i64 (fSized_l29_T.a10 v)), some (At.vec (nat_lit 4) (nat_lit 0) (nat_lit 6))], BC.mk (Hd.mk (nat_lit 0) (nat_lit 0) false (some (Rw.mk (nat_lit 0) [Kd.int IntKind.u8, Kd.int IntKind.u8, Kd.int IntKind.u8, Kd.int IntKind.u8, Kd.int IntKind.i64, Kd.int IntKind.u8] (fSized_l29_T.a11 v) none))) []]
def fSized_l29_s0 (v : fSized_l29_T) : Bool := decide (fSized_l29_T.a2 v < fSized_l29_T.a1 v)
def fSized_l29_s1 (v : fSized_l29_T) : Option (X × fSized_l7475_T) := lrun fSized_l7475_st (18446744073709551616 : Nat) (fSized_l7475_T.mk (fSized_l29_T.a0 v) (fSized_l29_T.a2 v) (fSized_l29_T.a1 v) (fSized_l29_T.a2 v) (fSized_l29_s0 v) (fSized_l29_T.a0 v) (0 : Int) (fSized_l29_T.a3 v) (fSized_l29_T.a4 v) (fSized_l29_T.a5 v) (fSized_l29_T.a6 v) (fSized_l29_T.a7 v) (fSized_l29_T.a8 v) (fSized_l29_T.a9 v) (fSized_l29_T.a10 v) (fSized_l29_T.a11 v))
def fSized_l29_st (v : fSized_l29_T) : List Prop × List (X × Bool × fSized_l29_T) := ([fSized_l29_s0 v = true → lok fSized_l7475_st (18446744073709551616 : Nat) (fSized_l7475_T.mk (fSized_l29_T.a0 v) (fSized_l29_T.a2 v) (fSized_l29_T.a1 v) (fSized_l29_T.a2 v) (fSized_l29_s0 v) (fSized_l29_T.a0 v) (0 : Int) (fSized_l29_T.a3 v) (fSized_l29_T.a4 v) (fSized_l29_T.a5 v) (fSized_l29_T.a6 v) (fSized_l29_T.a7 v) (fSized_l29_T.a8 v) (fSized_l29_T.a9 v) (fSized_l29_T.a10 v) (fSized_l29_T.a11 v))], [(X.e (0 : Nat), !fSized_l29_s0 v, fSized_l29_T.mk (fSized_l29_T.a0 v) (fSized_l29_T.a1 v) (fSized_l29_T.a2 v) (fSized_l29_T.a3 v) (fSized_l29_T.a4 v) (fSized_l29_T.a5 v) (fSized_l29_T.a6 v) (fSized_l29_T.a7 v) (fSized_l29_T.a8 v) (fSized_l29_T.a9 v) (fSized_l29_T.a10 v) (fSized_l29_T.a11 v)), (X.n, fSized_l29_s0 v && isX (X.e (2 : Nat)) (fSized_l29_s1 v), fSized_l29_T.mk (fSized_l7475_T.a0 (V.valOf (fSized_l29_s1 v))) (fSized_l7475_T.a2 (V.valOf (fSized_l29_s1 v))) (IntKind.wrap IntKind.i64 (fSized_l7475_T.a3 (V.valOf (fSized_l29_s1 v)) + (1 : Int))) (fSized_l29_T.a3 v) (fSized_l29_T.a4 v) (fSized_l29_T.a5 v) (fSized_l29_T.a6 v) (fSized_l29_T.a7 v) (fSized_l29_T.a8 v) (fSized_l7475_T.a13 (V.valOf (fSized_l29_s1 v))) (fSized_l7475_T.a14 (V.valOf (fSized_l29_s1 v))) (fSized_l7475_T.a15 (V.valOf (fSized_l29_s1 v))))])
def fSized_l29_rd : HS → Option fSized_l29_T
  | HS.mk [(1, LV.a (At.int true IntKind.i64 a0)), (3, LV.a (At.ptr 0 0)), (6, LV.a (At.ptr 2 0)), (7, LV.a (At.ptr 3 0)), (15, LV.a (At.int true IntKind.i64 a1)), (16, LV.a (At.int true IntKind.i64 a2))] [BC.mk (Hd.mk 0 3 true none) [some (At.int true IntKind.u8 a3), some (At.int true IntKind.u8 a4), some (At.slc true 1 0 0 6 0 a5)], BC.mk (Hd.mk 0 0 true (some (Rw.mk 0 [Kd.int IntKind.u8, Kd.int IntKind.u8, Kd.int IntKind.u8, Kd.int IntKind.u8, Kd.int IntKind.u16, Kd.int IntKind.u8] a6 none))) [], BC.mk (Hd.mk 0 3 true none) [some (At.int true IntKind.i64 a7), some (At.int true IntKind.i64 a8), some At.nils], BC.mk (Hd.mk 0 3 false none) [some (At.int true IntKind.i64 a9), some (At.int true IntKind.i64 a10), some (At.vec 4 0 6)], BC.mk (Hd.mk 0 0 false (some (Rw.mk 0 [Kd.int IntKind.u8, Kd.int IntKind.u8, Kd.int IntKind.u8, Kd.int IntKind.u8, Kd.int IntKind.i64, Kd.int IntKind.u8] a11 none))) []] => some (fSized_l29_T.mk a0 a1 a2 a3 a4 a5 a6 a7 a8 a9 a10 a11)
  | _ => none
def fSized_l29_sum : V.Sum := loopS fSized_l29_hd fSized_l29_rd fSized_l29_st 18446744073709551616 [X.e (0 : Nat)] [0, 1, 2, 3, 6, 7, 8, 9, 10, 15, 16, 17, 19, 20, 21, 27] [1, 3, 6, 7, 15, 16] [3, 4] [4] [] 0
theorem fSized_l29_E : ∀ v, bodyF Try.prog tabFg1 (ntOf Try.prog 72) [0, 1, 2, 3, 6, 7, 8, 9, 10, 15, 16, 17, 19, 20, 21, 27] [1, 3, 6, 7, 15, 16] [(7475, fSized_l7475_sum)] 2000 [3, 4] [4] fSized_l29_code 116 (fSized_l29_hd v) = some ((fSized_l29_st v).1, (fSized_l29_st v).2.map fun q => (q.1, q.2.1, fSized_l29_hd q.2.2)) := fun v => by kernel_rfl
set_option maxHeartbeats 2000000 in
theorem fSized_l29_R : ∀ h v, fSized_l29_rd h = some v → h = fSized_l29_hd v := by
  intro h v e
  unfold fSized_l29_rd at e
  split at e
  · simp only [Option.some.injEq] at e; subst e; rfl
  · cases e
set_option maxRecDepth 100000 in
theorem fSized_l29_sok : SumOK Try.prog (ntOf Try.prog 72) [0, 1, 2, 3, 6, 7, 8, 9, 10, 15, 16, 17, 19, 20, 21, 27] (.block (blockOf (subs (bodyOf Try.prog 72) 1 29)) (.loop fSized_l29_code)) fSized_l29_sum := loopS_ok tabFg1_ok follows fSized_l29_E fSized_l29_R (fun v => by kernel_rfl) (LOK_of _ _ (LOK_cons (show subs fSized_l29_code 116 7475 = [.block (blockOf (subs (bodyOf Try.prog 72) 1 7475)) (.loop fSized_l7475_code)] from by kernel_rfl) fSized_l7475_sok (LOK_nil')))
def fSized_0 (sw : Int) (sh : Int) (ns : Nat) (x1 : Int) (x2 : Int) (s : List (List Int)) : Int := fSized_l29_T.a9 (V.valOf (lrun fSized_l29_st (18446744073709551616 : Nat) (fSized_l29_T.mk x1 x2 (0 : Int) sw sh ns s (0 : Int) (0 : Int) (fNew_s2 x1) (fNew_s5 x2) (fNew_0 x1 x2 (0 : Int) (0 : Int) (0 : Int) (0 : Int) (65535 : Int) (0 : Int)))))
def fSized_1 (sw : Int) (sh : Int) (ns : Nat) (x1 : Int) (x2 : Int) (s : List (List Int)) : Int := fSized_l29_T.a10 (V.valOf (lrun fSized_l29_st (18446744073709551616 : Nat) (fSized_l29_T.mk x1 x2 (0 : Int) sw sh ns s (0 : Int) (0 : Int) (fNew_s2 x1) (fNew_s5 x2) (fNew_0 x1 x2 (0 : Int) (0 : Int) (0 : Int) (0 : Int) (65535 : Int) (0 : Int)))))
def fSized_2 (sw : Int) (sh : Int) (ns : Nat) (x1 : Int) (x2 : Int) (s : List (List Int)) : List (List Int) := fSized_l29_T.a11 (V.valOf (lrun fSized_l29_st (18446744073709551616 : Nat) (fSized_l29_T.mk x1 x2 (0 : Int) sw sh ns s (0 : Int) (0 : Int) (fNew_s2 x1) (fNew_s5 x2) (fNew_0 x1 x2 (0 : Int) (0 : Int) (0 : Int) (0 : Int) (65535 : Int) (0 : Int)))))
def fSized_s0 (x1 : Int) (x2 : Int) : Int := bMul64_0 (IntKind.wrap IntKind.u64 (Int.ofNat (1 : Nat))) (IntKind.wrap IntKind.u64 (fNew_s6 x1 x2))
def fSized_s1 (x1 : Int) (x2 : Int) : Nat := sRep_s3 (fNew_s6 x1 x2) (0 : Int) (0 : Int) (0 : Int) (0 : Int) (65535 : Int) (0 : Int)
def fSized_o (sw : Int) (sh : Int) (ns : Nat) (x1 : Int) (x2 : Int) (r0 : Bool) (s : List (List Int)) : List Prop := [decide (fNew_s6 x1 x2 < (0 : Int)) = false, (bif decide ((0 : Int) < fSized_s0 x1 x2) then true else decide ((9223372036854775807 : Int) < sRep_s1 (fNew_s6 x1 x2))) = false, (0 : Int) ≤ IntKind.wrap IntKind.i64 (sRep_s1 (fNew_s6 x1 x2)) ∧ IntKind.wrap IntKind.i64 (sRep_s1 (fNew_s6 x1 x2)) = IntKind.wrap IntKind.i64 (sRep_s1 (fNew_s6 x1 x2)) ∧ IntKind.wrap IntKind.i64 (sRep_s1 (fNew_s6 x1 x2)) * Int.ofNat (24 : Nat) ≤ (70368744177664 : Int), lok sRep_l254_st (18446744073709551616 : Nat) (sRep_l254_T.mk (Int.ofNat (fSized_s1 x1 x2)) (List.take (0 : Nat) (sRep_s2 (fNew_s6 x1 x2)) ++ List.take (List.length (sRep_s2 (fNew_s6 x1 x2))) (sRep_s0 (0 : Int) (0 : Int) (0 : Int) (0 : Int) (65535 : Int) (0 : Int)) ++ List.drop ((0 : Nat) + fSized_s1 x1 x2) (sRep_s2 (fNew_s6 x1 x2)))), lok fSized_l29_st (18446744073709551616 : Nat) (fSized_l29_T.mk x1 x2 (0 : Int) sw sh ns s (0 : Int) (0 : Int) (fNew_s2 x1) (fNew_s5 x2) (fNew_0 x1 x2 (0 : Int) (0 : Int) (0 : Int) (0 : Int) (65535 : Int) (0 : Int)))]
theorem fSized_p (sw : Int) (sh : Int) (ns : Nat) (x1 : Int) (x2 : Int) (r0 : Bool) (s : List (List Int)) : evG Try.prog tabFg1 2000 72 [0, 1, 2, 3, 6, 7, 8, 9, 10, 15, 16, 17, 19, 20, 21, 27] [(29, fSized_l29_sum), (7475, fSized_l7475_sum)] [] [.g [.int true .u8 sw, .int true .u8 sh, .slc true 0 0 0 6 0 ns], .a (.int true .i64 x1), .a (.int true .i64 x2)] [⟨⟨0, 0, r0, some ⟨0, [.int .u8, .int .u8, .int .u8, .int .u8, .int .u16, .int .u8], s, none⟩⟩, []⟩] = some (fSized_o sw sh ns x1 x2 r0 s, LV.g [At.int true IntKind.i64 (fSized_0 sw sh ns x1 x2 s), At.int true IntKind.i64 (fSized_1 sw sh ns x1 x2 s), At.vec (nat_lit 1) (nat_lit 2) (nat_lit 6)], [none, some (BC.mk (Hd.mk (nat_lit 2) (nat_lit 0) false (some (Rw.mk (nat_lit 0) [Kd.int IntKind.u8, Kd.int IntKind.u8, Kd.int IntKind.u8, Kd.int IntKind.u8, Kd.int IntKind.i64, Kd.int IntKind.u8] (fSized_2 sw sh ns x1 x2 s) none))) [])]) := by kernel_rfl
def fSized_c : Con
  | [.g [.int true .u8 sw, .int true .u8 sh, .slc true 0 0 0 6 0 ns], .a (.int true .i64 x1), .a (.int true .i64 x2)], [⟨⟨0, 0, r0, some ⟨0, [.int .u8, .int .u8, .int .u8, .int .u8, .int .u16, .int .u8], s, none⟩⟩, []⟩] => some (fSized_o sw sh ns x1 x2 r0 s, LV.g [At.int true IntKind.i64 (fSized_0 sw sh ns x1 x2 s), At.int true IntKind.i64 (fSized_1 sw sh ns x1 x2 s), At.vec (nat_lit 1) (nat_lit 2) (nat_lit 6)], [none, some (BC.mk (Hd.mk (nat_lit 2) (nat_lit 0) false (some (Rw.mk (nat_lit 0) [Kd.int IntKind.u8, Kd.int IntKind.u8, Kd.int IntKind.u8, Kd.int IntKind.u8, Kd.int IntKind.i64, Kd.int IntKind.u8] (fSized_2 sw sh ns x1 x2 s) none))) [])])
  | _, _ => none
theorem fSized_ok : ConOK Try.prog 72 (normC fSized_c) := normC_ok (by
  intro args bs obs lv out h ho φ vs w may ha hM
  unfold fSized_c at h
  split at h
  · simp only [Option.some.injEq, Prod.mk.injEq] at h
    obtain ⟨rfl, rfl, rfl⟩ := h
    rename_i sw sh ns x1 x2 r0 s
    exact evG_okL' tabFg1_ok follows (LOK_cons (show subs (bodyOf Try.prog 72) 1 29 = [.block (blockOf (subs (bodyOf Try.prog 72) 1 29)) (.loop fSized_l29_code)] from by kernel_rfl) fSized_l29_sok (LOK_cons (show subs (bodyOf Try.prog 72) 1 7475 = [.block (blockOf (subs (bodyOf Try.prog 72) 1 7475)) (.loop fSized_l7475_code)] from by kernel_rfl) fSized_l7475_sok (LOK_nil'))) _ _ _ _ _ (fSized_p sw sh ns x1 x2 r0 s) ho φ vs w may ha hM
  · cases h)
theorem fSized_en : Enters Try.prog 72 := fun args => by kernel_rfl
-- 3979 27 16 ms

def tabFg2 : Tab := (72, normC fSized_c) :: tabFg1
theorem tabFg2_ok : TOK Try.prog tabFg2 := TOK.cons fSized_en fSized_ok (tabFg1_ok)

end Go.Proofs.Ytcdejlgophpdjaa
end

section
namespace Go.Proofs.Ytcdejlgophpdjaa
open Go Go.RowKit Go.Proofs.Ytcdejlgophpdjaa.V
set_option linter.unusedVariables false

/-! (azulejo/azulejolaw20.Small).Frame -/
def fSmF_s0 (sw : Int) : Int := IntKind.wrap IntKind.i64 ((1 : Int) + IntKind.wrap IntKind.i64 (Int.tmod sw (20 : Int)))
def fSmF_s1 (sh : Int) : Int := IntKind.wrap IntKind.i64 ((1 : Int) + IntKind.wrap IntKind.i64 (Int.tmod sh (20 : Int)))
def fSmF_0 (sw : Int) (sh : Int) (ns : Nat) (s : List (List Int)) : Int := fSized_0 sw sh ns (fSmF_s0 sw) (fSmF_s1 sh) s
def fSmF_1 (sw : Int) (sh : Int) (ns : Nat) (s : List (List Int)) : Int := fSized_1 sw sh ns (fSmF_s0 sw) (fSmF_s1 sh) s
def fSmF_2 (sw : Int) (sh : Int) (ns : Nat) (s : List (List Int)) : List (List Int) := fSized_2 sw sh ns (fSmF_s0 sw) (fSmF_s1 sh) s
def fSmF_o (sw : Int) (sh : Int) (ns : Nat) (r0 : Bool) (s : List (List Int)) : List Prop := [decide (fNew_s6 (fSmF_s0 sw) (fSmF_s1 sh) < (0 : Int)) = false, (bif decide ((0 : Int) < fSized_s0 (fSmF_s0 sw) (fSmF_s1 sh)) then true else decide ((9223372036854775807 : Int) < sRep_s1 (fNew_s6 (fSmF_s0 sw) (fSmF_s1 sh)))) = false, (0 : Int) ≤ IntKind.wrap IntKind.i64 (sRep_s1 (fNew_s6 (fSmF_s0 sw) (fSmF_s1 sh))) ∧ IntKind.wrap IntKind.i64 (sRep_s1 (fNew_s6 (fSmF_s0 sw) (fSmF_s1 sh))) = IntKind.wrap IntKind.i64 (sRep_s1 (fNew_s6 (fSmF_s0 sw) (fSmF_s1 sh))) ∧ IntKind.wrap IntKind.i64 (sRep_s1 (fNew_s6 (fSmF_s0 sw) (fSmF_s1 sh))) * Int.ofNat (24 : Nat) ≤ (70368744177664 : Int), lok sRep_l254_st (18446744073709551616 : Nat) (sRep_l254_T.mk (Int.ofNat (fSized_s1 (fSmF_s0 sw) (fSmF_s1 sh))) (List.take (0 : Nat) (sRep_s2 (fNew_s6 (fSmF_s0 sw) (fSmF_s1 sh))) ++ List.take (List.length (sRep_s2 (fNew_s6 (fSmF_s0 sw) (fSmF_s1 sh)))) (sRep_s0 (0 : Int) (0 : Int) (0 : Int) (0 : Int) (65535 : Int) (0 : Int)) ++ List.drop ((0 : Nat) + fSized_s1 (fSmF_s0 sw) (fSmF_s1 sh)) (sRep_s2 (fNew_s6 (fSmF_s0 sw) (fSmF_s1 sh))))), lok fSized_l29_st (18446744073709551616 : Nat) (fSized_l29_T.mk (fSmF_s0 sw) (fSmF_s1 sh) (0 : Int) sw sh ns s (0 : Int) (0 : Int) (fNew_s2 (fSmF_s0 sw)) (fNew_s5 (fSmF_s1 sh)) (fNew_0 (fSmF_s0 sw) (fSmF_s1 sh) (0 : Int) (0 : Int) (0 : Int) (0 : Int) (65535 : Int) (0 : Int)))]
theorem fSmF_p (sw : Int) (sh : Int) (ns : Nat) (r0 : Bool) (s : List (List Int)) : evG Try.prog tabFg2 2000 61 [0, 1, 2] [] [] [.g [.int true .u8 sw, .int true .u8 sh, .slc true 0 0 0 6 0 ns]] [⟨⟨0, 0, r0, some ⟨0, [.int .u8, .int .u8, .int .u8, .int .u8, .int .u16, .int .u8], s, none⟩⟩, []⟩] = some (fSmF_o sw sh ns r0 s, LV.g [At.int true IntKind.i64 (fSmF_0 sw sh ns s), At.int true IntKind.i64 (fSmF_1 sw sh ns s), At.vec (nat_lit 1) (nat_lit 2) (nat_lit 6)], [none, some (BC.mk (Hd.mk (nat_lit 2) (nat_lit 0) false (some (Rw.mk (nat_lit 0) [Kd.int IntKind.u8, Kd.int IntKind.u8, Kd.int IntKind.u8, Kd.int IntKind.u8, Kd.int IntKind.i64, Kd.int IntKind.u8] (fSmF_2 sw sh ns s) none))) [])]) := by kernel_rfl
def fSmF_c : Con
  | [.g [.int true .u8 sw, .int true .u8 sh, .slc true 0 0 0 6 0 ns]], [⟨⟨0, 0, r0, some ⟨0, [.int .u8, .int .u8, .int .u8, .int .u8, .int .u16, .int .u8], s, none⟩⟩, []⟩] => some (fSmF_o sw sh ns r0 s, LV.g [At.int true IntKind.i64 (fSmF_0 sw sh ns s), At.int true IntKind.i64 (fSmF_1 sw sh ns s), At.vec (nat_lit 1) (nat_lit 2) (nat_lit 6)], [none, some (BC.mk (Hd.mk (nat_lit 2) (nat_lit 0) false (some (Rw.mk (nat_lit 0) [Kd.int IntKind.u8, Kd.int IntKind.u8, Kd.int IntKind.u8, Kd.int IntKind.u8, Kd.int IntKind.i64, Kd.int IntKind.u8] (fSmF_2 sw sh ns s) none))) [])])
  | _, _ => none
theorem fSmF_ok : ConOK Try.prog 61 (normC fSmF_c) := normC_ok (by
  intro args bs obs lv out h ho φ vs w may ha hM
  unfold fSmF_c at h
  split at h
  · simp only [Option.some.injEq, Prod.mk.injEq] at h
    obtain ⟨rfl, rfl, rfl⟩ := h
    rename_i sw sh ns r0 s
    exact evG_ok tabFg2_ok follows _ _ _ _ _ (fSmF_p sw sh ns r0 s) ho φ vs w may ha hM
  · cases h)
theorem fSmF_en : Enters Try.prog 61 := fun args => by kernel_rfl
-- 105 9 7 ms

def tabFg3 : Tab := (61, normC fSmF_c) :: tabFg2
theorem tabFg3_ok : TOK Try.prog tabFg3 := TOK.cons fSmF_en fSmF_ok (tabFg2_ok)

end Go.Proofs.Ytcdejlgophpdjaa
end

section
namespace Go.Proofs.Ytcdejlgophpdjaa
open Go Go.RowKit Go.Proofs.Ytcdejlgophpdjaa.V

theorem rowT_en : Enters Try.prog 2 := fun args => by kernel_rfl
def tabTa0 : Tab := (2, rowC [(145, (4, 6, 64))]) :: tabFg3
theorem tabTa0_ok : TOK Try.prog tabTa0 := TOK.cons rowT_en rowC_con tabFg3_ok

end Go.Proofs.Ytcdejlgophpdjaa
end

section
namespace Go.Proofs.Ytcdejlgophpdjaa
open Go Go.RowKit Go.Proofs.Ytcdejlgophpdjaa.V
set_option linter.unusedVariables false

/-! azulejo/tile.Place -/
def tPlace_s0 : Int := Int.ofNat ((2 : Nat) ^ IntKind.bits IntKind.i64)
def tPlace_s1 : Nat := Int.toNat ((7 : Int) % tPlace_s0)
def tPlace_0 (x0 : Int) (x1 : Int) : Int := IntKind.wrap IntKind.i64 (IntKind.wrap IntKind.i64 (IntKind.wrap IntKind.i64 (Int.ofNat (Int.toNat (x1 % tPlace_s0) &&& tPlace_s1)) * (8 : Int)) + IntKind.wrap IntKind.i64 (Int.ofNat (Int.toNat (x0 % tPlace_s0) &&& tPlace_s1)))
theorem tPlace_p (x0 : Int) (x1 : Int) : evG Try.prog tabTa0 2000 77 [0, 1, 4] [] [] [.a (.int true .i64 x0), .a (.int true .i64 x1)] [] = some ([], LV.a (At.int true IntKind.i64 (tPlace_0 x0 x1)), []) := by kernel_rfl
def tPlace_c : Con
  | [.a (.int true .i64 x0), .a (.int true .i64 x1)], [] => some ([], LV.a (At.int true IntKind.i64 (tPlace_0 x0 x1)), [])
  | _, _ => none
theorem tPlace_ok : ConOK Try.prog 77 (normC tPlace_c) := normC_ok (by
  intro args bs obs lv out h ho φ vs w may ha hM
  unfold tPlace_c at h
  split at h
  · simp only [Option.some.injEq, Prod.mk.injEq] at h
    obtain ⟨rfl, rfl, rfl⟩ := h
    rename_i x0 x1
    exact evG_ok tabTa0_ok follows _ _ _ _ _ (tPlace_p x0 x1) ho φ vs w may ha hM
  · cases h)
theorem tPlace_en : Enters Try.prog 77 := fun args => by kernel_rfl
-- 50 3 5 ms

/-! (*azulejo/tile.Tile).Right$1 -/
def tRt1_s0 (x0 : Int) : Int := IntKind.wrap IntKind.i64 (x0 + (8 : Int))
def tRt1_0 (x0 : Int) (x1 : Int) : Bool := bif decide ((0 : Int) ≤ x0) then bif decide (x0 < (64 : Int)) then bif Int.tmod x0 (8 : Int) == (0 : Int) then bif decide (x0 ≤ x1) then decide (x1 ≤ tRt1_s0 x0) else false else false else false else false
theorem tRt1_p (x0 : Int) (x1 : Int) : evG Try.prog tabTa0 2000 123 [0, 1, 4] [] [] [.a (.int true .i64 x0), .a (.int true .i64 x1)] [] = some ([], LV.a (At.bool true (tRt1_0 x0 x1)), []) := by kernel_rfl
def tRt1_c : Con
  | [.a (.int true .i64 x0), .a (.int true .i64 x1)], [] => some ([], LV.a (At.bool true (tRt1_0 x0 x1)), [])
  | _, _ => none
theorem tRt1_ok : ConOK Try.prog 123 (normC tRt1_c) := normC_ok (by
  intro args bs obs lv out h ho φ vs w may ha hM
  unfold tRt1_c at h
  split at h
  · simp only [Option.some.injEq, Prod.mk.injEq] at h
    obtain ⟨rfl, rfl, rfl⟩ := h
    rename_i x0 x1
    exact evG_ok tabTa0_ok follows _ _ _ _ _ (tRt1_p x0 x1) ho φ vs w may ha hM
  · cases h)
theorem tRt1_en : Enters Try.prog 123 := fun args => by kernel_rfl
-- 137 19 4 ms

/-! (*azulejo/tile.Tile).Has -/
def tHas_0 (x1 : Int) (x2 : Int) (c0 : Int) (c1 : Int) (c2 : Int) (c3 : Int) : Bool := bif decide (c0 ≤ x1) then bif decide (x1 < c2) then bif decide (c1 ≤ x2) then decide (x2 < c3) else false else false else false
theorem tHas_p (x1 : Int) (x2 : Int) (r0 : Bool) (t : List (List Int)) (c0 : Int) (c1 : Int) (c2 : Int) (c3 : Int) : evG Try.prog tabTa0 2000 76 [0, 1, 2, 6] [] [] [.a (.ptr 0 0), .a (.int true .i64 x1), .a (.int true .i64 x2)] (padBs [⟨⟨0, 388, r0, some ⟨4, [.int .u8, .int .u8, .int .u8, .int .u8, .int .i64, .int .u8], t, some 64⟩⟩, [some (.int true .i64 c0), some (.int true .i64 c1), some (.int true .i64 c2), some (.int true .i64 c3)]⟩]) = some ([], LV.a (At.bool true (tHas_0 x1 x2 c0 c1 c2 c3)), padOut [none]) := by kernel_rfl
def tHas_c0 : Con
  | [.a (.ptr 0 0), .a (.int true .i64 x1), .a (.int true .i64 x2)], [⟨⟨0, 388, r0, some ⟨4, [.int .u8, .int .u8, .int .u8, .int .u8, .int .i64, .int .u8], t, some 64⟩⟩, [some (.int true .i64 c0), some (.int true .i64 c1), some (.int true .i64 c2), some (.int true .i64 c3)]⟩] => some ([], LV.a (At.bool true (tHas_0 x1 x2 c0 c1 c2 c3)), [none])
  | _, _ => none
def tHas_c : Con := packC tHas_c0
theorem tHas_ok : ConOK Try.prog 76 (normC tHas_c) := normC_ok (packC_ok (by
  intro args bs obs lv out h ho φ vs w may ha hM
  unfold tHas_c0 at h
  split at h
  · simp only [Option.some.injEq, Prod.mk.injEq] at h
    obtain ⟨rfl, rfl, rfl⟩ := h
    rename_i x1 x2 r0 t c0 c1 c2 c3
    exact evG_ok tabTa0_ok follows _ _ _ _ _ (tHas_p x1 x2 r0 t c0 c1 c2 c3) ho φ vs w may ha hM
  · cases h))
theorem tHas_en : Enters Try.prog 76 := fun args => by kernel_rfl
-- 271 22 3 ms

/-! (*azulejo/tile.Tile).Has -/
theorem tHasN_p (x1 : Int) (x2 : Int) : evG Try.prog tabTa0 2000 76 [0, 1, 2, 6] [] [] [.a .nil, .a (.int true .i64 x1), .a (.int true .i64 x2)] [] = some ([], LV.a (At.bool false false), []) := by kernel_rfl
def tHasN_c : Con
  | [.a .nil, .a (.int true .i64 x1), .a (.int true .i64 x2)], [] => some ([], LV.a (At.bool false false), [])
  | _, _ => none
theorem tHasN_ok : ConOK Try.prog 76 (normC tHasN_c) := normC_ok (by
  intro args bs obs lv out h ho φ vs w may ha hM
  unfold tHasN_c at h
  split at h
  · simp only [Option.some.injEq, Prod.mk.injEq] at h
    obtain ⟨rfl, rfl, rfl⟩ := h
    rename_i x1 x2
    exact evG_ok tabTa0_ok follows _ _ _ _ _ (tHasN_p x1 x2) ho φ vs w may ha hM
  · cases h)
theorem tHasN_en : Enters Try.prog 76 := fun args => by kernel_rfl
-- 112 2 0 ms

/-! azulejo/tile.Load$1 -/
def tL1_0 (x0 : Int) (x1 : Int) (x2 : Int) (w0 : Int) (h0 : Int) (l : List (List Int)) (t : List (List Int)) : List (List Int) := List.set t (Int.toNat x2) [fAt_0 w0 h0 x0 x1 l, fAt_1 w0 h0 x0 x1 l, fAt_2 w0 h0 x0 x1 l, fAt_3 w0 h0 x0 x1 l, fAt_4 w0 h0 x0 x1 l, fAt_5 w0 h0 x0 x1 l]
def tL1_o (x0 : Int) (x1 : Int) (x2 : Int) (f0 : Bool) (w0 : Int) (h0 : Int) (r0 : Bool) (l : List (List Int)) (f1 : Bool) (t : List (List Int)) (c0 : Int) (c1 : Int) (c2 : Int) (c3 : Int) : List Prop := [(!fAt_s1 w0 h0 x0 x1 l) = true → (0 : Int) ≤ fAt_s0 w0 x0 x1 ∧ fAt_s0 w0 x0 x1 < Int.ofNat (List.length l), (0 : Int) ≤ x2 ∧ x2 < Int.ofNat (64 : Nat)]
theorem tL1_p (x0 : Int) (x1 : Int) (x2 : Int) (f0 : Bool) (w0 : Int) (h0 : Int) (r0 : Bool) (l : List (List Int)) (f1 : Bool) (t : List (List Int)) (c0 : Int) (c1 : Int) (c2 : Int) (c3 : Int) : evG Try.prog tabTa0 2000 121 [0, 1, 2, 3, 4] [] [3] [.a (.int true .i64 x0), .a (.int true .i64 x1), .a (.int true .i64 x2), .a (.ptr 0 0), .a (.ptr 2 0)] (padBs [⟨⟨0, 3, f0, none⟩, [some (.int true .i64 w0), some (.int true .i64 h0), some (.vec 1 0 6)]⟩, ⟨⟨0, 0, r0, some ⟨0, [.int .u8, .int .u8, .int .u8, .int .u8, .int .i64, .int .u8], l, none⟩⟩, []⟩, ⟨⟨0, 1, f1, none⟩, [some (.ptr 3 0)]⟩, ⟨⟨0, 388, false, some ⟨4, [.int .u8, .int .u8, .int .u8, .int .u8, .int .i64, .int .u8], t, some 64⟩⟩, [some (.int true .i64 c0), some (.int true .i64 c1), some (.int true .i64 c2), some (.int true .i64 c3)]⟩]) = some (tL1_o x0 x1 x2 f0 w0 h0 r0 l f1 t c0 c1 c2 c3, LV.t [], padOut [none, none, none, some (BC.mk (Hd.mk (nat_lit 0) (nat_lit 388) false (some (Rw.mk (nat_lit 4) [Kd.int IntKind.u8, Kd.int IntKind.u8, Kd.int IntKind.u8, Kd.int IntKind.u8, Kd.int IntKind.i64, Kd.int IntKind.u8] (tL1_0 x0 x1 x2 w0 h0 l t) (some (nat_lit 64))))) [some (At.int true IntKind.i64 c0), some (At.int true IntKind.i64 c1), some (At.int true IntKind.i64 c2), some (At.int true IntKind.i64 c3)])]) := by kernel_rfl
def tL1_c0 : Con
  | [.a (.int true .i64 x0), .a (.int true .i64 x1), .a (.int true .i64 x2), .a (.ptr 0 0), .a (.ptr 2 0)], [⟨⟨0, 3, f0, none⟩, [some (.int true .i64 w0), some (.int true .i64 h0), some (.vec 1 0 6)]⟩, ⟨⟨0, 0, r0, some ⟨0, [.int .u8, .int .u8, .int .u8, .int .u8, .int .i64, .int .u8], l, none⟩⟩, []⟩, ⟨⟨0, 1, f1, none⟩, [some (.ptr 3 0)]⟩, ⟨⟨0, 388, false, some ⟨4, [.int .u8, .int .u8, .int .u8, .int .u8, .int .i64, .int .u8], t, some 64⟩⟩, [some (.int true .i64 c0), some (.int true .i64 c1), some (.int true .i64 c2), some (.int true .i64 c3)]⟩] => some (tL1_o x0 x1 x2 f0 w0 h0 r0 l f1 t c0 c1 c2 c3, LV.t [], [none, none, none, some (BC.mk (Hd.mk (nat_lit 0) (nat_lit 388) false (some (Rw.mk (nat_lit 4) [Kd.int IntKind.u8, Kd.int IntKind.u8, Kd.int IntKind.u8, Kd.int IntKind.u8, Kd.int IntKind.i64, Kd.int IntKind.u8] (tL1_0 x0 x1 x2 w0 h0 l t) (some (nat_lit 64))))) [some (At.int true IntKind.i64 c0), some (At.int true IntKind.i64 c1), some (At.int true IntKind.i64 c2), some (At.int true IntKind.i64 c3)])])
  | _, _ => none
def tL1_c : Con := packC tL1_c0
theorem tL1_ok : ConOK Try.prog 121 (normC tL1_c) := normC_ok (packC_ok (by
  intro args bs obs lv out h ho φ vs w may ha hM
  unfold tL1_c0 at h
  split at h
  · simp only [Option.some.injEq, Prod.mk.injEq] at h
    obtain ⟨rfl, rfl, rfl⟩ := h
    rename_i x0 x1 x2 f0 w0 h0 r0 l f1 t c0 c1 c2 c3
    exact evG_ok tabTa0_ok follows _ _ _ _ _ (tL1_p x0 x1 x2 f0 w0 h0 r0 l f1 t c0 c1 c2 c3) ho φ vs w may ha hM
  · cases h))
theorem tL1_en : Enters Try.prog 121 := fun args => by kernel_rfl
-- 4120 4494 5 ms

/-! (*azulejo/tile.Tile).Store$1 -/
def tS1_0 (x0 : Int) (x1 : Int) (x2 : Int) (w0 : Int) (h0 : Int) (l : List (List Int)) (t : List (List Int)) : List (List Int) := fSet_0 w0 h0 x0 x1 (rget t (Int.toNat x2) (0 : Nat)) (rget t (Int.toNat x2) (1 : Nat)) (rget t (Int.toNat x2) (2 : Nat)) (rget t (Int.toNat x2) (3 : Nat)) (rget t (Int.toNat x2) (4 : Nat)) (rget t (Int.toNat x2) (5 : Nat)) l
def tS1_o (x0 : Int) (x1 : Int) (x2 : Int) (f0 : Bool) (w0 : Int) (h0 : Int) (l : List (List Int)) (f1 : Bool) (r0 : Bool) (t : List (List Int)) (c0 : Int) (c1 : Int) (c2 : Int) (c3 : Int) : List Prop := [(0 : Int) ≤ x2 ∧ x2 < Int.ofNat (64 : Nat), fSet_s1 w0 h0 x0 x1 l = true → (0 : Int) ≤ fSet_s0 w0 x0 x1 ∧ fSet_s0 w0 x0 x1 < Int.ofNat (List.length l)]
theorem tS1_p (x0 : Int) (x1 : Int) (x2 : Int) (f0 : Bool) (w0 : Int) (h0 : Int) (l : List (List Int)) (f1 : Bool) (r0 : Bool) (t : List (List Int)) (c0 : Int) (c1 : Int) (c2 : Int) (c3 : Int) : evG Try.prog tabTa0 2000 122 [0, 1, 2, 3, 4] [] [1] [.a (.int true .i64 x0), .a (.int true .i64 x1), .a (.int true .i64 x2), .a (.ptr 0 0), .a (.ptr 2 0)] (padBs [⟨⟨0, 3, f0, none⟩, [some (.int true .i64 w0), some (.int true .i64 h0), some (.vec 1 0 6)]⟩, ⟨⟨0, 0, false, some ⟨0, [.int .u8, .int .u8, .int .u8, .int .u8, .int .i64, .int .u8], l, none⟩⟩, []⟩, ⟨⟨0, 1, f1, none⟩, [some (.ptr 3 0)]⟩, ⟨⟨0, 388, r0, some ⟨4, [.int .u8, .int .u8, .int .u8, .int .u8, .int .i64, .int .u8], t, some 64⟩⟩, [some (.int true .i64 c0), some (.int true .i64 c1), some (.int true .i64 c2), some (.int true .i64 c3)]⟩]) = some (tS1_o x0 x1 x2 f0 w0 h0 l f1 r0 t c0 c1 c2 c3, LV.t [], padOut [none, some (BC.mk (Hd.mk (nat_lit 0) (nat_lit 0) false (some (Rw.mk (nat_lit 0) [Kd.int IntKind.u8, Kd.int IntKind.u8, Kd.int IntKind.u8, Kd.int IntKind.u8, Kd.int IntKind.i64, Kd.int IntKind.u8] (tS1_0 x0 x1 x2 w0 h0 l t) none))) []), none, none]) := by kernel_rfl
def tS1_c0 : Con
  | [.a (.int true .i64 x0), .a (.int true .i64 x1), .a (.int true .i64 x2), .a (.ptr 0 0), .a (.ptr 2 0)], [⟨⟨0, 3, f0, none⟩, [some (.int true .i64 w0), some (.int true .i64 h0), some (.vec 1 0 6)]⟩, ⟨⟨0, 0, false, some ⟨0, [.int .u8, .int .u8, .int .u8, .int .u8, .int .i64, .int .u8], l, none⟩⟩, []⟩, ⟨⟨0, 1, f1, none⟩, [some (.ptr 3 0)]⟩, ⟨⟨0, 388, r0, some ⟨4, [.int .u8, .int .u8, .int .u8, .int .u8, .int .i64, .int .u8], t, some 64⟩⟩, [some (.int true .i64 c0), some (.int true .i64 c1), some (.int true .i64 c2), some (.int true .i64 c3)]⟩] => some (tS1_o x0 x1 x2 f0 w0 h0 l f1 r0 t c0 c1 c2 c3, LV.t [], [none, some (BC.mk (Hd.mk (nat_lit 0) (nat_lit 0) false (some (Rw.mk (nat_lit 0) [Kd.int IntKind.u8, Kd.int IntKind.u8, Kd.int IntKind.u8, Kd.int IntKind.u8, Kd.int IntKind.i64, Kd.int IntKind.u8] (tS1_0 x0 x1 x2 w0 h0 l t) none))) []), none, none])
  | _, _ => none
def tS1_c : Con := packC tS1_c0
theorem tS1_ok : ConOK Try.prog 122 (normC tS1_c) := normC_ok (packC_ok (by
  intro args bs obs lv out h ho φ vs w may ha hM
  unfold tS1_c0 at h
  split at h
  · simp only [Option.some.injEq, Prod.mk.injEq] at h
    obtain ⟨rfl, rfl, rfl⟩ := h
    rename_i x0 x1 x2 f0 w0 h0 l f1 r0 t c0 c1 c2 c3
    exact evG_ok tabTa0_ok follows _ _ _ _ _ (tS1_p x0 x1 x2 f0 w0 h0 l f1 r0 t c0 c1 c2 c3) ho φ vs w may ha hM
  · cases h))
theorem tS1_en : Enters Try.prog 122 := fun args => by kernel_rfl
-- 174 2 5 ms

def tabTa1 : Tab := (77, normC tPlace_c) :: (123, normC tRt1_c) :: (76, normC tHas_c) :: (76, normC tHasN_c) :: (121, normC tL1_c) :: (122, normC tS1_c) :: tabTa0
theorem tabTa1_ok : TOK Try.prog tabTa1 := TOK.cons tPlace_en tPlace_ok (TOK.cons tRt1_en tRt1_ok (TOK.cons tHas_en tHas_ok (TOK.cons tHasN_en tHasN_ok (TOK.cons tL1_en tL1_ok (TOK.cons tS1_en tS1_ok (tabTa0_ok))))))

end Go.Proofs.Ytcdejlgophpdjaa
end

section
namespace Go.Proofs.Ytcdejlgophpdjaa
open Go Go.RowKit Go.Proofs.Ytcdejlgophpdjaa.V
set_option linter.unusedVariables false

/-! (*azulejo/tile.Tile).Right -/
def tRt_0 (c0 : Int) (c1 : Int) (c2 : Int) (c3 : Int) : Bool := bif tRt1_0 c0 c2 then tRt1_0 c1 c3 else false
theorem tRt_p (r0 : Bool) (t : List (List Int)) (c0 : Int) (c1 : Int) (c2 : Int) (c3 : Int) : evG Try.prog tabTa1 2000 75 [0, 2, 3, 5] [] [] [.a (.ptr 0 0)] (padBs [⟨⟨0, 388, r0, some ⟨4, [.int .u8, .int .u8, .int .u8, .int .u8, .int .i64, .int .u8], t, some 64⟩⟩, [some (.int true .i64 c0), some (.int true .i64 c1), some (.int true .i64 c2), some (.int true .i64 c3)]⟩]) = some ([], LV.a (At.bool true (tRt_0 c0 c1 c2 c3)), padOut [none]) := by kernel_rfl
def tRt_c0 : Con
  | [.a (.ptr 0 0)], [⟨⟨0, 388, r0, some ⟨4, [.int .u8, .int .u8, .int .u8, .int .u8, .int .i64, .int .u8], t, some 64⟩⟩, [some (.int true .i64 c0), some (.int true .i64 c1), some (.int true .i64 c2), some (.int true .i64 c3)]⟩] => some ([], LV.a (At.bool true (tRt_0 c0 c1 c2 c3)), [none])
  | _, _ => none
def tRt_c : Con := packC tRt_c0
theorem tRt_ok : ConOK Try.prog 75 (normC tRt_c) := normC_ok (packC_ok (by
  intro args bs obs lv out h ho φ vs w may ha hM
  unfold tRt_c0 at h
  split at h
  · simp only [Option.some.injEq, Prod.mk.injEq] at h
    obtain ⟨rfl, rfl, rfl⟩ := h
    rename_i r0 t c0 c1 c2 c3
    exact evG_ok tabTa1_ok follows _ _ _ _ _ (tRt_p r0 t c0 c1 c2 c3) ho φ vs w may ha hM
  · cases h))
theorem tRt_en : Enters Try.prog 75 := fun args => by kernel_rfl
-- 324 11 2 ms

/-! (*azulejo/tile.Tile).Right -/
theorem tRtN_p  : evG Try.prog tabTa1 2000 75 [0, 2, 3, 5] [] [] [.a .nil] [] = some ([], LV.a (At.bool false false), []) := by kernel_rfl
def tRtN_c : Con
  | [.a .nil], [] => some ([], LV.a (At.bool false false), [])
  | _, _ => none
theorem tRtN_ok : ConOK Try.prog 75 (normC tRtN_c) := normC_ok (by
  intro args bs obs lv out h ho φ vs w may ha hM
  unfold tRtN_c at h
  split at h
  · simp only [Option.some.injEq, Prod.mk.injEq] at h
    obtain ⟨rfl, rfl, rfl⟩ := h
    exact evG_ok tabTa1_ok follows _ _ _ _ _ (tRtN_p ) ho φ vs w may ha hM
  · cases h)
theorem tRtN_en : Enters Try.prog 75 := fun args => by kernel_rfl
-- 61 1 0 ms

def tAtS_D : Tab := (2, decC [(13, false)]) :: tabTa1
theorem tAtS_D_ok : TOK Try.prog tAtS_D := TOK.cons (fun args => by kernel_rfl) (fun _ _ _ _ _ h ho => (decC_ok h ho).elim) tabTa1_ok
/-! (*azulejo/tile.Tile).At -/
def tAtS_0 (x1 : Int) (x2 : Int) : Nat := Int.toNat (tPlace_0 x1 x2)
def tAtS_o (x1 : Int) (x2 : Int) (r0 : Bool) (t : List (List Int)) (c0 : Int) (c1 : Int) (c2 : Int) (c3 : Int) : List Prop := [(!tHas_0 x1 x2 c0 c1 c2 c3) = false, (0 : Int) ≤ tPlace_0 x1 x2 ∧ tPlace_0 x1 x2 < Int.ofNat (64 : Nat)]
theorem tAtS_p (x1 : Int) (x2 : Int) (r0 : Bool) (t : List (List Int)) (c0 : Int) (c1 : Int) (c2 : Int) (c3 : Int) : evG Try.prog tAtS_D 2000 78 [0, 1, 2, 6, 11] [] [] [.a (.ptr 0 0), .a (.int true .i64 x1), .a (.int true .i64 x2)] (padBs [⟨⟨0, 388, r0, some ⟨4, [.int .u8, .int .u8, .int .u8, .int .u8, .int .i64, .int .u8], t, some 64⟩⟩, [some (.int true .i64 c0), some (.int true .i64 c1), some (.int true .i64 c2), some (.int true .i64 c3)]⟩]) = some (tAtS_o x1 x2 r0 t c0 c1 c2 c3, LV.a (At.prw false (nat_lit 0) (nat_lit 0) (nat_lit 4) (nat_lit 6) (tAtS_0 x1 x2) (nat_lit 0)), padOut [none]) := by kernel_rfl
def tAtS_c0 : Con
  | [.a (.ptr 0 0), .a (.int true .i64 x1), .a (.int true .i64 x2)], [⟨⟨0, 388, r0, some ⟨4, [.int .u8, .int .u8, .int .u8, .int .u8, .int .i64, .int .u8], t, some 64⟩⟩, [some (.int true .i64 c0), some (.int true .i64 c1), some (.int true .i64 c2), some (.int true .i64 c3)]⟩] => some (tAtS_o x1 x2 r0 t c0 c1 c2 c3, LV.a (At.prw false (nat_lit 0) (nat_lit 0) (nat_lit 4) (nat_lit 6) (tAtS_0 x1 x2) (nat_lit 0)), [none])
  | _, _ => none
def tAtS_c : Con := packC tAtS_c0
theorem tAtS_ok : ConOK Try.prog 78 (normC tAtS_c) := normC_ok (packC_ok (by
  intro args bs obs lv out h ho φ vs w may ha hM
  unfold tAtS_c0 at h
  split at h
  · simp only [Option.some.injEq, Prod.mk.injEq] at h
    obtain ⟨rfl, rfl, rfl⟩ := h
    rename_i x1 x2 r0 t c0 c1 c2 c3
    exact evG_ok tAtS_D_ok follows _ _ _ _ _ (tAtS_p x1 x2 r0 t c0 c1 c2 c3) ho φ vs w may ha hM
  · cases h))
theorem tAtS_en : Enters Try.prog 78 := fun args => by kernel_rfl
-- 4673 10 2 ms

def tAtZ_D : Tab := (2, decC [(13, true)]) :: tabTa1
theorem tAtZ_D_ok : TOK Try.prog tAtZ_D := TOK.cons (fun args => by kernel_rfl) (fun _ _ _ _ _ h ho => (decC_ok h ho).elim) tabTa1_ok
/-! (*azulejo/tile.Tile).At -/
def tAtZ_o (x1 : Int) (x2 : Int) (r0 : Bool) (t : List (List Int)) (c0 : Int) (c1 : Int) (c2 : Int) (c3 : Int) : List Prop := [(!tHas_0 x1 x2 c0 c1 c2 c3) = true]
theorem tAtZ_p (x1 : Int) (x2 : Int) (r0 : Bool) (t : List (List Int)) (c0 : Int) (c1 : Int) (c2 : Int) (c3 : Int) : evG Try.prog tAtZ_D 2000 78 [0, 1, 2, 6, 11] [] [] [.a (.ptr 0 0), .a (.int true .i64 x1), .a (.int true .i64 x2)] (padBs [⟨⟨0, 388, r0, some ⟨4, [.int .u8, .int .u8, .int .u8, .int .u8, .int .i64, .int .u8], t, some 64⟩⟩, [some (.int true .i64 c0), some (.int true .i64 c1), some (.int true .i64 c2), some (.int true .i64 c3)]⟩]) = some (tAtZ_o x1 x2 r0 t c0 c1 c2 c3, LV.a At.nil, padOut [none]) := by kernel_rfl
def tAtZ_c0 : Con
  | [.a (.ptr 0 0), .a (.int true .i64 x1), .a (.int true .i64 x2)], [⟨⟨0, 388, r0, some ⟨4, [.int .u8, .int .u8, .int .u8, .int .u8, .int .i64, .int .u8], t, some 64⟩⟩, [some (.int true .i64 c0), some (.int true .i64 c1), some (.int true .i64 c2), some (.int true .i64 c3)]⟩] => some (tAtZ_o x1 x2 r0 t c0 c1 c2 c3, LV.a At.nil, [none])
  | _, _ => none
def tAtZ_c : Con := packC tAtZ_c0
theorem tAtZ_ok : ConOK Try.prog 78 (normC tAtZ_c) := normC_ok (packC_ok (by
  intro args bs obs lv out h ho φ vs w may ha hM
  unfold tAtZ_c0 at h
  split at h
  · simp only [Option.some.injEq, Prod.mk.injEq] at h
    obtain ⟨rfl, rfl, rfl⟩ := h
    rename_i x1 x2 r0 t c0 c1 c2 c3
    exact evG_ok tAtZ_D_ok follows _ _ _ _ _ (tAtZ_p x1 x2 r0 t c0 c1 c2 c3) ho φ vs w may ha hM
  · cases h))
theorem tAtZ_en : Enters Try.prog 78 := fun args => by kernel_rfl
-- 4546 1 1 ms

/-! (*azulejo/tile.Tile).At -/
theorem tAtN_p (x1 : Int) (x2 : Int) : evG Try.prog tabTa1 2000 78 [0, 1, 2, 6, 11] [] [] [.a .nil, .a (.int true .i64 x1), .a (.int true .i64 x2)] [] = some ([], LV.a At.nil, []) := by kernel_rfl
def tAtN_c : Con
  | [.a .nil, .a (.int true .i64 x1), .a (.int true .i64 x2)], [] => some ([], LV.a At.nil, [])
  | _, _ => none
theorem tAtN_ok : ConOK Try.prog 78 (normC tAtN_c) := normC_ok (by
  intro args bs obs lv out h ho φ vs w may ha hM
  unfold tAtN_c at h
  split at h
  · simp only [Option.some.injEq, Prod.mk.injEq] at h
    obtain ⟨rfl, rfl, rfl⟩ := h
    rename_i x1 x2
    exact evG_ok tabTa1_ok follows _ _ _ _ _ (tAtN_p x1 x2) ho φ vs w may ha hM
  · cases h)
theorem tAtN_en : Enters Try.prog 78 := fun args => by kernel_rfl
-- 30 1 0 ms

def tabTa2 : Tab := (75, normC tRt_c) :: (75, normC tRtN_c) :: (78, normC tAtS_c) :: (78, normC tAtZ_c) :: (78, normC tAtN_c) :: tabTa1
theorem tabTa2_ok : TOK Try.prog tabTa2 := TOK.cons tRt_en tRt_ok (TOK.cons tRtN_en tRtN_ok (TOK.cons tAtS_en tAtS_ok (TOK.cons tAtZ_en tAtZ_ok (TOK.cons tAtN_en tAtN_ok (tabTa1_ok)))))

end Go.Proofs.Ytcdejlgophpdjaa
end

section
namespace Go.Proofs.Ytcdejlgophpdjaa
open Go Go.RowKit Go.Proofs.Ytcdejlgophpdjaa.V
set_option linter.unusedVariables false

/-! (*azulejo/tile.Tile).each -/
noncomputable def tEaL_l457_code : Go.Code := loopOf (subs (bodyOf Try.prog 120) 1 457)
structure tEaL_l457_T where
  a0 : Int
  a1 : Int
  a2 : Bool
  a3 : List (List Int)
  a4 : Int
  a5 : Int
  a6 : Int
  a7 : Int
  a8 : Int
  a9 : Int
  a10 : List (List Int)
  deriving Inhabited
def tEaL_l457_hd0 (v : tEaL_l457_T) : HS := HS.mk [(nat_lit 0, LV.a (At.ptr (nat_lit 0) (nat_lit 0))), (nat_lit 1, LV.a (At.fn (nat_lit 121) [(nat_lit 1, nat_lit 0), (nat_lit 3, nat_lit 0)])), (nat_lit 4, LV.a (At.int true IntKind.i64 (tEaL_l457_T.a0 v))), (nat_lit 5, LV.a (At.int true IntKind.i64 (tEaL_l457_T.a1 v))), (nat_lit 20, LV.a (At.bool true (tEaL_l457_T.a2 v)))] [BC.mk (Hd.mk (nat_lit 0) (nat_lit 388) false (some (Rw.mk (nat_lit 4) [Kd.int IntKind.u8, Kd.int IntKind.u8, Kd.int IntKind.u8, Kd.int IntKind.u8, Kd.int IntKind.i64, Kd.int IntKind.u8] (tEaL_l457_T.a3 v) (some (nat_lit 64))))) [some (At.int true IntKind.i64 (tEaL_l457_T.a4 v)), some (At.int true IntKind.i64 (tEaL_l457_T.a5 v)), some (At.int true IntKind.i64 (tEaL_l457_T.a6 v)), some (At.int true IntKind.i64 (tEaL_l457_T.a7 v))], BC.mk (Hd.mk (nat_lit 0) (nat_lit 3) true none) [some (At.int true IntKind.i64 (tEaL_l457_T.a8 v)), some (At.int true IntKind.i64 (tEaL_l457_T.a9 v)), some (At.vec (nat_lit 2) (nat_lit 0) (nat_lit 6))], BC.mk (Hd.mk (nat_lit 0) (nat_lit 0) true (some (Rw.mk (nat_lit 0) [Kd.int IntKind.u8, Kd.int IntKind.u8, Kd.int IntKind.u8, Kd.int IntKind.u8, Kd.int IntKind.i64, Kd.int IntKind.u8] (tEaL_l457_T.a10 v) none))) [], BC.mk (Hd.mk (nat_lit 0) (nat_lit 1) true none) [some (At.ptr (nat_lit 0) (nat_lit 0))]]
def tEaL_l457_hd (v : tEaL_l457_T) : HS := padH (tEaL_l457_hd0 v)
def tEaL_l457_s0 (v : tEaL_l457_T) : Bool := decide (tEaL_l457_T.a1 v < tEaL_l457_T.a6 v)
def tEaL_l457_st (v : tEaL_l457_T) : List Prop × List (X × Bool × tEaL_l457_T) := ([tEaL_l457_s0 v = true → (!fAt_s1 (tEaL_l457_T.a8 v) (tEaL_l457_T.a9 v) (tEaL_l457_T.a1 v) (tEaL_l457_T.a0 v) (tEaL_l457_T.a10 v)) = true → (0 : Int) ≤ fAt_s0 (tEaL_l457_T.a8 v) (tEaL_l457_T.a1 v) (tEaL_l457_T.a0 v) ∧ fAt_s0 (tEaL_l457_T.a8 v) (tEaL_l457_T.a1 v) (tEaL_l457_T.a0 v) < Int.ofNat (List.length (tEaL_l457_T.a10 v)), tEaL_l457_s0 v = true → (0 : Int) ≤ tPlace_0 (tEaL_l457_T.a1 v) (tEaL_l457_T.a0 v) ∧ tPlace_0 (tEaL_l457_T.a1 v) (tEaL_l457_T.a0 v) < Int.ofNat (64 : Nat)], [(X.e (2 : Nat), !tEaL_l457_s0 v, tEaL_l457_T.mk (tEaL_l457_T.a0 v) (tEaL_l457_T.a1 v) (tEaL_l457_T.a2 v) (tEaL_l457_T.a3 v) (tEaL_l457_T.a4 v) (tEaL_l457_T.a5 v) (tEaL_l457_T.a6 v) (tEaL_l457_T.a7 v) (tEaL_l457_T.a8 v) (tEaL_l457_T.a9 v) (tEaL_l457_T.a10 v)), (X.n, tEaL_l457_s0 v, tEaL_l457_T.mk (tEaL_l457_T.a0 v) (IntKind.wrap IntKind.i64 (tEaL_l457_T.a1 v + (1 : Int))) (tEaL_l457_T.a2 v) (tL1_0 (tEaL_l457_T.a1 v) (tEaL_l457_T.a0 v) (tPlace_0 (tEaL_l457_T.a1 v) (tEaL_l457_T.a0 v)) (tEaL_l457_T.a8 v) (tEaL_l457_T.a9 v) (tEaL_l457_T.a10 v) (tEaL_l457_T.a3 v)) (tEaL_l457_T.a4 v) (tEaL_l457_T.a5 v) (tEaL_l457_T.a6 v) (tEaL_l457_T.a7 v) (tEaL_l457_T.a8 v) (tEaL_l457_T.a9 v) (tEaL_l457_T.a10 v))])
def tEaL_l457_rd0 : HS → Option tEaL_l457_T
  | HS.mk [(0, LV.a (At.ptr 0 0)), (1, LV.a (At.fn 121 [(1, 0), (3, 0)])), (4, LV.a (At.int true IntKind.i64 a0)), (5, LV.a (At.int true IntKind.i64 a1)), (20, LV.a (At.bool true a2))] [BC.mk (Hd.mk 0 388 false (some (Rw.mk 4 [Kd.int IntKind.u8, Kd.int IntKind.u8, Kd.int IntKind.u8, Kd.int IntKind.u8, Kd.int IntKind.i64, Kd.int IntKind.u8] a3 (some 64)))) [some (At.int true IntKind.i64 a4), some (At.int true IntKind.i64 a5), some (At.int true IntKind.i64 a6), some (At.int true IntKind.i64 a7)], BC.mk (Hd.mk 0 3 true none) [some (At.int true IntKind.i64 a8), some (At.int true IntKind.i64 a9), some (At.vec 2 0 6)], BC.mk (Hd.mk 0 0 true (some (Rw.mk 0 [Kd.int IntKind.u8, Kd.int IntKind.u8, Kd.int IntKind.u8, Kd.int IntKind.u8, Kd.int IntKind.i64, Kd.int IntKind.u8] a10 none))) [], BC.mk (Hd.mk 0 1 true none) [some (At.ptr 0 0)]] => some (tEaL_l457_T.mk a0 a1 a2 a3 a4 a5 a6 a7 a8 a9 a10)
  | _ => none
def tEaL_l457_rd : HS → Option tEaL_l457_T := rdP tEaL_l457_rd0
def tEaL_l457_sum : V.Sum := loopS tEaL_l457_hd tEaL_l457_rd tEaL_l457_st 18446744073709551616 [X.e (2 : Nat)] [0, 1, 4, 5, 8, 20, 34] [0, 1, 4, 5, 20] [0] [] [] 2
theorem tEaL_l457_E : ∀ v, bodyF Try.prog tabTa2 (ntOf Try.prog 120) [0, 1, 4, 5, 8, 20, 34] [0, 1, 4, 5, 20] [] 2000 [0] [] tEaL_l457_code 1828 (tEaL_l457_hd v) = some ((tEaL_l457_st v).1, (tEaL_l457_st v).2.map fun q => (q.1, q.2.1, tEaL_l457_hd q.2.2)) := fun v => by kernel_rfl
set_option maxHeartbeats 2000000 in
theorem tEaL_l457_R0 : ∀ h v, tEaL_l457_rd0 h = some v → h = tEaL_l457_hd0 v := by
  intro h v e
  unfold tEaL_l457_rd0 at e
  split at e
  · simp only [Option.some.injEq] at e; subst e; rfl
  · cases e
theorem tEaL_l457_R : ∀ h v, tEaL_l457_rd h = some v → h = tEaL_l457_hd v := rdP_spec tEaL_l457_R0
set_option maxRecDepth 100000 in
theorem tEaL_l457_sok : SumOK Try.prog (ntOf Try.prog 120) [0, 1, 4, 5, 8, 20, 34] (.block (blockOf (subs (bodyOf Try.prog 120) 1 457)) (.loop tEaL_l457_code)) tEaL_l457_sum := loopS_ok tabTa2_ok follows tEaL_l457_E tEaL_l457_R (fun v => by kernel_rfl) (LOK_of _ _ (LOK_nil'))
noncomputable def tEaL_l7_code : Go.Code := loopOf (subs (bodyOf Try.prog 120) 1 7)
structure tEaL_l7_T where
  a0 : Int
  a1 : List (List Int)
  a2 : Int
  a3 : Int
  a4 : Int
  a5 : Int
  a6 : Int
  a7 : Int
  a8 : List (List Int)
  deriving Inhabited
def tEaL_l7_hd0 (v : tEaL_l7_T) : HS := HS.mk [(nat_lit 0, LV.a (At.ptr (nat_lit 0) (nat_lit 0))), (nat_lit 1, LV.a (At.fn (nat_lit 121) [(nat_lit 1, nat_lit 0), (nat_lit 3, nat_lit 0)])), (nat_lit 4, LV.a (At.int true IntKind.i64 (tEaL_l7_T.a0 v)))] [BC.mk (Hd.mk (nat_lit 0) (nat_lit 388) false (some (Rw.mk (nat_lit 4) [Kd.int IntKind.u8, Kd.int IntKind.u8, Kd.int IntKind.u8, Kd.int IntKind.u8, Kd.int IntKind.i64, Kd.int IntKind.u8] (tEaL_l7_T.a1 v) (some (nat_lit 64))))) [some (At.int true IntKind.i64 (tEaL_l7_T.a2 v)), some (At.int true IntKind.i64 (tEaL_l7_T.a3 v)), some (At.int true IntKind.i64 (tEaL_l7_T.a4 v)), some (At.int true IntKind.i64 (tEaL_l7_T.a5 v))], BC.mk (Hd.mk (nat_lit 0) (nat_lit 3) true none) [some (At.int true IntKind.i64 (tEaL_l7_T.a6 v)), some (At.int true IntKind.i64 (tEaL_l7_T.a7 v)), some (At.vec (nat_lit 2) (nat_lit 0) (nat_lit 6))], BC.mk (Hd.mk (nat_lit 0) (nat_lit 0) true (some (Rw.mk (nat_lit 0) [Kd.int IntKind.u8, Kd.int IntKind.u8, Kd.int IntKind.u8, Kd.int IntKind.u8, Kd.int IntKind.i64, Kd.int IntKind.u8] (tEaL_l7_T.a8 v) none))) [], BC.mk (Hd.mk (nat_lit 0) (nat_lit 1) true none) [some (At.ptr (nat_lit 0) (nat_lit 0))]]
def tEaL_l7_hd (v : tEaL_l7_T) : HS := padH (tEaL_l7_hd0 v)
def tEaL_l7_s0 (v : tEaL_l7_T) : Bool := decide (tEaL_l7_T.a0 v < tEaL_l7_T.a5 v)
def tEaL_l7_s1 (v : tEaL_l7_T) : Option (X × tEaL_l457_T) := lrun tEaL_l457_st (18446744073709551616 : Nat) (tEaL_l457_T.mk (tEaL_l7_T.a0 v) (tEaL_l7_T.a2 v) (tEaL_l7_s0 v) (tEaL_l7_T.a1 v) (tEaL_l7_T.a2 v) (tEaL_l7_T.a3 v) (tEaL_l7_T.a4 v) (tEaL_l7_T.a5 v) (tEaL_l7_T.a6 v) (tEaL_l7_T.a7 v) (tEaL_l7_T.a8 v))
def tEaL_l7_st (v : tEaL_l7_T) : List Prop × List (X × Bool × tEaL_l7_T) := ([tEaL_l7_s0 v = true → lok tEaL_l457_st (18446744073709551616 : Nat) (tEaL_l457_T.mk (tEaL_l7_T.a0 v) (tEaL_l7_T.a2 v) (tEaL_l7_s0 v) (tEaL_l7_T.a1 v) (tEaL_l7_T.a2 v) (tEaL_l7_T.a3 v) (tEaL_l7_T.a4 v) (tEaL_l7_T.a5 v) (tEaL_l7_T.a6 v) (tEaL_l7_T.a7 v) (tEaL_l7_T.a8 v))], [(X.e (0 : Nat), !tEaL_l7_s0 v, tEaL_l7_T.mk (tEaL_l7_T.a0 v) (tEaL_l7_T.a1 v) (tEaL_l7_T.a2 v) (tEaL_l7_T.a3 v) (tEaL_l7_T.a4 v) (tEaL_l7_T.a5 v) (tEaL_l7_T.a6 v) (tEaL_l7_T.a7 v) (tEaL_l7_T.a8 v)), (X.n, tEaL_l7_s0 v && isX (X.e (2 : Nat)) (tEaL_l7_s1 v), tEaL_l7_T.mk (IntKind.wrap IntKind.i64 (tEaL_l457_T.a0 (V.valOf (tEaL_l7_s1 v)) + (1 : Int))) (tEaL_l457_T.a3 (V.valOf (tEaL_l7_s1 v))) (tEaL_l457_T.a4 (V.valOf (tEaL_l7_s1 v))) (tEaL_l457_T.a5 (V.valOf (tEaL_l7_s1 v))) (tEaL_l457_T.a6 (V.valOf (tEaL_l7_s1 v))) (tEaL_l457_T.a7 (V.valOf (tEaL_l7_s1 v))) (tEaL_l7_T.a6 v) (tEaL_l7_T.a7 v) (tEaL_l7_T.a8 v))])
def tEaL_l7_rd0 : HS → Option tEaL_l7_T
  | HS.mk [(0, LV.a (At.ptr 0 0)), (1, LV.a (At.fn 121 [(1, 0), (3, 0)])), (4, LV.a (At.int true IntKind.i64 a0))] [BC.mk (Hd.mk 0 388 false (some (Rw.mk 4 [Kd.int IntKind.u8, Kd.int IntKind.u8, Kd.int IntKind.u8, Kd.int IntKind.u8, Kd.int IntKind.i64, Kd.int IntKind.u8] a1 (some 64)))) [some (At.int true IntKind.i64 a2), some (At.int true IntKind.i64 a3), some (At.int true IntKind.i64 a4), some (At.int true IntKind.i64 a5)], BC.mk (Hd.mk 0 3 true none) [some (At.int true IntKind.i64 a6), some (At.int true IntKind.i64 a7), some (At.vec 2 0 6)], BC.mk (Hd.mk 0 0 true (some (Rw.mk 0 [Kd.int IntKind.u8, Kd.int IntKind.u8, Kd.int IntKind.u8, Kd.int IntKind.u8, Kd.int IntKind.i64, Kd.int IntKind.u8] a8 none))) [], BC.mk (Hd.mk 0 1 true none) [some (At.ptr 0 0)]] => some (tEaL_l7_T.mk a0 a1 a2 a3 a4 a5 a6 a7 a8)
  | _ => none
def tEaL_l7_rd : HS → Option tEaL_l7_T := rdP tEaL_l7_rd0
def tEaL_l7_sum : V.Sum := loopS tEaL_l7_hd tEaL_l7_rd tEaL_l7_st 18446744073709551616 [X.e (0 : Nat)] [0, 1, 4, 5, 8, 20, 34] [0, 1, 4] [0] [] [] 0
theorem tEaL_l7_E : ∀ v, bodyF Try.prog tabTa2 (ntOf Try.prog 120) [0, 1, 4, 5, 8, 20, 34] [0, 1, 4] [(457, tEaL_l457_sum)] 2000 [0] [] tEaL_l7_code 28 (tEaL_l7_hd v) = some ((tEaL_l7_st v).1, (tEaL_l7_st v).2.map fun q => (q.1, q.2.1, tEaL_l7_hd q.2.2)) := fun v => by kernel_rfl
set_option maxHeartbeats 2000000 in
theorem tEaL_l7_R0 : ∀ h v, tEaL_l7_rd0 h = some v → h = tEaL_l7_hd0 v := by
  intro h v e
  unfold tEaL_l7_rd0 at e
  split at e
  · simp only [Option.some.injEq] at e; subst e; rfl
  · cases e
theorem tEaL_l7_R : ∀ h v, tEaL_l7_rd h = some v → h = tEaL_l7_hd v := rdP_spec tEaL_l7_R0
set_option maxRecDepth 100000 in
theorem tEaL_l7_sok : SumOK Try.prog (ntOf Try.prog 120) [0, 1, 4, 5, 8, 20, 34] (.block (blockOf (subs (bodyOf Try.prog 120) 1 7)) (.loop tEaL_l7_code)) tEaL_l7_sum := loopS_ok tabTa2_ok follows tEaL_l7_E tEaL_l7_R (fun v => by kernel_rfl) (LOK_of _ _ (LOK_cons (show subs tEaL_l7_code 28 457 = [.block (blockOf (subs (bodyOf Try.prog 120) 1 457)) (.loop tEaL_l457_code)] from by kernel_rfl) tEaL_l457_sok (LOK_nil')))
def tEaL_0 (t : List (List Int)) (c0 : Int) (c1 : Int) (c2 : Int) (c3 : Int) (w0 : Int) (h0 : Int) (l : List (List Int)) : List (List Int) := bif !tRt_0 c0 c1 c2 c3 then t else tEaL_l7_T.a1 (V.valOf (lrun tEaL_l7_st (18446744073709551616 : Nat) (tEaL_l7_T.mk c1 t c0 c1 c2 c3 w0 h0 l)))
def tEaL_1 (t : List (List Int)) (c0 : Int) (c1 : Int) (c2 : Int) (c3 : Int) (w0 : Int) (h0 : Int) (l : List (List Int)) : Int := bif !tRt_0 c0 c1 c2 c3 then c0 else tEaL_l7_T.a2 (V.valOf (lrun tEaL_l7_st (18446744073709551616 : Nat) (tEaL_l7_T.mk c1 t c0 c1 c2 c3 w0 h0 l)))
def tEaL_2 (t : List (List Int)) (c0 : Int) (c1 : Int) (c2 : Int) (c3 : Int) (w0 : Int) (h0 : Int) (l : List (List Int)) : Int := bif !tRt_0 c0 c1 c2 c3 then c1 else tEaL_l7_T.a3 (V.valOf (lrun tEaL_l7_st (18446744073709551616 : Nat) (tEaL_l7_T.mk c1 t c0 c1 c2 c3 w0 h0 l)))
def tEaL_3 (t : List (List Int)) (c0 : Int) (c1 : Int) (c2 : Int) (c3 : Int) (w0 : Int) (h0 : Int) (l : List (List Int)) : Int := bif !tRt_0 c0 c1 c2 c3 then c2 else tEaL_l7_T.a4 (V.valOf (lrun tEaL_l7_st (18446744073709551616 : Nat) (tEaL_l7_T.mk c1 t c0 c1 c2 c3 w0 h0 l)))
def tEaL_4 (t : List (List Int)) (c0 : Int) (c1 : Int) (c2 : Int) (c3 : Int) (w0 : Int) (h0 : Int) (l : List (List Int)) : Int := bif !tRt_0 c0 c1 c2 c3 then c3 else tEaL_l7_T.a5 (V.valOf (lrun tEaL_l7_st (18446744073709551616 : Nat) (tEaL_l7_T.mk c1 t c0 c1 c2 c3 w0 h0 l)))
def tEaL_o (t : List (List Int)) (c0 : Int) (c1 : Int) (c2 : Int) (c3 : Int) (f0 : Bool) (w0 : Int) (h0 : Int) (r0 : Bool) (l : List (List Int)) (f1 : Bool) : List Prop := [(!!tRt_0 c0 c1 c2 c3) = true → lok tEaL_l7_st (18446744073709551616 : Nat) (tEaL_l7_T.mk c1 t c0 c1 c2 c3 w0 h0 l)]
theorem tEaL_p (t : List (List Int)) (c0 : Int) (c1 : Int) (c2 : Int) (c3 : Int) (f0 : Bool) (w0 : Int) (h0 : Int) (r0 : Bool) (l : List (List Int)) (f1 : Bool) : evG Try.prog tabTa2 2000 120 [0, 1, 4, 5, 8, 20, 34] [(7, tEaL_l7_sum), (457, tEaL_l457_sum)] [0] [.a (.ptr 0 0), .a (.fn 121 [(1, 0), (3, 0)])] (padBs [⟨⟨0, 388, false, some ⟨4, [.int .u8, .int .u8, .int .u8, .int .u8, .int .i64, .int .u8], t, some 64⟩⟩, [some (.int true .i64 c0), some (.int true .i64 c1), some (.int true .i64 c2), some (.int true .i64 c3)]⟩, ⟨⟨0, 3, f0, none⟩, [some (.int true .i64 w0), some (.int true .i64 h0), some (.vec 2 0 6)]⟩, ⟨⟨0, 0, r0, some ⟨0, [.int .u8, .int .u8, .int .u8, .int .u8, .int .i64, .int .u8], l, none⟩⟩, []⟩, ⟨⟨0, 1, f1, none⟩, [some (.ptr 0 0)]⟩]) = some (tEaL_o t c0 c1 c2 c3 f0 w0 h0 r0 l f1, LV.t [], padOut [some (BC.mk (Hd.mk (nat_lit 0) (nat_lit 388) false (some (Rw.mk (nat_lit 4) [Kd.int IntKind.u8, Kd.int IntKind.u8, Kd.int IntKind.u8, Kd.int IntKind.u8, Kd.int IntKind.i64, Kd.int IntKind.u8] (tEaL_0 t c0 c1 c2 c3 w0 h0 l) (some (nat_lit 64))))) [some (At.int true IntKind.i64 (tEaL_1 t c0 c1 c2 c3 w0 h0 l)), some (At.int true IntKind.i64 (tEaL_2 t c0 c1 c2 c3 w0 h0 l)), some (At.int true IntKind.i64 (tEaL_3 t c0 c1 c2 c3 w0 h0 l)), some (At.int true IntKind.i64 (tEaL_4 t c0 c1 c2 c3 w0 h0 l))]), none, none, none]) := by kernel_rfl
def tEaL_c0 : Con
  | [.a (.ptr 0 0), .a (.fn 121 [(1, 0), (3, 0)])], [⟨⟨0, 388, false, some ⟨4, [.int .u8, .int .u8, .int .u8, .int .u8, .int .i64, .int .u8], t, some 64⟩⟩, [some (.int true .i64 c0), some (.int true .i64 c1), some (.int true .i64 c2), some (.int true .i64 c3)]⟩, ⟨⟨0, 3, f0, none⟩, [some (.int true .i64 w0), some (.int true .i64 h0), some (.vec 2 0 6)]⟩, ⟨⟨0, 0, r0, some ⟨0, [.int .u8, .int .u8, .int .u8, .int .u8, .int .i64, .int .u8], l, none⟩⟩, []⟩, ⟨⟨0, 1, f1, none⟩, [some (.ptr 0 0)]⟩] => some (tEaL_o t c0 c1 c2 c3 f0 w0 h0 r0 l f1, LV.t [], [some (BC.mk (Hd.mk (nat_lit 0) (nat_lit 388) false (some (Rw.mk (nat_lit 4) [Kd.int IntKind.u8, Kd.int IntKind.u8, Kd.int IntKind.u8, Kd.int IntKind.u8, Kd.int IntKind.i64, Kd.int IntKind.u8] (tEaL_0 t c0 c1 c2 c3 w0 h0 l) (some (nat_lit 64))))) [some (At.int true IntKind.i64 (tEaL_1 t c0 c1 c2 c3 w0 h0 l)), some (At.int true IntKind.i64 (tEaL_2 t c0 c1 c2 c3 w0 h0 l)), some (At.int true IntKind.i64 (tEaL_3 t c0 c1 c2 c3 w0 h0 l)), some (At.int true IntKind.i64 (tEaL_4 t c0 c1 c2 c3 w0 h0 l))]), none, none, none])
  | _, _ => none
def tEaL_c : Con := packC tEaL_c0
theorem tEaL_ok : ConOK Try.prog 120 (normC tEaL_c) := normC_ok (packC_ok (by
  intro args bs obs lv out h ho φ vs w may ha hM
  unfold tEaL_c0 at h
  split at h
  · simp only [Option.some.injEq, Prod.mk.injEq] at h
    obtain ⟨rfl, rfl, rfl⟩ := h
    rename_i t c0 c1 c2 c3 f0 w0 h0 r0 l f1
    exact evG_okL' tabTa2_ok follows (LOK_cons (show subs (bodyOf Try.prog 120) 1 7 = [.block (blockOf (subs (bodyOf Try.prog 120) 1 7)) (.loop tEaL_l7_code)] from by kernel_rfl) tEaL_l7_sok (LOK_cons (show subs (bodyOf Try.prog 120) 1 457 = [.block (blockOf (subs (bodyOf Try.prog 120) 1 457)) (.loop tEaL_l457_code)] from by kernel_rfl) tEaL_l457_sok (LOK_nil'))) _ _ _ _ _ (tEaL_p t c0 c1 c2 c3 f0 w0 h0 r0 l f1) ho φ vs w may ha hM
  · cases h))
theorem tEaL_en : Enters Try.prog 120 := fun args => by kernel_rfl
-- 98739 27106 15 ms

/-! (*azulejo/tile.Tile).each -/
noncomputable def tEaS_l457_code : Go.Code := loopOf (subs (bodyOf Try.prog 120) 1 457)
structure tEaS_l457_T where
  a0 : Int
  a1 : Int
  a2 : Bool
  a3 : List (List Int)
  a4 : Int
  a5 : Int
  a6 : Int
  a7 : Int
  a8 : Int
  a9 : Int
  a10 : List (List Int)
  deriving Inhabited
def tEaS_l457_hd0 (v : tEaS_l457_T) : HS := HS.mk [(nat_lit 0, LV.a (At.ptr (nat_lit 0) (nat_lit 0))), (nat_lit 1, LV.a (At.fn (nat_lit 122) [(nat_lit 1, nat_lit 0), (nat_lit 3, nat_lit 0)])), (nat_lit 4, LV.a (At.int true IntKind.i64 (tEaS_l457_T.a0 v))), (nat_lit 5, LV.a (At.int true IntKind.i64 (tEaS_l457_T.a1 v))), (nat_lit 20, LV.a (At.bool true (tEaS_l457_T.a2 v)))] [BC.mk (Hd.mk (nat_lit 0) (nat_lit 388) true (some (Rw.mk (nat_lit 4) [Kd.int IntKind.u8, Kd.int IntKind.u8, Kd.int IntKind.u8, Kd.int IntKind.u8, Kd.int IntKind.i64, Kd.int IntKind.u8] (tEaS_l457_T.a3 v) (some (nat_lit 64))))) [some (At.int true IntKind.i64 (tEaS_l457_T.a4 v)), some (At.int true IntKind.i64 (tEaS_l457_T.a5 v)), some (At.int true IntKind.i64 (tEaS_l457_T.a6 v)), some (At.int true IntKind.i64 (tEaS_l457_T.a7 v))], BC.mk (Hd.mk (nat_lit 0) (nat_lit 3) true none) [some (At.int true IntKind.i64 (tEaS_l457_T.a8 v)), some (At.int true IntKind.i64 (tEaS_l457_T.a9 v)), some (At.vec (nat_lit 2) (nat_lit 0) (nat_lit 6))], BC.mk (Hd.mk (nat_lit 0) (nat_lit 0) false (some (Rw.mk (nat_lit 0) [Kd.int IntKind.u8, Kd.int IntKind.u8, Kd.int IntKind.u8, Kd.int IntKind.u8, Kd.int IntKind.i64, Kd.int IntKind.u8] (tEaS_l457_T.a10 v) none))) [], BC.mk (Hd.mk (nat_lit 0) (nat_lit 1) true none) [some (At.ptr (nat_lit 0) (nat_lit 0))]]
def tEaS_l457_hd (v : tEaS_l457_T) : HS := padH (tEaS_l457_hd0 v)
def tEaS_l457_s0 (v : tEaS_l457_T) : Bool := decide (tEaS_l457_T.a1 v < tEaS_l457_T.a6 v)
def tEaS_l457_st (v : tEaS_l457_T) : List Prop × List (X × Bool × tEaS_l457_T) := ([tEaS_l457_s0 v = true → (0 : Int) ≤ tPlace_0 (tEaS_l457_T.a1 v) (tEaS_l457_T.a0 v) ∧ tPlace_0 (tEaS_l457_T.a1 v) (tEaS_l457_T.a0 v) < Int.ofNat (64 : Nat), tEaS_l457_s0 v = true → fSet_s1 (tEaS_l457_T.a8 v) (tEaS_l457_T.a9 v) (tEaS_l457_T.a1 v) (tEaS_l457_T.a0 v) (tEaS_l457_T.a10 v) = true → (0 : Int) ≤ fSet_s0 (tEaS_l457_T.a8 v) (tEaS_l457_T.a1 v) (tEaS_l457_T.a0 v) ∧ fSet_s0 (tEaS_l457_T.a8 v) (tEaS_l457_T.a1 v) (tEaS_l457_T.a0 v) < Int.ofNat (List.length (tEaS_l457_T.a10 v))], [(X.e (2 : Nat), !tEaS_l457_s0 v, tEaS_l457_T.mk (tEaS_l457_T.a0 v) (tEaS_l457_T.a1 v) (tEaS_l457_T.a2 v) (tEaS_l457_T.a3 v) (tEaS_l457_T.a4 v) (tEaS_l457_T.a5 v) (tEaS_l457_T.a6 v) (tEaS_l457_T.a7 v) (tEaS_l457_T.a8 v) (tEaS_l457_T.a9 v) (tEaS_l457_T.a10 v)), (X.n, tEaS_l457_s0 v, tEaS_l457_T.mk (tEaS_l457_T.a0 v) (IntKind.wrap IntKind.i64 (tEaS_l457_T.a1 v + (1 : Int))) (tEaS_l457_T.a2 v) (tEaS_l457_T.a3 v) (tEaS_l457_T.a4 v) (tEaS_l457_T.a5 v) (tEaS_l457_T.a6 v) (tEaS_l457_T.a7 v) (tEaS_l457_T.a8 v) (tEaS_l457_T.a9 v) (tS1_0 (tEaS_l457_T.a1 v) (tEaS_l457_T.a0 v) (tPlace_0 (tEaS_l457_T.a1 v) (tEaS_l457_T.a0 v)) (tEaS_l457_T.a8 v) (tEaS_l457_T.a9 v) (tEaS_l457_T.a10 v) (tEaS_l457_T.a3 v)))])
def tEaS_l457_rd0 : HS → Option tEaS_l457_T
  | HS.mk [(0, LV.a (At.ptr 0 0)), (1, LV.a (At.fn 122 [(1, 0), (3, 0)])), (4, LV.a (At.int true IntKind.i64 a0)), (5, LV.a (At.int true IntKind.i64 a1)), (20, LV.a (At.bool true a2))] [BC.mk (Hd.mk 0 388 true (some (Rw.mk 4 [Kd.int IntKind.u8, Kd.int IntKind.u8, Kd.int IntKind.u8, Kd.int IntKind.u8, Kd.int IntKind.i64, Kd.int IntKind.u8] a3 (some 64)))) [some (At.int true IntKind.i64 a4), some (At.int true IntKind.i64 a5), some (At.int true IntKind.i64 a6), some (At.int true IntKind.i64 a7)], BC.mk (Hd.mk 0 3 true none) [some (At.int true IntKind.i64 a8), some (At.int true IntKind.i64 a9), some (At.vec 2 0 6)], BC.mk (Hd.mk 0 0 false (some (Rw.mk 0 [Kd.int IntKind.u8, Kd.int IntKind.u8, Kd.int IntKind.u8, Kd.int IntKind.u8, Kd.int IntKind.i64, Kd.int IntKind.u8] a10 none))) [], BC.mk (Hd.mk 0 1 true none) [some (At.ptr 0 0)]] => some (tEaS_l457_T.mk a0 a1 a2 a3 a4 a5 a6 a7 a8 a9 a10)
  | _ => none
def tEaS_l457_rd : HS → Option tEaS_l457_T := rdP tEaS_l457_rd0
def tEaS_l457_sum : V.Sum := loopS tEaS_l457_hd tEaS_l457_rd tEaS_l457_st 18446744073709551616 [X.e (2 : Nat)] [0, 1, 4, 5, 8, 20, 34] [0, 1, 4, 5, 20] [2] [] [] 2
theorem tEaS_l457_E : ∀ v, bodyF Try.prog tabTa2 (ntOf Try.prog 120) [0, 1, 4, 5, 8, 20, 34] [0, 1, 4, 5, 20] [] 2000 [2] [] tEaS_l457_code 1828 (tEaS_l457_hd v) = some ((tEaS_l457_st v).1, (tEaS_l457_st v).2.map fun q => (q.1, q.2.1, tEaS_l457_hd q.2.2)) := fun v => by kernel_rfl
set_option maxHeartbeats 2000000 in
theorem tEaS_l457_R0 : ∀ h v, tEaS_l457_rd0 h = some v → h = tEaS_l457_hd0 v := by
  intro h v e
  unfold tEaS_l457_rd0 at e
  split at e
  · simp only [Option.some.injEq] at e; subst e; rfl
  · cases e
theorem tEaS_l457_R : ∀ h v, tEaS_l457_rd h = some v → h = tEaS_l457_hd v := rdP_spec tEaS_l457_R0
set_option maxRecDepth 100000 in
theorem tEaS_l457_sok : SumOK Try.prog (ntOf Try.prog 120) [0, 1, 4, 5, 8, 20, 34] (.block (blockOf (subs (bodyOf Try.prog 120) 1 457)) (.loop tEaS_l457_code)) tEaS_l457_sum := loopS_ok tabTa2_ok follows tEaS_l457_E tEaS_l457_R (fun v => by kernel_rfl) (LOK_of _ _ (LOK_nil'))
noncomputable def tEaS_l7_code : Go.Code := loopOf (subs (bodyOf Try.prog 120) 1 7)
structure tEaS_l7_T where
  a0 : Int
  a1 : List (List Int)
  a2 : Int
  a3 : Int
  a4 : Int
  a5 : Int
  a6 : Int
  a7 : Int
  a8 : List (List Int)
  deriving Inhabited
def tEaS_l7_hd0 (v : tEaS_l7_T) : HS := HS.mk [(nat_lit 0, LV.a (At.ptr (nat_lit 0) (nat_lit 0))), (nat_lit 1, LV.a (At.fn (nat_lit 122) [(nat_lit 1, nat_lit 0), (nat_lit 3, nat_lit 0)])), (nat_lit 4, LV.a (At.int true IntKind.i64 (tEaS_l7_T.a0 v)))] [BC.mk (Hd.mk (nat_lit 0) (nat_lit 388) true (some (Rw.mk (nat_lit 4) [Kd.int IntKind.u8, Kd.int IntKind.u8, Kd.int IntKind.u8, Kd.int IntKind.u8, Kd.int IntKind.i64, Kd.int IntKind.u8] (tEaS_l7_T.a1 v) (some (nat_lit 64))))) [some (At.int true IntKind.i64 (tEaS_l7_T.a2 v)), some (At.int true IntKind.i64 (tEaS_l7_T.a3 v)), some (At.int true IntKind.i64 (tEaS_l7_T.a4 v)), some (At.int true IntKind.i64 (tEaS_l7_T.a5 v))], BC.mk (Hd.mk (nat_lit 0) (nat_lit 3) true none) [some (At.int true IntKind.i64 (tEaS_l7_T.a6 v)), some (At.int true IntKind.i64 (tEaS_l7_T.a7 v)), some (At.vec (nat_lit 2) (nat_lit 0) (nat_lit 6))], BC.mk (Hd.mk (nat_lit 0) (nat_lit 0) false (some (Rw.mk (nat_lit 0) [Kd.int IntKind.u8, Kd.int IntKind.u8, Kd.int IntKind.u8, Kd.int IntKind.u8, Kd.int IntKind.i64, Kd.int IntKind.u8] (tEaS_l7_T.a8 v) none))) [], BC.mk (Hd.mk (nat_lit 0) (nat_lit 1) true none) [some (At.ptr (nat_lit 0) (nat_lit 0))]]
def tEaS_l7_hd (v : tEaS_l7_T) : HS := padH (tEaS_l7_hd0 v)
def tEaS_l7_s0 (v : tEaS_l7_T) : Bool := decide (tEaS_l7_T.a0 v < tEaS_l7_T.a5 v)
def tEaS_l7_s1 (v : tEaS_l7_T) : Option (X × tEaS_l457_T) := lrun tEaS_l457_st (18446744073709551616 : Nat) (tEaS_l457_T.mk (tEaS_l7_T.a0 v) (tEaS_l7_T.a2 v) (tEaS_l7_s0 v) (tEaS_l7_T.a1 v) (tEaS_l7_T.a2 v) (tEaS_l7_T.a3 v) (tEaS_l7_T.a4 v) (tEaS_l7_T.a5 v) (tEaS_l7_T.a6 v) (tEaS_l7_T.a7 v) (tEaS_l7_T.a8 v))
def tEaS_l7_st (v : tEaS_l7_T) : List Prop × List (X × Bool × tEaS_l7_T) := ([tEaS_l7_s0 v = true → lok tEaS_l457_st (18446744073709551616 : Nat) (tEaS_l457_T.mk (tEaS_l7_T.a0 v) (tEaS_l7_T.a2 v) (tEaS_l7_s0 v) (tEaS_l7_T.a1 v) (tEaS_l7_T.a2 v) (tEaS_l7_T.a3 v) (tEaS_l7_T.a4 v) (tEaS_l7_T.a5 v) (tEaS_l7_T.a6 v) (tEaS_l7_T.a7 v) (tEaS_l7_T.a8 v))], [(X.e (0 : Nat), !tEaS_l7_s0 v, tEaS_l7_T.mk (tEaS_l7_T.a0 v) (tEaS_l7_T.a1 v) (tEaS_l7_T.a2 v) (tEaS_l7_T.a3 v) (tEaS_l7_T.a4 v) (tEaS_l7_T.a5 v) (tEaS_l7_T.a6 v) (tEaS_l7_T.a7 v) (tEaS_l7_T.a8 v)), (X.n, tEaS_l7_s0 v && isX (X.e (2 : Nat)) (tEaS_l7_s1 v), tEaS_l7_T.mk (IntKind.wrap IntKind.i64 (tEaS_l457_T.a0 (V.valOf (tEaS_l7_s1 v)) + (1 : Int))) (tEaS_l7_T.a1 v) (tEaS_l7_T.a2 v) (tEaS_l7_T.a3 v) (tEaS_l7_T.a4 v) (tEaS_l7_T.a5 v) (tEaS_l7_T.a6 v) (tEaS_l7_T.a7 v) (tEaS_l457_T.a10 (V.valOf (tEaS_l7_s1 v))))])
def tEaS_l7_rd0 : HS → Option tEaS_l7_T
  | HS.mk [(0, LV.a (At.ptr 0 0)), (1, LV.a (At.fn 122 [(1, 0), (3, 0)])), (4, LV.a (At.int true IntKind.i64 a0))] [BC.mk (Hd.mk 0 388 true (some (Rw.mk 4 [Kd.int IntKind.u8, Kd.int IntKind.u8, Kd.int IntKind.u8, Kd.int IntKind.u8, Kd.int IntKind.i64, Kd.int IntKind.u8] a1 (some 64)))) [some (At.int true IntKind.i64 a2), some (At.int true IntKind.i64 a3), some (At.int true IntKind.i64 a4), some (At.int true IntKind.i64 a5)], BC.mk (Hd.mk 0 3 true none) [some (At.int true IntKind.i64 a6), some (At.int true IntKind.i64 a7), some (At.vec 2 0 6)], BC.mk (Hd.mk 0 0 false (some (Rw.mk 0 [Kd.int IntKind.u8, Kd.int IntKind.u8, Kd.int IntKind.u8, Kd.int IntKind.u8, Kd.int IntKind.i64, Kd.int IntKind.u8] a8 none))) [], BC.mk (Hd.mk 0 1 true none) [some (At.ptr 0 0)]] => some (tEaS_l7_T.mk a0 a1 a2 a3 a4 a5 a6 a7 a8)
  | _ => none
def tEaS_l7_rd : HS → Option tEaS_l7_T := rdP tEaS_l7_rd0
def tEaS_l7_sum : V.Sum := loopS tEaS_l7_hd tEaS_l7_rd tEaS_l7_st 18446744073709551616 [X.e (0 : Nat)] [0, 1, 4, 5, 8, 20, 34] [0, 1, 4] [2] [] [] 0
theorem tEaS_l7_E : ∀ v, bodyF Try.prog tabTa2 (ntOf Try.prog 120) [0, 1, 4, 5, 8, 20, 34] [0, 1, 4] [(457, tEaS_l457_sum)] 2000 [2] [] tEaS_l7_code 28 (tEaS_l7_hd v) = some ((tEaS_l7_st v).1, (tEaS_l7_st v).2.map fun q => (q.1, q.2.1, tEaS_l7_hd q.2.2)) := fun v => by kernel_rfl
set_option maxHeartbeats 2000000 in
theorem tEaS_l7_R0 : ∀ h v, tEaS_l7_rd0 h = some v → h = tEaS_l7_hd0 v := by
  intro h v e
  unfold tEaS_l7_rd0 at e
  split at e
  · simp only [Option.some.injEq] at e; subst e; rfl
  · cases e
theorem tEaS_l7_R : ∀ h v, tEaS_l7_rd h = some v → h = tEaS_l7_hd v := rdP_spec tEaS_l7_R0
set_option maxRecDepth 100000 in
theorem tEaS_l7_sok : SumOK Try.prog (ntOf Try.prog 120) [0, 1, 4, 5, 8, 20, 34] (.block (blockOf (subs (bodyOf Try.prog 120) 1 7)) (.loop tEaS_l7_code)) tEaS_l7_sum := loopS_ok tabTa2_ok follows tEaS_l7_E tEaS_l7_R (fun v => by kernel_rfl) (LOK_of _ _ (LOK_cons (show subs tEaS_l7_code 28 457 = [.block (blockOf (subs (bodyOf Try.prog 120) 1 457)) (.loop tEaS_l457_code)] from by kernel_rfl) tEaS_l457_sok (LOK_nil')))
def tEaS_0 (t : List (List Int)) (c0 : Int) (c1 : Int) (c2 : Int) (c3 : Int) (w0 : Int) (h0 : Int) (l : List (List Int)) : List (List Int) := bif !tRt_0 c0 c1 c2 c3 then l else tEaS_l7_T.a8 (V.valOf (lrun tEaS_l7_st (18446744073709551616 : Nat) (tEaS_l7_T.mk c1 t c0 c1 c2 c3 w0 h0 l)))
def tEaS_o (r0 : Bool) (t : List (List Int)) (c0 : Int) (c1 : Int) (c2 : Int) (c3 : Int) (f0 : Bool) (w0 : Int) (h0 : Int) (l : List (List Int)) (f1 : Bool) : List Prop := [(!!tRt_0 c0 c1 c2 c3) = true → lok tEaS_l7_st (18446744073709551616 : Nat) (tEaS_l7_T.mk c1 t c0 c1 c2 c3 w0 h0 l)]
theorem tEaS_p (r0 : Bool) (t : List (List Int)) (c0 : Int) (c1 : Int) (c2 : Int) (c3 : Int) (f0 : Bool) (w0 : Int) (h0 : Int) (l : List (List Int)) (f1 : Bool) : evG Try.prog tabTa2 2000 120 [0, 1, 4, 5, 8, 20, 34] [(7, tEaS_l7_sum), (457, tEaS_l457_sum)] [2] [.a (.ptr 0 0), .a (.fn 122 [(1, 0), (3, 0)])] (padBs [⟨⟨0, 388, r0, some ⟨4, [.int .u8, .int .u8, .int .u8, .int .u8, .int .i64, .int .u8], t, some 64⟩⟩, [some (.int true .i64 c0), some (.int true .i64 c1), some (.int true .i64 c2), some (.int true .i64 c3)]⟩, ⟨⟨0, 3, f0, none⟩, [some (.int true .i64 w0), some (.int true .i64 h0), some (.vec 2 0 6)]⟩, ⟨⟨0, 0, false, some ⟨0, [.int .u8, .int .u8, .int .u8, .int .u8, .int .i64, .int .u8], l, none⟩⟩, []⟩, ⟨⟨0, 1, f1, none⟩, [some (.ptr 0 0)]⟩]) = some (tEaS_o r0 t c0 c1 c2 c3 f0 w0 h0 l f1, LV.t [], padOut [none, none, some (BC.mk (Hd.mk (nat_lit 0) (nat_lit 0) false (some (Rw.mk (nat_lit 0) [Kd.int IntKind.u8, Kd.int IntKind.u8, Kd.int IntKind.u8, Kd.int IntKind.u8, Kd.int IntKind.i64, Kd.int IntKind.u8] (tEaS_0 t c0 c1 c2 c3 w0 h0 l) none))) []), none]) := by kernel_rfl
def tEaS_c0 : Con
  | [.a (.ptr 0 0), .a (.fn 122 [(1, 0), (3, 0)])], [⟨⟨0, 388, r0, some ⟨4, [.int .u8, .int .u8, .int .u8, .int .u8, .int .i64, .int .u8], t, some 64⟩⟩, [some (.int true .i64 c0), some (.int true .i64 c1), some (.int true .i64 c2), some (.int true .i64 c3)]⟩, ⟨⟨0, 3, f0, none⟩, [some (.int true .i64 w0), some (.int true .i64 h0), some (.vec 2 0 6)]⟩, ⟨⟨0, 0, false, some ⟨0, [.int .u8, .int .u8, .int .u8, .int .u8, .int .i64, .int .u8], l, none⟩⟩, []⟩, ⟨⟨0, 1, f1, none⟩, [some (.ptr 0 0)]⟩] => some (tEaS_o r0 t c0 c1 c2 c3 f0 w0 h0 l f1, LV.t [], [none, none, some (BC.mk (Hd.mk (nat_lit 0) (nat_lit 0) false (some (Rw.mk (nat_lit 0) [Kd.int IntKind.u8, Kd.int IntKind.u8, Kd.int IntKind.u8, Kd.int IntKind.u8, Kd.int IntKind.i64, Kd.int IntKind.u8] (tEaS_0 t c0 c1 c2 c3 w0 h0 l) none))) []), none])
  | _, _ => none
def tEaS_c : Con := packC tEaS_c0
theorem tEaS_ok : ConOK Try.prog 120 (normC tEaS_c) := normC_ok (packC_ok (by
  intro args bs obs lv out h ho φ vs w may ha hM
  unfold tEaS_c0 at h
  split at h
  · simp only [Option.some.injEq, Prod.mk.injEq] at h
    obtain ⟨rfl, rfl, rfl⟩ := h
    rename_i r0 t c0 c1 c2 c3 f0 w0 h0 l f1
    exact evG_okL' tabTa2_ok follows (LOK_cons (show subs (bodyOf Try.prog 120) 1 7 = [.block (blockOf (subs (bodyOf Try.prog 120) 1 7)) (.loop tEaS_l7_code)] from by kernel_rfl) tEaS_l7_sok (LOK_cons (show subs (bodyOf Try.prog 120) 1 457 = [.block (blockOf (subs (bodyOf Try.prog 120) 1 457)) (.loop tEaS_l457_code)] from by kernel_rfl) tEaS_l457_sok (LOK_nil'))) _ _ _ _ _ (tEaS_p r0 t c0 c1 c2 c3 f0 w0 h0 l f1) ho φ vs w may ha hM
  · cases h))
theorem tEaS_en : Enters Try.prog 120 := fun args => by kernel_rfl
-- 41051 1 6 ms

def tabTa3 : Tab := (120, normC tEaL_c) :: (120, normC tEaS_c) :: tabTa2
theorem tabTa3_ok : TOK Try.prog tabTa3 := TOK.cons tEaL_en tEaL_ok (TOK.cons tEaS_en tEaS_ok (tabTa2_ok))

end Go.Proofs.Ytcdejlgophpdjaa
end

section
namespace Go.Proofs.Ytcdejlgophpdjaa
open Go Go.RowKit Go.Proofs.Ytcdejlgophpdjaa.V
set_option linter.unusedVariables false

def tLd_D : Tab := (2, decC [(29, false)]) :: tabTa3
theorem tLd_D_ok : TOK Try.prog tLd_D := TOK.cons (fun args => by kernel_rfl) (fun _ _ _ _ _ h ho => (decC_ok h ho).elim) tabTa3_ok
/-! azulejo/tile.Load -/
def tLd_s0 : List Int := [(0 : Int), (0 : Int), (0 : Int), (0 : Int), (0 : Int), (0 : Int)]
def tLd_s1 : List (List Int) := [tLd_s0, tLd_s0, tLd_s0, tLd_s0, tLd_s0, tLd_s0, tLd_s0, tLd_s0, tLd_s0, tLd_s0, tLd_s0, tLd_s0, tLd_s0, tLd_s0, tLd_s0, tLd_s0, tLd_s0, tLd_s0, tLd_s0, tLd_s0, tLd_s0, tLd_s0, tLd_s0, tLd_s0, tLd_s0, tLd_s0, tLd_s0, tLd_s0, tLd_s0, tLd_s0, tLd_s0, tLd_s0, tLd_s0, tLd_s0, tLd_s0, tLd_s0, tLd_s0, tLd_s0, tLd_s0, tLd_s0, tLd_s0, tLd_s0, tLd_s0, tLd_s0, tLd_s0, tLd_s0, tLd_s0, tLd_s0, tLd_s0, tLd_s0, tLd_s0, tLd_s0, tLd_s0, tLd_s0, tLd_s0, tLd_s0, tLd_s0, tLd_s0, tLd_s0, tLd_s0, tLd_s0, tLd_s0, tLd_s0, tLd_s0]
def tLd_0 (w0 : Int) (h0 : Int) (x1 : Int) (l : List (List Int)) : List (List Int) := tEaL_0 tLd_s1 (bBox_0 w0 h0 x1) (bBox_1 w0 h0 x1) (bBox_2 w0 h0 x1) (bBox_3 w0 h0 x1) w0 h0 l
def tLd_1 (w0 : Int) (h0 : Int) (x1 : Int) (l : List (List Int)) : Int := tEaL_1 tLd_s1 (bBox_0 w0 h0 x1) (bBox_1 w0 h0 x1) (bBox_2 w0 h0 x1) (bBox_3 w0 h0 x1) w0 h0 l
def tLd_2 (w0 : Int) (h0 : Int) (x1 : Int) (l : List (List Int)) : Int := tEaL_2 tLd_s1 (bBox_0 w0 h0 x1) (bBox_1 w0 h0 x1) (bBox_2 w0 h0 x1) (bBox_3 w0 h0 x1) w0 h0 l
def tLd_3 (w0 : Int) (h0 : Int) (x1 : Int) (l : List (List Int)) : Int := tEaL_3 tLd_s1 (bBox_0 w0 h0 x1) (bBox_1 w0 h0 x1) (bBox_2 w0 h0 x1) (bBox_3 w0 h0 x1) w0 h0 l
def tLd_4 (w0 : Int) (h0 : Int) (x1 : Int) (l : List (List Int)) : Int := tEaL_4 tLd_s1 (bBox_0 w0 h0 x1) (bBox_1 w0 h0 x1) (bBox_2 w0 h0 x1) (bBox_3 w0 h0 x1) w0 h0 l
def tLd_o (w0 : Int) (h0 : Int) (x1 : Int) (r0 : Bool) (l : List (List Int)) : List Prop := [(!bBox_s0 w0 h0 x1) = true → bTiles_0 w0 ≠ (0 : Int), (!bBox_s0 w0 h0 x1) = true → bTiles_0 w0 ≠ (0 : Int), (bBox_0 w0 h0 x1 == (0 : Int) && (bBox_1 w0 h0 x1 == (0 : Int) && (bBox_2 w0 h0 x1 == (0 : Int) && bBox_3 w0 h0 x1 == (0 : Int)))) = false, (!!tRt_0 (bBox_0 w0 h0 x1) (bBox_1 w0 h0 x1) (bBox_2 w0 h0 x1) (bBox_3 w0 h0 x1)) = true → lok tEaL_l7_st (18446744073709551616 : Nat) (tEaL_l7_T.mk (bBox_1 w0 h0 x1) tLd_s1 (bBox_0 w0 h0 x1) (bBox_1 w0 h0 x1) (bBox_2 w0 h0 x1) (bBox_3 w0 h0 x1) w0 h0 l)]
theorem tLd_p (w0 : Int) (h0 : Int) (x1 : Int) (r0 : Bool) (l : List (List Int)) : evG Try.prog tLd_D 2000 73 [0, 1, 2, 4, 5, 6, 7, 14] [] [] [.g [.int true .i64 w0, .int true .i64 h0, .vec 0 0 6], .a (.int true .i64 x1)] (padBs [⟨⟨0, 0, r0, some ⟨0, [.int .u8, .int .u8, .int .u8, .int .u8, .int .i64, .int .u8], l, none⟩⟩, []⟩]) = some (tLd_o w0 h0 x1 r0 l, LV.t [LV.a (At.ptr (nat_lit 1) (nat_lit 0)), LV.a (At.bool false true)], padOut [none, some (BC.mk (Hd.mk (nat_lit 0) (nat_lit 388) false (some (Rw.mk (nat_lit 4) [Kd.int IntKind.u8, Kd.int IntKind.u8, Kd.int IntKind.u8, Kd.int IntKind.u8, Kd.int IntKind.i64, Kd.int IntKind.u8] (tLd_0 w0 h0 x1 l) (some (nat_lit 64))))) [some (At.int true IntKind.i64 (tLd_1 w0 h0 x1 l)), some (At.int true IntKind.i64 (tLd_2 w0 h0 x1 l)), some (At.int true IntKind.i64 (tLd_3 w0 h0 x1 l)), some (At.int true IntKind.i64 (tLd_4 w0 h0 x1 l))])]) := by kernel_rfl
def tLd_c0 : Con
  | [.g [.int true .i64 w0, .int true .i64 h0, .vec 0 0 6], .a (.int true .i64 x1)], [⟨⟨0, 0, r0, some ⟨0, [.int .u8, .int .u8, .int .u8, .int .u8, .int .i64, .int .u8], l, none⟩⟩, []⟩] => some (tLd_o w0 h0 x1 r0 l, LV.t [LV.a (At.ptr (nat_lit 1) (nat_lit 0)), LV.a (At.bool false true)], [none, some (BC.mk (Hd.mk (nat_lit 0) (nat_lit 388) false (some (Rw.mk (nat_lit 4) [Kd.int IntKind.u8, Kd.int IntKind.u8, Kd.int IntKind.u8, Kd.int IntKind.u8, Kd.int IntKind.i64, Kd.int IntKind.u8] (tLd_0 w0 h0 x1 l) (some (nat_lit 64))))) [some (At.int true IntKind.i64 (tLd_1 w0 h0 x1 l)), some (At.int true IntKind.i64 (tLd_2 w0 h0 x1 l)), some (At.int true IntKind.i64 (tLd_3 w0 h0 x1 l)), some (At.int true IntKind.i64 (tLd_4 w0 h0 x1 l))])])
  | _, _ => none
def tLd_c : Con := packC tLd_c0
theorem tLd_ok : ConOK Try.prog 73 (normC tLd_c) := normC_ok (packC_ok (by
  intro args bs obs lv out h ho φ vs w may ha hM
  unfold tLd_c0 at h
  split at h
  · simp only [Option.some.injEq, Prod.mk.injEq] at h
    obtain ⟨rfl, rfl, rfl⟩ := h
    rename_i w0 h0 x1 r0 l
    exact evG_ok tLd_D_ok follows _ _ _ _ _ (tLd_p w0 h0 x1 r0 l) ho φ vs w may ha hM
  · cases h))
theorem tLd_en : Enters Try.prog 73 := fun args => by kernel_rfl
-- 2081 3417 16 ms

def tLdZ_D : Tab := (2, decC [(29, true)]) :: tabTa3
theorem tLdZ_D_ok : TOK Try.prog tLdZ_D := TOK.cons (fun args => by kernel_rfl) (fun _ _ _ _ _ h ho => (decC_ok h ho).elim) tabTa3_ok
/-! azulejo/tile.Load -/
def tLdZ_o (w0 : Int) (h0 : Int) (x1 : Int) (r0 : Bool) (l : List (List Int)) : List Prop := [(!bBox_s0 w0 h0 x1) = true → bTiles_0 w0 ≠ (0 : Int), (!bBox_s0 w0 h0 x1) = true → bTiles_0 w0 ≠ (0 : Int), (bBox_0 w0 h0 x1 == (0 : Int) && (bBox_1 w0 h0 x1 == (0 : Int) && (bBox_2 w0 h0 x1 == (0 : Int) && bBox_3 w0 h0 x1 == (0 : Int)))) = true]
theorem tLdZ_p (w0 : Int) (h0 : Int) (x1 : Int) (r0 : Bool) (l : List (List Int)) : evG Try.prog tLdZ_D 2000 73 [0, 1, 2, 4, 5, 6, 7, 14] [] [] [.g [.int true .i64 w0, .int true .i64 h0, .vec 0 0 6], .a (.int true .i64 x1)] [⟨⟨0, 0, r0, some ⟨0, [.int .u8, .int .u8, .int .u8, .int .u8, .int .i64, .int .u8], l, none⟩⟩, []⟩] = some (tLdZ_o w0 h0 x1 r0 l, LV.t [LV.a At.nil, LV.a (At.bool false false)], [none]) := by kernel_rfl
def tLdZ_c : Con
  | [.g [.int true .i64 w0, .int true .i64 h0, .vec 0 0 6], .a (.int true .i64 x1)], [⟨⟨0, 0, r0, some ⟨0, [.int .u8, .int .u8, .int .u8, .int .u8, .int .i64, .int .u8], l, none⟩⟩, []⟩] => some (tLdZ_o w0 h0 x1 r0 l, LV.t [LV.a At.nil, LV.a (At.bool false false)], [none])
  | _, _ => none
theorem tLdZ_ok : ConOK Try.prog 73 (normC tLdZ_c) := normC_ok (by
  intro args bs obs lv out h ho φ vs w may ha hM
  unfold tLdZ_c at h
  split at h
  · simp only [Option.some.injEq, Prod.mk.injEq] at h
    obtain ⟨rfl, rfl, rfl⟩ := h
    rename_i w0 h0 x1 r0 l
    exact evG_ok tLdZ_D_ok follows _ _ _ _ _ (tLdZ_p w0 h0 x1 r0 l) ho φ vs w may ha hM
  · cases h)
theorem tLdZ_en : Enters Try.prog 73 := fun args => by kernel_rfl
-- 284 2 0 ms

/-! (*azulejo/tile.Tile).Store -/
def tSt_0 (w1 : Int) (h1 : Int) (t : List (List Int)) (c0 : Int) (c1 : Int) (c2 : Int) (c3 : Int) (l : List (List Int)) : List (List Int) := tEaS_0 t c0 c1 c2 c3 w1 h1 l
def tSt_o (w1 : Int) (h1 : Int) (r0 : Bool) (t : List (List Int)) (c0 : Int) (c1 : Int) (c2 : Int) (c3 : Int) (l : List (List Int)) : List Prop := [(!!tRt_0 c0 c1 c2 c3) = true → lok tEaS_l7_st (18446744073709551616 : Nat) (tEaS_l7_T.mk c1 t c0 c1 c2 c3 w1 h1 l)]
theorem tSt_p (w1 : Int) (h1 : Int) (r0 : Bool) (t : List (List Int)) (c0 : Int) (c1 : Int) (c2 : Int) (c3 : Int) (l : List (List Int)) : evG Try.prog tabTa3 2000 74 [0, 1, 2, 3, 5] [] [1] [.a (.ptr 0 0), .g [.int true .i64 w1, .int true .i64 h1, .vec 1 0 6]] (padBs [⟨⟨0, 388, r0, some ⟨4, [.int .u8, .int .u8, .int .u8, .int .u8, .int .i64, .int .u8], t, some 64⟩⟩, [some (.int true .i64 c0), some (.int true .i64 c1), some (.int true .i64 c2), some (.int true .i64 c3)]⟩, ⟨⟨0, 0, false, some ⟨0, [.int .u8, .int .u8, .int .u8, .int .u8, .int .i64, .int .u8], l, none⟩⟩, []⟩]) = some (tSt_o w1 h1 r0 t c0 c1 c2 c3 l, LV.t [], padOut [none, some (BC.mk (Hd.mk (nat_lit 0) (nat_lit 0) false (some (Rw.mk (nat_lit 0) [Kd.int IntKind.u8, Kd.int IntKind.u8, Kd.int IntKind.u8, Kd.int IntKind.u8, Kd.int IntKind.i64, Kd.int IntKind.u8] (tSt_0 w1 h1 t c0 c1 c2 c3 l) none))) [])]) := by kernel_rfl
def tSt_c0 : Con
  | [.a (.ptr 0 0), .g [.int true .i64 w1, .int true .i64 h1, .vec 1 0 6]], [⟨⟨0, 388, r0, some ⟨4, [.int .u8, .int .u8, .int .u8, .int .u8, .int .i64, .int .u8], t, some 64⟩⟩, [some (.int true .i64 c0), some (.int true .i64 c1), some (.int true .i64 c2), some (.int true .i64 c3)]⟩, ⟨⟨0, 0, false, some ⟨0, [.int .u8, .int .u8, .int .u8, .int .u8, .int .i64, .int .u8], l, none⟩⟩, []⟩] => some (tSt_o w1 h1 r0 t c0 c1 c2 c3 l, LV.t [], [none, some (BC.mk (Hd.mk (nat_lit 0) (nat_lit 0) false (some (Rw.mk (nat_lit 0) [Kd.int IntKind.u8, Kd.int IntKind.u8, Kd.int IntKind.u8, Kd.int IntKind.u8, Kd.int IntKind.i64, Kd.int IntKind.u8] (tSt_0 w1 h1 t c0 c1 c2 c3 l) none))) [])])
  | _, _ => none
def tSt_c : Con := packC tSt_c0
theorem tSt_ok : ConOK Try.prog 74 (normC tSt_c) := normC_ok (packC_ok (by
  intro args bs obs lv out h ho φ vs w may ha hM
  unfold tSt_c0 at h
  split at h
  · simp only [Option.some.injEq, Prod.mk.injEq] at h
    obtain ⟨rfl, rfl, rfl⟩ := h
    rename_i w1 h1 r0 t c0 c1 c2 c3 l
    exact evG_ok tabTa3_ok follows _ _ _ _ _ (tSt_p w1 h1 r0 t c0 c1 c2 c3 l) ho φ vs w may ha hM
  · cases h))
theorem tSt_en : Enters Try.prog 74 := fun args => by kernel_rfl
-- 4689 3 3 ms

/-! (*azulejo/tile.Tile).Store -/
theorem tStN_p (w1 : Int) (h1 : Int) (l : List (List Int)) : evG Try.prog tabTa3 2000 74 [0, 1, 2, 3, 5] [] [] [.a .nil, .g [.int true .i64 w1, .int true .i64 h1, .vec 0 0 6]] [⟨⟨0, 0, false, some ⟨0, [.int .u8, .int .u8, .int .u8, .int .u8, .int .i64, .int .u8], l, none⟩⟩, []⟩] = some ([], LV.t [], [none]) := by kernel_rfl
def tStN_c : Con
  | [.a .nil, .g [.int true .i64 w1, .int true .i64 h1, .vec 0 0 6]], [⟨⟨0, 0, false, some ⟨0, [.int .u8, .int .u8, .int .u8, .int .u8, .int .i64, .int .u8], l, none⟩⟩, []⟩] => some ([], LV.t [], [none])
  | _, _ => none
theorem tStN_ok : ConOK Try.prog 74 (normC tStN_c) := normC_ok (by
  intro args bs obs lv out h ho φ vs w may ha hM
  unfold tStN_c at h
  split at h
  · simp only [Option.some.injEq, Prod.mk.injEq] at h
    obtain ⟨rfl, rfl, rfl⟩ := h
    rename_i w1 h1 l
    exact evG_ok tabTa3_ok follows _ _ _ _ _ (tStN_p w1 h1 l) ho φ vs w may ha hM
  · cases h)
theorem tStN_en : Enters Try.prog 74 := fun args => by kernel_rfl
-- 56 0 0 ms

def tabTa4 : Tab := (73, normC tLd_c) :: (73, normC tLdZ_c) :: (74, normC tSt_c) :: (74, normC tStN_c) :: tabTa3
theorem tabTa4_ok : TOK Try.prog tabTa4 := TOK.cons tLd_en tLd_ok (TOK.cons tLdZ_en tLdZ_ok (TOK.cons tSt_en tSt_ok (TOK.cons tStN_en tStN_ok (tabTa3_ok))))

end Go.Proofs.Ytcdejlgophpdjaa
end

section
namespace Go.Proofs.Ytcdejlgophpdjaa
open Go Go.RowKit Go.Proofs.Ytcdejlgophpdjaa.V

def tabTa5 : Tab := (73, litC 1 1 (normC tLdZ_c)) :: tabTa4
theorem tabTa5_ok : TOK Try.prog tabTa5 := TOK.cons tLdZ_en (litC_ok tLdZ_ok) tabTa4_ok

end Go.Proofs.Ytcdejlgophpdjaa
end

section
namespace Go.Proofs.Ytcdejlgophpdjaa
open Go Go.RowKit Go.Proofs.Ytcdejlgophpdjaa.V
set_option linter.unusedVariables false

/-! azulejo/azulejolaw21.Awake -/
def tAw_s0 : List (List Int) := fNew_0 (3 : Int) (2 : Int) (0 : Int) (0 : Int) (0 : Int) (0 : Int) (5 : Int) (0 : Int)
def tAw_0 : Bool := bif tLd_3 (fNew_s2 (3 : Int)) (fNew_s5 (2 : Int)) (0 : Int) tAw_s0 == (3 : Int) then bif tLd_4 (fNew_s2 (3 : Int)) (fNew_s5 (2 : Int)) (0 : Int) tAw_s0 == (2 : Int) then rget (tLd_0 (fNew_s2 (3 : Int)) (fNew_s5 (2 : Int)) (0 : Int) tAw_s0) (0 : Nat) ((4 : Nat) % (6 : Nat)) == (5 : Int) else false else false
def tAw_s1 : Int := bMul64_0 (IntKind.wrap IntKind.u64 (Int.ofNat (1 : Nat))) (IntKind.wrap IntKind.u64 (fNew_s6 (3 : Int) (2 : Int)))
def tAw_s2 : Int := sRep_s1 (fNew_s6 (3 : Int) (2 : Int))
def tAw_s3 : List (List Int) := sRep_s2 (fNew_s6 (3 : Int) (2 : Int))
def tAw_s4 : Int := bBox_0 (fNew_s2 (3 : Int)) (fNew_s5 (2 : Int)) (0 : Int)
def tAw_s5 : Int := bBox_1 (fNew_s2 (3 : Int)) (fNew_s5 (2 : Int)) (0 : Int)
def tAw_s6 : Int := bBox_2 (fNew_s2 (3 : Int)) (fNew_s5 (2 : Int)) (0 : Int)
def tAw_s7 : Int := bBox_3 (fNew_s2 (3 : Int)) (fNew_s5 (2 : Int)) (0 : Int)
def tAw_o  : List Prop := [decide (fNew_s6 (3 : Int) (2 : Int) < (0 : Int)) = false, (bif decide ((0 : Int) < tAw_s1) then true else decide ((9223372036854775807 : Int) < tAw_s2)) = false, (0 : Int) ≤ IntKind.wrap IntKind.i64 tAw_s2 ∧ IntKind.wrap IntKind.i64 tAw_s2 = IntKind.wrap IntKind.i64 tAw_s2 ∧ IntKind.wrap IntKind.i64 tAw_s2 * Int.ofNat (24 : Nat) ≤ (70368744177664 : Int), lok sRep_l254_st (18446744073709551616 : Nat) (sRep_l254_T.mk (Int.ofNat (sRep_s3 (fNew_s6 (3 : Int) (2 : Int)) (0 : Int) (0 : Int) (0 : Int) (0 : Int) (5 : Int) (0 : Int))) (List.take (0 : Nat) tAw_s3 ++ List.take (6 : Nat) (sRep_s0 (0 : Int) (0 : Int) (0 : Int) (0 : Int) (5 : Int) (0 : Int)) ++ List.drop (1 : Nat) tAw_s3)), (!bBox_s0 (fNew_s2 (3 : Int)) (fNew_s5 (2 : Int)) (0 : Int)) = true → bTiles_0 (fNew_s2 (3 : Int)) ≠ (0 : Int), (!bBox_s0 (fNew_s2 (3 : Int)) (fNew_s5 (2 : Int)) (0 : Int)) = true → bTiles_0 (fNew_s2 (3 : Int)) ≠ (0 : Int), (tAw_s4 == (0 : Int) && (tAw_s5 == (0 : Int) && (tAw_s6 == (0 : Int) && tAw_s7 == (0 : Int)))) = false, (!!tRt_0 tAw_s4 tAw_s5 tAw_s6 tAw_s7) = true → lok tEaL_l7_st (18446744073709551616 : Nat) (tEaL_l7_T.mk tAw_s5 tLd_s1 tAw_s4 tAw_s5 tAw_s6 tAw_s7 (fNew_s2 (3 : Int)) (fNew_s5 (2 : Int)) tAw_s0), (!bBox_s0 (fNew_s2 (3 : Int)) (fNew_s5 (2 : Int)) (1 : Int)) = true → bTiles_0 (fNew_s2 (3 : Int)) ≠ (0 : Int), (!bBox_s0 (fNew_s2 (3 : Int)) (fNew_s5 (2 : Int)) (1 : Int)) = true → bTiles_0 (fNew_s2 (3 : Int)) ≠ (0 : Int), (bBox_0 (fNew_s2 (3 : Int)) (fNew_s5 (2 : Int)) (1 : Int) == (0 : Int) && (bBox_1 (fNew_s2 (3 : Int)) (fNew_s5 (2 : Int)) (1 : Int) == (0 : Int) && (bBox_2 (fNew_s2 (3 : Int)) (fNew_s5 (2 : Int)) (1 : Int) == (0 : Int) && bBox_3 (fNew_s2 (3 : Int)) (fNew_s5 (2 : Int)) (1 : Int) == (0 : Int)))) = true]
theorem tAw_p  : evG Try.prog tabTa5 2000 71 [0, 1, 2, 3, 5] [] [] [] [] = some (tAw_o , LV.a (At.bool true tAw_0), []) := by kernel_rfl
def tAw_c : Con
  | [], [] => some (tAw_o , LV.a (At.bool true tAw_0), [])
  | _, _ => none
theorem tAw_ok : ConOK Try.prog 71 (normC tAw_c) := normC_ok (by
  intro args bs obs lv out h ho φ vs w may ha hM
  unfold tAw_c at h
  split at h
  · simp only [Option.some.injEq, Prod.mk.injEq] at h
    obtain ⟨rfl, rfl, rfl⟩ := h
    exact evG_ok tabTa5_ok follows _ _ _ _ _ (tAw_p ) ho φ vs w may ha hM
  · cases h)
theorem tAw_en : Enters Try.prog 71 := fun args => by kernel_rfl
-- 537 48 11 ms

def tabTa6 : Tab := (71, normC tAw_c) :: tabTa5
theorem tabTa6_ok : TOK Try.prog tabTa6 := TOK.cons tAw_en tAw_ok (tabTa5_ok)

end Go.Proofs.Ytcdejlgophpdjaa
end

section
namespace Go.Proofs.Ytcdejlgophpdjaa
open Go Go.RowKit Go.Proofs.Ytcdejlgophpdjaa.V

theorem vecLitC_ok : ConOK Try.prog 2 vecLitC := by
  intro args bs obs lv out h ho
  unfold vecLitC at h
  split at h
  · simp only [Option.some.injEq, Prod.mk.injEq] at h
    obtain ⟨rfl, rfl, rfl⟩ := h
    exact ho.1.elim
  · cases h
theorem vecLitC_en : Enters Try.prog 2 := fun args => by kernel_rfl
def tabFgl : Tab := (2, vecLitC) :: tabFg3
theorem tabFgl_ok : TOK Try.prog tabFgl := TOK.cons vecLitC_en vecLitC_ok tabFg3_ok

end Go.Proofs.Ytcdejlgophpdjaa
end

section
namespace Go.Proofs.Ytcdejlgophpdjaa
open Go Go.RowKit Go.Proofs.Ytcdejlgophpdjaa.V
set_option linter.unusedVariables false

/-! azulejo/crc.Sum -/
noncomputable def cSum_l14951_code : Go.Code := loopOf (subs (bodyOf Try.prog 118) 1 14951)
structure cSum_l14951_T where
  a0 : Int
  a1 : Int
  a2 : Int
  a3 : Int
  a4 : Int
  a5 : Bool
  a6 : Int
  a7 : List (List Int)
  deriving Inhabited
def cSum_l14951_hd (v : cSum_l14951_T) : HS := HS.mk [(nat_lit 2, LV.a (At.int true IntKind.u32 (cSum_l14951_T.a0 v))), (nat_lit 3, LV.a (At.int true IntKind.u32 (cSum_l14951_T.a1 v))), (nat_lit 5, LV.a (At.int true IntKind.u8 (cSum_l14951_T.a2 v))), (nat_lit 6, LV.a (At.vec (nat_lit 0) (nat_lit 0) (nat_lit 1))), (nat_lit 7, LV.a (At.int true IntKind.i64 (cSum_l14951_T.a3 v))), (nat_lit 8, LV.a (At.int true IntKind.i64 (cSum_l14951_T.a4 v))), (nat_lit 9, LV.a (At.bool true (cSum_l14951_T.a5 v))), (nat_lit 17, LV.a (At.int true IntKind.i64 (cSum_l14951_T.a6 v)))] [BC.mk (Hd.mk (nat_lit 0) (nat_lit 0) true (some (Rw.mk (nat_lit 0) [Kd.int IntKind.u8] (cSum_l14951_T.a7 v) none))) []]
def cSum_l14951_s0 (v : cSum_l14951_T) : Bool := decide (cSum_l14951_T.a6 v < (8 : Int))
def cSum_l14951_s1 (v : cSum_l14951_T) : Int := IntKind.wrap IntKind.u32 (cSum_l14951_T.a1 v * (2 : Int) ^ min (Int.toNat (1 : Int)) (IntKind.bits IntKind.u32))
def cSum_l14951_s2 : Int := Int.ofNat ((2 : Nat) ^ IntKind.bits IntKind.u32)
def cSum_l14951_st (v : cSum_l14951_T) : List Prop × List (X × Bool × cSum_l14951_T) := ([], [(X.e (2 : Nat), !cSum_l14951_s0 v, cSum_l14951_T.mk (cSum_l14951_T.a0 v) (cSum_l14951_T.a1 v) (cSum_l14951_T.a2 v) (cSum_l14951_T.a3 v) (cSum_l14951_T.a4 v) (cSum_l14951_T.a5 v) (cSum_l14951_T.a6 v) (cSum_l14951_T.a7 v)), (X.n, cSum_l14951_s0 v, cSum_l14951_T.mk (cSum_l14951_T.a0 v) (bif Int.fdiv (cSum_l14951_T.a1 v) ((2 : Int) ^ min (Int.toNat (31 : Int)) (IntKind.bits IntKind.u32)) == (1 : Int) then IntKind.wrap IntKind.u32 (Int.ofNat (Int.toNat (cSum_l14951_s1 v % cSum_l14951_s2) ^^^ Int.toNat ((79764919 : Int) % cSum_l14951_s2))) else cSum_l14951_s1 v) (cSum_l14951_T.a2 v) (cSum_l14951_T.a3 v) (cSum_l14951_T.a4 v) (cSum_l14951_T.a5 v) (IntKind.wrap IntKind.i64 (cSum_l14951_T.a6 v + (1 : Int))) (cSum_l14951_T.a7 v))])
def cSum_l14951_rd : HS → Option cSum_l14951_T
  | HS.mk [(2, LV.a (At.int true IntKind.u32 a0)), (3, LV.a (At.int true IntKind.u32 a1)), (5, LV.a (At.int true IntKind.u8 a2)), (6, LV.a (At.vec 0 0 1)), (7, LV.a (At.int true IntKind.i64 a3)), (8, LV.a (At.int true IntKind.i64 a4)), (9, LV.a (At.bool true a5)), (17, LV.a (At.int true IntKind.i64 a6))] [BC.mk (Hd.mk 0 0 true (some (Rw.mk 0 [Kd.int IntKind.u8] a7 none))) []] => some (cSum_l14951_T.mk a0 a1 a2 a3 a4 a5 a6 a7)
  | _ => none
def cSum_l14951_sum : V.Sum := loopS cSum_l14951_hd cSum_l14951_rd cSum_l14951_st 18446744073709551616 [X.e (2 : Nat)] [0, 2, 3, 5, 6, 7, 8, 9, 17, 18, 21] [2, 3, 5, 6, 7, 8, 9, 17] [] [] [] 2
theorem cSum_l14951_E : ∀ v, bodyF Try.prog tabFgl (ntOf Try.prog 118) [0, 2, 3, 5, 6, 7, 8, 9, 17, 18, 21] [2, 3, 5, 6, 7, 8, 9, 17] [] 2000 [] [] cSum_l14951_code 59804 (cSum_l14951_hd v) = some ((cSum_l14951_st v).1, (cSum_l14951_st v).2.map fun q => (q.1, q.2.1, cSum_l14951_hd q.2.2)) := fun v => by kernel_rfl
set_option maxHeartbeats 2000000 in
theorem cSum_l14951_R : ∀ h v, cSum_l14951_rd h = some v → h = cSum_l14951_hd v := by
  intro h v e
  unfold cSum_l14951_rd at e
  split at e
  · simp only [Option.some.injEq] at e; subst e; rfl
  · cases e
set_option maxRecDepth 100000 in
theorem cSum_l14951_sok : SumOK Try.prog (ntOf Try.prog 118) [0, 2, 3, 5, 6, 7, 8, 9, 17, 18, 21] (.block (blockOf (subs (bodyOf Try.prog 118) 1 14951)) (.loop cSum_l14951_code)) cSum_l14951_sum := loopS_ok tabFgl_ok follows cSum_l14951_E cSum_l14951_R (fun v => by kernel_rfl) (LOK_of _ _ (LOK_nil'))
noncomputable def cSum_l29_code : Go.Code := loopOf (subs (bodyOf Try.prog 118) 1 29)
structure cSum_l29_T where
  a0 : Int
  a1 : Int
  a2 : Int
  a3 : Int
  a4 : List (List Int)
  deriving Inhabited
def cSum_l29_hd (v : cSum_l29_T) : HS := HS.mk [(nat_lit 2, LV.a (At.int true IntKind.u32 (cSum_l29_T.a0 v))), (nat_lit 3, LV.a (At.int true IntKind.u32 (cSum_l29_T.a1 v))), (nat_lit 6, LV.a (At.vec (nat_lit 0) (nat_lit 0) (nat_lit 1))), (nat_lit 7, LV.a (At.int true IntKind.i64 (cSum_l29_T.a2 v))), (nat_lit 8, LV.a (At.int true IntKind.i64 (cSum_l29_T.a3 v)))] [BC.mk (Hd.mk (nat_lit 0) (nat_lit 0) true (some (Rw.mk (nat_lit 0) [Kd.int IntKind.u8] (cSum_l29_T.a4 v) none))) []]
def cSum_l29_s0 (v : cSum_l29_T) : Bool := decide (cSum_l29_T.a3 v < cSum_l29_T.a2 v)
def cSum_l29_s1 : Int := Int.ofNat ((2 : Nat) ^ IntKind.bits IntKind.u32)
def cSum_l29_s2 (v : cSum_l29_T) : Option (X × cSum_l14951_T) := lrun cSum_l14951_st (18446744073709551616 : Nat) (cSum_l14951_T.mk (cSum_l29_T.a0 v) (IntKind.wrap IntKind.u32 (Int.ofNat (Int.toNat (cSum_l29_T.a1 v % cSum_l29_s1) ^^^ Int.toNat (IntKind.wrap IntKind.u32 (IntKind.wrap IntKind.u32 (rget (cSum_l29_T.a4 v) (Int.toNat (cSum_l29_T.a3 v)) (0 : Nat)) * (2 : Int) ^ min (Int.toNat (24 : Int)) (IntKind.bits IntKind.u32)) % cSum_l29_s1)))) (rget (cSum_l29_T.a4 v) (Int.toNat (cSum_l29_T.a3 v)) (0 : Nat)) (cSum_l29_T.a2 v) (cSum_l29_T.a3 v) (cSum_l29_s0 v) (0 : Int) (cSum_l29_T.a4 v))
def cSum_l29_st (v : cSum_l29_T) : List Prop × List (X × Bool × cSum_l29_T) := ([cSum_l29_s0 v = true → (0 : Int) ≤ cSum_l29_T.a3 v ∧ cSum_l29_T.a3 v < Int.ofNat (List.length (cSum_l29_T.a4 v)), cSum_l29_s0 v = true → lok cSum_l14951_st (18446744073709551616 : Nat) (cSum_l14951_T.mk (cSum_l29_T.a0 v) (IntKind.wrap IntKind.u32 (Int.ofNat (Int.toNat (cSum_l29_T.a1 v % cSum_l29_s1) ^^^ Int.toNat (IntKind.wrap IntKind.u32 (IntKind.wrap IntKind.u32 (rget (cSum_l29_T.a4 v) (Int.toNat (cSum_l29_T.a3 v)) (0 : Nat)) * (2 : Int) ^ min (Int.toNat (24 : Int)) (IntKind.bits IntKind.u32)) % cSum_l29_s1)))) (rget (cSum_l29_T.a4 v) (Int.toNat (cSum_l29_T.a3 v)) (0 : Nat)) (cSum_l29_T.a2 v) (cSum_l29_T.a3 v) (cSum_l29_s0 v) (0 : Int) (cSum_l29_T.a4 v))], [(X.e (0 : Nat), !cSum_l29_s0 v, cSum_l29_T.mk (cSum_l29_T.a0 v) (cSum_l29_T.a1 v) (cSum_l29_T.a2 v) (cSum_l29_T.a3 v) (cSum_l29_T.a4 v)), (X.n, cSum_l29_s0 v && isX (X.e (2 : Nat)) (cSum_l29_s2 v), cSum_l29_T.mk (cSum_l14951_T.a0 (V.valOf (cSum_l29_s2 v))) (cSum_l14951_T.a1 (V.valOf (cSum_l29_s2 v))) (cSum_l14951_T.a3 (V.valOf (cSum_l29_s2 v))) (IntKind.wrap IntKind.i64 (cSum_l14951_T.a4 (V.valOf (cSum_l29_s2 v)) + (1 : Int))) (cSum_l29_T.a4 v))])
def cSum_l29_rd : HS → Option cSum_l29_T
  | HS.mk [(2, LV.a (At.int true IntKind.u32 a0)), (3, LV.a (At.int true IntKind.u32 a1)), (6, LV.a (At.vec 0 0 1)), (7, LV.a (At.int true IntKind.i64 a2)), (8, LV.a (At.int true IntKind.i64 a3))] [BC.mk (Hd.mk 0 0 true (some (Rw.mk 0 [Kd.int IntKind.u8] a4 none))) []] => some (cSum_l29_T.mk a0 a1 a2 a3 a4)
  | _ => none
def cSum_l29_sum : V.Sum := loopS cSum_l29_hd cSum_l29_rd cSum_l29_st 18446744073709551616 [X.e (0 : Nat)] [0, 2, 3, 5, 6, 7, 8, 9, 17, 18, 21] [2, 3, 6, 7, 8] [] [] [] 0
theorem cSum_l29_E : ∀ v, bodyF Try.prog tabFgl (ntOf Try.prog 118) [0, 2, 3, 5, 6, 7, 8, 9, 17, 18, 21] [2, 3, 6, 7, 8] [(14951, cSum_l14951_sum)] 2000 [] [] cSum_l29_code 116 (cSum_l29_hd v) = some ((cSum_l29_st v).1, (cSum_l29_st v).2.map fun q => (q.1, q.2.1, cSum_l29_hd q.2.2)) := fun v => by kernel_rfl
set_option maxHeartbeats 2000000 in
theorem cSum_l29_R : ∀ h v, cSum_l29_rd h = some v → h = cSum_l29_hd v := by
  intro h v e
  unfold cSum_l29_rd at e
  split at e
  · simp only [Option.some.injEq] at e; subst e; rfl
  · cases e
set_option maxRecDepth 100000 in
theorem cSum_l29_sok : SumOK Try.prog (ntOf Try.prog 118) [0, 2, 3, 5, 6, 7, 8, 9, 17, 18, 21] (.block (blockOf (subs (bodyOf Try.prog 118) 1 29)) (.loop cSum_l29_code)) cSum_l29_sum := loopS_ok tabFgl_ok follows cSum_l29_E cSum_l29_R (fun v => by kernel_rfl) (LOK_of _ _ (LOK_cons (show subs cSum_l29_code 116 14951 = [.block (blockOf (subs (bodyOf Try.prog 118) 1 14951)) (.loop cSum_l14951_code)] from by kernel_rfl) cSum_l14951_sok (LOK_nil')))
def cSum_s0 : Int := Int.ofNat ((2 : Nat) ^ IntKind.bits IntKind.u32)
def cSum_0 (l : List (List Int)) : Int := IntKind.wrap IntKind.u32 (Int.ofNat (Int.toNat ((if false = true then (-1 : Int) else if false = true then (2 : Int) ^ (31 : Nat) - (1 : Int) else (2 : Int) ^ IntKind.bits IntKind.u32 - (1 : Int)) % cSum_s0) ^^^ Int.toNat (cSum_l29_T.a1 (V.valOf (lrun cSum_l29_st (18446744073709551616 : Nat) (cSum_l29_T.mk (0 : Int) (4294967295 : Int) (Int.ofNat (List.length l)) (0 : Int) l))) % cSum_s0)))
def cSum_o (r0 : Bool) (l : List (List Int)) : List Prop := [lok cSum_l29_st (18446744073709551616 : Nat) (cSum_l29_T.mk (0 : Int) (4294967295 : Int) (Int.ofNat (List.length l)) (0 : Int) l)]
theorem cSum_p (r0 : Bool) (l : List (List Int)) : evG Try.prog tabFgl 2000 118 [0, 2, 3, 5, 6, 7, 8, 9, 17, 18, 21] [(29, cSum_l29_sum), (14951, cSum_l14951_sum)] [] [.a (.vec 0 0 1)] [⟨⟨0, 0, r0, some ⟨0, [.int .u8], l, none⟩⟩, []⟩] = some (cSum_o r0 l, LV.a (At.int true IntKind.u32 (cSum_0 l)), [none]) := by kernel_rfl
def cSum_c : Con
  | [.a (.vec 0 0 1)], [⟨⟨0, 0, r0, some ⟨0, [.int .u8], l, none⟩⟩, []⟩] => some (cSum_o r0 l, LV.a (At.int true IntKind.u32 (cSum_0 l)), [none])
  | _, _ => none
theorem cSum_ok : ConOK Try.prog 118 (normC cSum_c) := normC_ok (by
  intro args bs obs lv out h ho φ vs w may ha hM
  unfold cSum_c at h
  split at h
  · simp only [Option.some.injEq, Prod.mk.injEq] at h
    obtain ⟨rfl, rfl, rfl⟩ := h
    rename_i r0 l
    exact evG_okL' tabFgl_ok follows (LOK_cons (show subs (bodyOf Try.prog 118) 1 29 = [.block (blockOf (subs (bodyOf Try.prog 118) 1 29)) (.loop cSum_l29_code)] from by kernel_rfl) cSum_l29_sok (LOK_cons (show subs (bodyOf Try.prog 118) 1 14951 = [.block (blockOf (subs (bodyOf Try.prog 118) 1 14951)) (.loop cSum_l14951_code)] from by kernel_rfl) cSum_l14951_sok (LOK_nil'))) _ _ _ _ _ (cSum_p r0 l) ho φ vs w may ha hM
  · cases h)
theorem cSum_en : Enters Try.prog 118 := fun args => by kernel_rfl
-- 2205 2 8 ms

def tabFm1 : Tab := (118, normC cSum_c) :: tabFgl
theorem tabFm1_ok : TOK Try.prog tabFm1 := TOK.cons cSum_en cSum_ok (tabFgl_ok)

end Go.Proofs.Ytcdejlgophpdjaa
end

section
namespace Go.Proofs.Ytcdejlgophpdjaa
open Go Go.RowKit Go.Proofs.Ytcdejlgophpdjaa.V
set_option linter.unusedVariables false

/-! (azulejo/frame.Frame).Sum -/
noncomputable def fSum_l29_code : Go.Code := loopOf (subs (bodyOf Try.prog 63) 1 29)
structure fSum_l29_T where
  a0 : Int
  a1 : Int
  a2 : Int
  a3 : List (List Int)
  a4 : List (List Int)
  deriving Inhabited
def fSum_l29_hd (v : fSum_l29_T) : HS := HS.mk [(nat_lit 2, LV.a (At.int true IntKind.u32 (fSum_l29_T.a0 v))), (nat_lit 3, LV.a (At.vec (nat_lit 1) (nat_lit 0) (nat_lit 1))), (nat_lit 7, LV.a (At.vec (nat_lit 0) (nat_lit 0) (nat_lit 6))), (nat_lit 8, LV.a (At.int true IntKind.i64 (fSum_l29_T.a1 v))), (nat_lit 9, LV.a (At.int true IntKind.i64 (fSum_l29_T.a2 v)))] [BC.mk (Hd.mk (nat_lit 0) (nat_lit 0) true (some (Rw.mk (nat_lit 0) [Kd.int IntKind.u8, Kd.int IntKind.u8, Kd.int IntKind.u8, Kd.int IntKind.u8, Kd.int IntKind.i64, Kd.int IntKind.u8] (fSum_l29_T.a3 v) none))) [], BC.mk (Hd.mk (nat_lit 0) (nat_lit 0) false (some (Rw.mk (nat_lit 0) [Kd.int IntKind.u8] (fSum_l29_T.a4 v) none))) []]
def fSum_l29_s0 (v : fSum_l29_T) : Bool := decide (fSum_l29_T.a2 v < fSum_l29_T.a1 v)
def fSum_l29_s1 (v : fSum_l29_T) : List (List Int) := fSum_l29_T.a4 v ++ [[rget (fSum_l29_T.a3 v) (Int.toNat (fSum_l29_T.a2 v)) (0 : Nat)], [rget (fSum_l29_T.a3 v) (Int.toNat (fSum_l29_T.a2 v)) (1 : Nat)], [rget (fSum_l29_T.a3 v) (Int.toNat (fSum_l29_T.a2 v)) (2 : Nat)], [rget (fSum_l29_T.a3 v) (Int.toNat (fSum_l29_T.a2 v)) (3 : Nat)]]
def fSum_l29_s2 (v : fSum_l29_T) : List (List Int) := fSum_l29_s1 v ++ [[IntKind.wrap IntKind.u8 (Int.fdiv (rget (fSum_l29_T.a3 v) (Int.toNat (fSum_l29_T.a2 v)) (4 : Nat)) ((2 : Int) ^ min (Int.toNat (8 : Int)) (IntKind.bits IntKind.i64)))], [IntKind.wrap IntKind.u8 (rget (fSum_l29_T.a3 v) (Int.toNat (fSum_l29_T.a2 v)) (4 : Nat))], [rget (fSum_l29_T.a3 v) (Int.toNat (fSum_l29_T.a2 v)) (5 : Nat)]]
def fSum_l29_st (v : fSum_l29_T) : List Prop × List (X × Bool × fSum_l29_T) := ([fSum_l29_s0 v = true → (0 : Int) ≤ fSum_l29_T.a2 v ∧ fSum_l29_T.a2 v < Int.ofNat (List.length (fSum_l29_T.a3 v)), fSum_l29_s0 v = true → List.length (fSum_l29_s1 v) * (1 : Nat) ≤ (70368744177664 : Nat), fSum_l29_s0 v = true → List.length (fSum_l29_s2 v) * (1 : Nat) ≤ (70368744177664 : Nat)], [(X.e (0 : Nat), !fSum_l29_s0 v, fSum_l29_T.mk (fSum_l29_T.a0 v) (fSum_l29_T.a1 v) (fSum_l29_T.a2 v) (fSum_l29_T.a3 v) (fSum_l29_T.a4 v)), (X.n, fSum_l29_s0 v, fSum_l29_T.mk (fSum_l29_T.a0 v) (fSum_l29_T.a1 v) (IntKind.wrap IntKind.i64 (fSum_l29_T.a2 v + (1 : Int))) (fSum_l29_T.a3 v) (fSum_l29_s2 v))])
def fSum_l29_rd : HS → Option fSum_l29_T
  | HS.mk [(2, LV.a (At.int true IntKind.u32 a0)), (3, LV.a (At.vec 1 0 1)), (7, LV.a (At.vec 0 0 6)), (8, LV.a (At.int true IntKind.i64 a1)), (9, LV.a (At.int true IntKind.i64 a2))] [BC.mk (Hd.mk 0 0 true (some (Rw.mk 0 [Kd.int IntKind.u8, Kd.int IntKind.u8, Kd.int IntKind.u8, Kd.int IntKind.u8, Kd.int IntKind.i64, Kd.int IntKind.u8] a3 none))) [], BC.mk (Hd.mk 0 0 false (some (Rw.mk 0 [Kd.int IntKind.u8] a4 none))) []] => some (fSum_l29_T.mk a0 a1 a2 a3 a4)
  | _ => none
def fSum_l29_sum : V.Sum := loopS fSum_l29_hd fSum_l29_rd fSum_l29_st 18446744073709551616 [X.e (0 : Nat)] [0, 1, 2, 3, 5, 7, 8, 9, 10] [2, 3, 7, 8, 9] [1] [1] [(3, [.int .u8])] 0
theorem fSum_l29_E : ∀ v, bodyF Try.prog tabFm1 (ntOf Try.prog 63) [0, 1, 2, 3, 5, 7, 8, 9, 10] [2, 3, 7, 8, 9] [] 2000 [1] [1] fSum_l29_code 116 (fSum_l29_hd v) = some ((fSum_l29_st v).1, (fSum_l29_st v).2.map fun q => (q.1, q.2.1, fSum_l29_hd q.2.2)) := fun v => by kernel_rfl
set_option maxHeartbeats 2000000 in
theorem fSum_l29_R : ∀ h v, fSum_l29_rd h = some v → h = fSum_l29_hd v := by
  intro h v e
  unfold fSum_l29_rd at e
  split at e
  · simp only [Option.some.injEq] at e; subst e; rfl
  · cases e
set_option maxRecDepth 100000 in
theorem fSum_l29_sok : SumOK Try.prog (ntOf Try.prog 63) [0, 1, 2, 3, 5, 7, 8, 9, 10] (.block (blockOf (subs (bodyOf Try.prog 63) 1 29)) (.loop fSum_l29_code)) fSum_l29_sum := loopS_ok tabFm1_ok follows fSum_l29_E fSum_l29_R (fun v => by kernel_rfl) (LOK_of _ _ (LOK_nil'))
def fSum_s0 (l : List (List Int)) : Option (X × fSum_l29_T) := lrun fSum_l29_st (18446744073709551616 : Nat) (fSum_l29_T.mk (0 : Int) (Int.ofNat (List.length l)) (0 : Int) l [])
def fSum_0 (l : List (List Int)) : Int := cSum_0 (fSum_l29_T.a4 (V.valOf (fSum_s0 l)))
def fSum_o (w0 : Int) (h0 : Int) (r0 : Bool) (l : List (List Int)) : List Prop := [lok fSum_l29_st (18446744073709551616 : Nat) (fSum_l29_T.mk (0 : Int) (Int.ofNat (List.length l)) (0 : Int) l []), isX (X.e (0 : Nat)) (fSum_s0 l) = true → lok cSum_l29_st (18446744073709551616 : Nat) (cSum_l29_T.mk (0 : Int) (4294967295 : Int) (Int.ofNat (List.length (fSum_l29_T.a4 (V.valOf (fSum_s0 l))))) (0 : Int) (fSum_l29_T.a4 (V.valOf (fSum_s0 l))))]
theorem fSum_p (w0 : Int) (h0 : Int) (r0 : Bool) (l : List (List Int)) : evG Try.prog tabFm1 2000 63 [0, 1, 2, 3, 5, 7, 8, 9, 10] [(29, fSum_l29_sum)] [] [.g [.int true .i64 w0, .int true .i64 h0, .vec 0 0 6]] [⟨⟨0, 0, r0, some ⟨0, [.int .u8, .int .u8, .int .u8, .int .u8, .int .i64, .int .u8], l, none⟩⟩, []⟩] = some (fSum_o w0 h0 r0 l, LV.a (At.int true IntKind.u32 (fSum_0 l)), [none]) := by kernel_rfl
def fSum_c : Con
  | [.g [.int true .i64 w0, .int true .i64 h0, .vec 0 0 6]], [⟨⟨0, 0, r0, some ⟨0, [.int .u8, .int .u8, .int .u8, .int .u8, .int .i64, .int .u8], l, none⟩⟩, []⟩] => some (fSum_o w0 h0 r0 l, LV.a (At.int true IntKind.u32 (fSum_0 l)), [none])
  | _, _ => none
theorem fSum_ok : ConOK Try.prog 63 (normC fSum_c) := normC_ok (by
  intro args bs obs lv out h ho φ vs w may ha hM
  unfold fSum_c at h
  split at h
  · simp only [Option.some.injEq, Prod.mk.injEq] at h
    obtain ⟨rfl, rfl, rfl⟩ := h
    rename_i w0 h0 r0 l
    exact evG_okL' tabFm1_ok follows (LOK_cons (show subs (bodyOf Try.prog 63) 1 29 = [.block (blockOf (subs (bodyOf Try.prog 63) 1 29)) (.loop fSum_l29_code)] from by kernel_rfl) fSum_l29_sok (LOK_nil')) _ _ _ _ _ (fSum_p w0 h0 r0 l) ho φ vs w may ha hM
  · cases h)
theorem fSum_en : Enters Try.prog 63 := fun args => by kernel_rfl
-- 1239 1 6 ms

def tabFm2 : Tab := (63, normC fSum_c) :: tabFm1
theorem tabFm2_ok : TOK Try.prog tabFm2 := TOK.cons fSum_en fSum_ok (tabFm1_ok)

end Go.Proofs.Ytcdejlgophpdjaa
end

section
namespace Go.Proofs.Ytcdejlgophpdjaa
open Go Go.RowKit Go.Proofs.Ytcdejlgophpdjaa.V
set_option linter.unusedVariables false
set_option linter.unusedSectionVars false

theorem wu_in {x : Int} (h0 : 0 ≤ x) (h1 : x ≤ 18446744073709551615) : IntKind.wrap .u64 x = x := by
  have e := IntKind.wrap_u64 x
  omega

theorem mul_1 {x : Int} (h0 : 0 ≤ x) (h1 : x ≤ 4096) : bMul64_1 (IntKind.wrap .u64 (Int.ofNat 1)) (IntKind.wrap .u64 x) = x := by
  unfold bMul64_1
  have e1 : IntKind.wrap .u64 (Int.ofNat 1) = 1 := by decide
  rw [e1, wu_in h0 (by omega), Int.one_mul, wu_in h0 (by omega)]

theorem mul_0 {x : Int} (h0 : 0 ≤ x) (h1 : x ≤ 4096) : bMul64_0 (IntKind.wrap .u64 (Int.ofNat 1)) (IntKind.wrap .u64 x) = 0 := by
  have e1 : IntKind.wrap .u64 (Int.ofNat 1) = 1 := by decide
  have es0 : bMul64_s0 = 4294967296 := by decide +kernel
  have es1 : bMul64_s1 = 18446744073709551616 := by decide +kernel
  have es2 : bMul64_s2 = 2 ^ 32 - 1 := by decide +kernel
  have es4 : bMul64_s4 1 = 1 := by decide +kernel
  have hf : Int.fdiv x 4294967296 = 0 := by rw [Int.fdiv_eq_ediv_of_nonneg _ (by omega)]; omega
  have hf1 : Int.fdiv 1 4294967296 = 0 := by decide
  have es3 : bMul64_s3 x = x := by
    unfold bMul64_s3
    rw [es1, es2, Nat.and_two_pow_sub_one_eq_mod]
    have e2 : x % 18446744073709551616 = x := Int.emod_eq_of_lt h0 (by omega)
    rw [e2]
    have e3 : Int.ofNat (x.toNat % 2 ^ 32) = x := by
      show ((x.toNat % 2 ^ 32 : Nat) : Int) = x
      omega
    rw [e3, wu_in h0 (by omega)]
  have es5 : bMul64_s5 1 x = 0 := by
    unfold bMul64_s5
    rw [es0, es3, es4, hf1, Int.zero_mul, Int.one_mul, wu_in h0 (by omega), hf]
    decide
  unfold bMul64_0
  rw [e1, wu_in h0 (by omega), es0, es5, es4, hf, hf1]
  decide +kernel

section
variable {p0 p1 p2 p3 p4 p5 : Int} {N : Nat} (h1 : 1 ≤ N) (h2 : N ≤ 4096)

def rpS (p : List Int) (N k : Nat) : sRep_l254_T := .mk (Int.ofNat k) (List.replicate k p ++ List.replicate (N - k) [0, 0, 0, 0, 0, 0])

theorem rp_len (p : List Int) {N k : Nat} (h : k ≤ N) : (rpS p N k).a1.length = N := by
  show (_ ++ _ : List (List Int)).length = N
  rw [List.length_append, List.length_replicate, List.length_replicate]; omega

theorem rp_s0 (p : List Int) {N k : Nat} (h : k ≤ N) : sRep_l254_s0 (rpS p N k) = decide (k < N) := by
  unfold sRep_l254_s0
  rw [rp_len p h]
  exact decide_eq_decide.2 Int.ofNat_lt

theorem rp_step (p : List Int) {N k : Nat} (hk : 1 ≤ k) (h : k < N) (hN : N ≤ 4096) : ∃ j, k < j ∧ j ≤ N ∧ pick1 (sRep_l254_st (rpS p N k)).2 = some (.n, rpS p N j) := by
  refine ⟨k + min k (N - k), by omega, by omega, ?_⟩
  unfold sRep_l254_st
  rw [rp_s0 p (by omega), decide_eq_true h]
  have e1 : sRep_l254_s1 (rpS p N k) = List.replicate k p := by
    unfold sRep_l254_s1
    show List.take (k - 0) (List.drop 0 (List.replicate k p ++ List.replicate (N - k) [0, 0, 0, 0, 0, 0])) = _
    rw [Nat.sub_zero, List.drop_zero, List.take_append_of_le_length (by simp), List.take_of_length_le (by simp)]
  have e2 : sRep_l254_s2 (rpS p N k) = N - k := by
    unfold sRep_l254_s2
    rw [rp_len p (by omega)]; rfl
  have e3 : Nat.min k (N - k) = min k (N - k) := rfl
  simp only [pick1, Bool.not_true, e1, e2, List.length_replicate, e3]
  have e4 : IntKind.wrap .i64 ((rpS p N k).a0 + Int.ofNat (min k (N - k))) = Int.ofNat (k + min k (N - k)) := by
    show IntKind.wrap .i64 (Int.ofNat k + Int.ofNat (min k (N - k))) = _
    have f1 : Int.ofNat k = (k : Int) := rfl
    have f2 : Int.ofNat (min k (N - k)) = ((min k (N - k) : Nat) : Int) := rfl
    have f3 : Int.ofNat (k + min k (N - k)) = ((k + min k (N - k) : Nat) : Int) := rfl
    rw [f1, f2, f3, w64_in (by omega) (by omega)]; omega
  rw [e4]
  unfold rpS
  congr 3
  show List.take k (List.replicate k p ++ List.replicate (N - k) [0, 0, 0, 0, 0, 0]) ++ List.take (N - k) (List.replicate k p) ++ List.drop (k + min k (N - k)) (List.replicate k p ++ List.replicate (N - k) [0, 0, 0, 0, 0, 0]) = _
  rw [List.take_append_of_le_length (by simp), List.take_of_length_le (by simp), List.take_replicate, List.drop_append, List.drop_of_length_le (by simp), List.nil_append, List.length_replicate, List.drop_replicate, List.replicate_append_replicate]
  congr 2
  · rw [Nat.min_comm]
  · omega

theorem rp_end (p : List Int) (N : Nat) : pick1 (sRep_l254_st (rpS p N N)).2 = some (.e 0, rpS p N N) := by
  unfold sRep_l254_st
  rw [rp_s0 p (Nat.le_refl _), decide_eq_false (Nat.lt_irrefl _)]
  rfl

theorem rp_obs (p : List Int) {N k : Nat} (h : k ≤ N) : Alls (sRep_l254_st (rpS p N k)).1 := by
  unfold sRep_l254_st
  rw [rp_len p h]
  have f1 : (rpS p N k).a0 = (k : Int) := rfl
  have f2 : Int.ofNat N = (N : Int) := rfl
  have f3 : Int.ofNat 0 = 0 := rfl
  rw [f1, f2, f3]
  exact ⟨fun _ => ⟨by omega, by omega, by omega⟩, fun _ => ⟨by omega, by omega, by omega⟩, trivial⟩

include h1 h2
theorem rep_start (p : List Int) (hp : sRep_s0 p0 p1 p2 p3 p4 p5 = [p]) : sRep_l254_T.mk (Int.ofNat (sRep_s3 (N : Int) p0 p1 p2 p3 p4 p5)) (List.take 0 (sRep_s2 (N : Int)) ++ List.take (List.length (sRep_s2 (N : Int))) (sRep_s0 p0 p1 p2 p3 p4 p5) ++ List.drop (0 + sRep_s3 (N : Int) p0 p1 p2 p3 p4 p5) (sRep_s2 (N : Int))) = rpS p N 1 := by
  have e2 : sRep_s2 (N : Int) = List.replicate N [0, 0, 0, 0, 0, 0] := by
    unfold sRep_s2 sRep_s1
    rw [mul_1 (by omega) (by omega), w64_in (by omega) (by omega), Int.toNat_natCast]
  have e3 : sRep_s3 (N : Int) p0 p1 p2 p3 p4 p5 = 1 := by
    unfold sRep_s3
    rw [e2, List.length_replicate]
    show min 1 N = 1
    omega
  rw [e2, e3, hp]
  unfold rpS
  congr 1
  rw [List.take_zero, List.nil_append, List.length_replicate, List.drop_replicate, List.take_of_length_le (by simp; omega)]
  rfl

omit h1 h2 in
theorem rp_go (p : List Int) {N : Nat} (hN : N ≤ 4096) (i : Nat) (h : i < N - 1) : ∃ j, i < j ∧ j ≤ N - 1 ∧ pick1 (sRep_l254_st (rpS p N (i + 1))).2 = some (.n, rpS p N (j + 1)) := by
  obtain ⟨j, g1, g2, g3⟩ := rp_step p (k := i + 1) (by omega) (by omega) hN
  exact ⟨j - 1, by omega, by omega, by rw [show j - 1 + 1 = j by omega]; exact g3⟩
omit h2 in
theorem rp_end' (p : List Int) : pick1 (sRep_l254_st (rpS p N (N - 1 + 1))).2 = some (.e 0, rpS p N N) := by
  rw [show N - 1 + 1 = N by omega]; exact rp_end p N

theorem rep_eq : sRep_0 (N : Int) p0 p1 p2 p3 p4 p5 = List.replicate N [p0, p1, p2, p3, p4, p5] := by
  unfold sRep_0
  rw [rep_start h1 h2 [p0, p1, p2, p3, p4, p5] rfl, lm_run (st := sRep_l254_st) (s := fun i => rpS [p0, p1, p2, p3, p4, p5] N (i + 1)) (n := N - 1) (rp_go _ h2) (rp_end' h1 _) nofun (N - 1) 0 (by omega) (by omega) 18446744073709551616 (by omega)]
  show List.replicate N _ ++ List.replicate (N - N) _ = _
  rw [Nat.sub_self]; simp

theorem rep_obs (r0 : Bool) : Alls (sRep_o (N : Int) r0 p0 p1 p2 p3 p4 p5) := by
  unfold sRep_o sRep_s1
  rw [mul_1 (by omega) (by omega), mul_0 (by omega) (by omega), w64_in (by omega) (by omega), rep_start h1 h2 [p0, p1, p2, p3, p4, p5] rfl]
  have f : Int.ofNat 24 = 24 := rfl
  refine ⟨decide_eq_false (by omega), ?_, ⟨by omega, rfl, by rw [f]; omega⟩, ?_, trivial⟩
  · rw [decide_eq_false (show ¬ (9223372036854775807 : Int) < N by omega)]; rfl
  · exact lm_lok (st := sRep_l254_st) (s := fun i => rpS [p0, p1, p2, p3, p4, p5] N (i + 1)) (n := N - 1) (rp_go _ h2) (rp_end' h1 _) nofun (fun i h => rp_obs _ (by omega)) (N - 1) 0 (by omega) (by omega) 18446744073709551616 (by omega)

end
end Go.Proofs.Ytcdejlgophpdjaa
end

section
namespace Go.Proofs.Ytcdejlgophpdjaa
open Go Go.RowKit Go.Proofs.Ytcdejlgophpdjaa.V
set_option linter.unusedVariables false
set_option linter.unusedSectionVars false

theorem isX_rf {k : Nat} {α : Type} {v : α} : isX (.e k) (some (.e k, v)) = true := by simp [isX, xeq]

/-- Is a pixel's depth one? -/
def dOK (l : List (List Int)) (i : Nat) : Prop := 0 ≤ rget l i 4 ∧ rget l i 4 ≤ 65535
def cS (l : List (List Int)) (i : Nat) : fChk_l29_T := .mk 0 (Int.ofNat l.length) (i : Int) l

theorem c_s0 (l : List (List Int)) (i : Nat) : fChk_l29_s0 (cS l i) = decide (i < l.length) := by
  unfold fChk_l29_s0
  exact decide_eq_decide.2 Int.ofNat_lt
theorem c_s2 {l : List (List Int)} {i : Nat} (h : dOK l i) : fChk_l29_s2 (cS l i) = false := by
  unfold fChk_l29_s2
  show (bif decide (rget l i 4 < 0) then true else decide (65535 < rget l i 4)) = false
  rw [decide_eq_false (by have := h.1; omega), decide_eq_false (by have := h.2; omega)]; rfl
theorem c_s2n {l : List (List Int)} {i : Nat} (h : ¬ dOK l i) : fChk_l29_s2 (cS l i) = true := by
  unfold fChk_l29_s2
  show (bif decide (rget l i 4 < 0) then true else decide (65535 < rget l i 4)) = true
  by_cases h0 : rget l i 4 < 0
  · rw [decide_eq_true h0]; rfl
  · rw [decide_eq_false h0, decide_eq_true (by unfold dOK at h; omega)]; rfl
theorem c_step {l : List (List Int)} (hL : l.length ≤ 4096) {i : Nat} (hi : i < l.length) (h : dOK l i) : pick1 (fChk_l29_st (cS l i)).2 = some (.n, cS l (i + 1)) := by
  unfold fChk_l29_st
  rw [c_s0, decide_eq_true hi, c_s2 h]
  have e : IntKind.wrap .i64 ((cS l i).a2 + 1) = ((i + 1 : Nat) : Int) := by
    show IntKind.wrap .i64 ((i : Int) + 1) = _
    rw [w64_in (by omega) (by omega)]; omega
  rw [e]; rfl
theorem c_bad {l : List (List Int)} {i : Nat} (hi : i < l.length) (h : ¬ dOK l i) : pick1 (fChk_l29_st (cS l i)).2 = some (.r, .mk 2 (Int.ofNat l.length) (i : Int) l) := by
  unfold fChk_l29_st
  rw [c_s0, decide_eq_true hi, c_s2n h]; rfl
theorem c_end (l : List (List Int)) : pick1 (fChk_l29_st (cS l l.length)).2 = some (.e 0, cS l l.length) := by
  unfold fChk_l29_st
  rw [c_s0, decide_eq_false (Nat.lt_irrefl _)]; rfl
theorem c_obs (l : List (List Int)) (i : Nat) : Alls (fChk_l29_st (cS l i)).1 := by
  unfold fChk_l29_st
  rw [c_s0]
  exact ⟨fun h => ⟨Int.natCast_nonneg i, Int.ofNat_lt.2 (of_decide_eq_true h)⟩, trivial⟩

theorem first (p : Nat → Prop) : ∀ n : Nat, ∃ m, m ≤ n ∧ (∀ i, i < m → p i) ∧ (m = n ∨ ¬ p m)
  | 0 => ⟨0, by omega, fun i h => absurd h (by omega), .inl rfl⟩
  | n + 1 => by
    obtain ⟨m, a, b, c⟩ := first p n
    rcases c with c | c
    · subst c
      by_cases h : p m
      · exact ⟨m + 1, by omega, fun i hi => by by_cases e : i = m; exact e ▸ h; exact b i (by omega), .inl rfl⟩
      · exact ⟨m, by omega, b, .inr h⟩
    · exact ⟨m, by omega, b, .inr c⟩

theorem c_lok {l : List (List Int)} (hL : l.length ≤ 4096) : lok fChk_l29_st 18446744073709551616 (.mk 0 (Int.ofNat l.length) 0 l) := by
  obtain ⟨m, a, b, c⟩ := first (dOK l) l.length
  show lok fChk_l29_st 18446744073709551616 (cS l 0)
  by_cases h : m = l.length
  · subst h
    exact lx_lok (s := cS l) (fun i hi => c_step hL hi (b i hi)) (c_end l) nofun (fun i _ => c_obs l i) (by omega)
  · exact lx_lok (s := cS l) (fun i hi => c_step hL (by omega) (b i hi)) (c_bad (by omega) (c.resolve_left h)) nofun (fun i _ => c_obs l i) (by omega)

theorem c_good {w h : Int} {l : List (List Int)} (hL : l.length ≤ 4096) (hs : fChk_s0 w h l = false) (b : ∀ i, i < l.length → dOK l i) : fChk_0 w h l = 0 := by
  have e : fChk_s1 l = some (.e 0, cS l l.length) := by
    unfold fChk_s1
    show lrun _ _ (cS l 0) = _
    exact lx_run (s := cS l) (fun i hi => c_step hL hi (b i hi)) (c_end l) nofun (by omega)
  unfold fChk_0
  rw [hs, e]; rfl
theorem c_two {w h : Int} {l : List (List Int)} (hL : l.length ≤ 4096) (hs : fChk_s0 w h l = false) {m : Nat} (hm : m < l.length) (b : ∀ i, i < m → dOK l i) (c : ¬ dOK l m) : fChk_0 w h l = 2 := by
  have e : fChk_s1 l = some (.r, .mk 2 (Int.ofNat l.length) (m : Int) l) := by
    unfold fChk_s1
    show lrun _ _ (cS l 0) = _
    exact lx_run (s := cS l) (fun i hi => c_step hL (by omega) (b i hi)) (c_bad hm c) nofun (by omega)
  unfold fChk_0
  rw [hs, e]; rfl
theorem c_six {w h : Int} {l : List (List Int)} (hs : fChk_s0 w h l = true) : fChk_0 w h l = 6 := by
  unfold fChk_0
  rw [hs]; rfl

section
variable {w h : Nat} {l : List (List Int)} (w1 : w ≤ 64) (h1 : h ≤ 64) (hl : l.length = w * h) (hb : ∀ k j, j < 3 → 0 ≤ rget l k j ∧ rget l k j ≤ 255)

def tI (w h y : Nat) (l : List (List Int)) (x : Nat) (out : List (List Int)) : fText_l31333_T := .mk ⟨⟨[]⟩⟩ (y : Int) (h : Int) (y : Int) true (w : Int) (x : Int) (w : Int) (h : Int) l out
def tC (w h y : Nat) (l : List (List Int)) (x : Nat) : Int := byteAt fText_l31333_s2 (fText_l31333_s1 (tI w h y l x [])).toNat
def tO (w h y : Nat) (l out : List (List Int)) (x : Nat) : List (List Int) := out ++ (List.range x).map fun k => [tC w h y l k]

theorem tO_len (w h y : Nat) (l out : List (List Int)) (x : Nat) : (tO w h y l out x).length = out.length + x := by
  unfold tO; simp
theorem tO_succ (w h y : Nat) (l out : List (List Int)) (x : Nat) : tO w h y l out (x + 1) = tO w h y l out x ++ [[tC w h y l x]] := by
  unfold tO; simp [List.range_succ]

include hl w1 h1 in
theorem at_in {x y : Nat} (hx : x < w) (hy : y < h) : fAt_s0 w x y = ((y * w + x : Nat) : Int) ∧ y * w + x < l.length := by
  have e1 : y * w ≤ 63 * w := Nat.mul_le_mul_right _ (by omega)
  have e2 : y * w + w ≤ h * w := by
    have := Nat.mul_le_mul_right w (show y + 1 ≤ h by omega)
    rw [Nat.succ_mul] at this; exact this
  unfold fAt_s0
  have c1 : (y : Int) * (w : Int) = ((y * w : Nat) : Int) := by simp
  rw [c1, w64_in (n := ((y * w : Nat) : Int)) (by omega) (by omega), w64_in (n := ((y * w : Nat) : Int) + (x : Int)) (by omega) (by omega), hl, Nat.mul_comm w h]
  exact ⟨by omega, by omega⟩

include hb in
theorem at_bd (a b c d : Int) : (0 ≤ fAt_0 a b c d l ∧ fAt_0 a b c d l ≤ 255) ∧ (0 ≤ fAt_1 a b c d l ∧ fAt_1 a b c d l ≤ 255) ∧ (0 ≤ fAt_2 a b c d l ∧ fAt_2 a b c d l ≤ 255) := by
  refine ⟨?_, ?_, ?_⟩ <;> simp only [fAt_0, fAt_1, fAt_2] <;> cases fAt_s1 a b c d l <;> first | exact hb _ _ (by decide) | exact (show (0 : Int) ≤ 0 ∧ (0 : Int) ≤ 255 by decide)

include hb in
theorem t_s1 (y x : Nat) (out : List (List Int)) : 0 ≤ fText_l31333_s1 (tI w h y l x out) ∧ fText_l31333_s1 (tI w h y l x out) < 10 := by
  unfold fText_l31333_s1
  obtain ⟨⟨a0, a1⟩, ⟨b0, b1⟩, ⟨c0, c1⟩⟩ := at_bd hb (w : Int) (h : Int) (x : Int) (y : Int)
  show 0 ≤ IntKind.wrap .i64 (Int.tdiv (IntKind.wrap .i64 (IntKind.wrap .i64 (IntKind.wrap .i64 (IntKind.wrap .i64 (fAt_0 w h x y l) + IntKind.wrap .i64 (fAt_1 w h x y l)) + IntKind.wrap .i64 (fAt_2 w h x y l)) * 10)) 766) ∧ IntKind.wrap .i64 (Int.tdiv (IntKind.wrap .i64 (IntKind.wrap .i64 (IntKind.wrap .i64 (IntKind.wrap .i64 (fAt_0 w h x y l) + IntKind.wrap .i64 (fAt_1 w h x y l)) + IntKind.wrap .i64 (fAt_2 w h x y l)) * 10)) 766) < 10
  generalize fAt_0 (w : Int) h x y l = A at *
  generalize fAt_1 (w : Int) h x y l = B at *
  generalize fAt_2 (w : Int) h x y l = C at *
  rw [w64_in (n := A) (by omega) (by omega), w64_in (n := B) (by omega) (by omega), w64_in (n := C) (by omega) (by omega), w64_in (n := A + B) (by omega) (by omega), w64_in (n := A + B + C) (by omega) (by omega), w64_in (n := (A + B + C) * 10) (by omega) (by omega), Int.tdiv_eq_ediv_of_nonneg (by omega), w64_in (by omega) (by omega)]
  omega

theorem t_s0 (y x : Nat) (out : List (List Int)) : fText_l31333_s0 (tI w h y l x out) = decide (x < w) := by
  unfold fText_l31333_s0
  exact decide_eq_decide.2 Int.ofNat_lt

include w1 in
theorem t_step (y : Nat) (out : List (List Int)) (x : Nat) (hx : x < w) : pick1 (fText_l31333_st (tI w h y l x (tO w h y l out x))).2 = some (.n, tI w h y l (x + 1) (tO w h y l out (x + 1))) := by
  unfold fText_l31333_st
  rw [t_s0, decide_eq_true hx]
  have e : IntKind.wrap .i64 ((tI w h y l x (tO w h y l out x)).a6 + 1) = ((x + 1 : Nat) : Int) := by
    show IntKind.wrap .i64 ((x : Int) + 1) = _
    rw [w64_in (by omega) (by omega)]; omega
  have e3 : fText_l31333_s3 (tI w h y l x (tO w h y l out x)) = tO w h y l out (x + 1) := by
    rw [tO_succ]; rfl
  rw [e, e3]; rfl
theorem t_end (y : Nat) (out : List (List Int)) : pick1 (fText_l31333_st (tI w h y l w (tO w h y l out w))).2 = some (.e 2, tI w h y l w (tO w h y l out w)) := by
  unfold fText_l31333_st
  rw [t_s0, decide_eq_false (Nat.lt_irrefl _)]; rfl
include w1 h1 hl hb in
theorem t_obs {y : Nat} (hy : y < h) {out : List (List Int)} (ho : out.length ≤ 10000) (x : Nat) (hx : x ≤ w) : Alls (fText_l31333_st (tI w h y l x (tO w h y l out x))).1 := by
  unfold fText_l31333_st
  rw [t_s0]
  refine ⟨fun g _ => ?_, fun g => ?_, fun g => ?_, trivial⟩
  · obtain ⟨e, f⟩ := at_in w1 h1 hl (of_decide_eq_true g) hy
    show 0 ≤ fAt_s0 w x y ∧ fAt_s0 w x y < Int.ofNat l.length
    rw [e]
    exact ⟨by omega, Int.ofNat_lt.2 f⟩
  · have := t_s1 hb y x (tO w h y l out x) (w := w) (h := h)
    exact ⟨this.1, this.2⟩
  · have e3 : fText_l31333_s3 (tI w h y l x (tO w h y l out x)) = tO w h y l out (x + 1) := by
      rw [tO_succ]; rfl
    rw [e3, tO_len]; omega

def uS (w h : Nat) (l : List (List Int)) (out : Nat → List (List Int)) (y : Nat) : fText_l61_T := .mk ⟨⟨[]⟩⟩ (h : Int) (y : Int) (w : Int) (h : Int) l (out y)
/-- What is written before row y. -/
def uO (w h : Nat) (l : List (List Int)) : Nat → List (List Int)
  | 0 => []
  | y + 1 => tO w h y l (uO w h l y) w ++ [[10]]
theorem uO_len (w h : Nat) (l : List (List Int)) : ∀ y, (uO w h l y).length = y * (w + 1)
  | 0 => by simp [uO]
  | y + 1 => by
    rw [uO, List.length_append, tO_len, uO_len w h l y, Nat.succ_mul]; simp; omega

theorem u_s0 (y : Nat) : fText_l61_s0 (uS w h l (uO w h l) y) = decide (y < h) := by
  unfold fText_l61_s0
  exact decide_eq_decide.2 Int.ofNat_lt
include w1 in
theorem u_s1 (y : Nat) (hy : y < h) : fText_l61_s1 (uS w h l (uO w h l) y) = some (.e 2, tI w h y l w (tO w h y l (uO w h l y) w)) := by
  unfold fText_l61_s1
  rw [u_s0, decide_eq_true hy]
  have e : uO w h l y = tO w h y l (uO w h l y) 0 := by simp [tO]
  show lrun _ _ (tI w h y l 0 (uO w h l y)) = _
  rw [show tI w h y l 0 (uO w h l y) = tI w h y l 0 (tO w h y l (uO w h l y) 0) from congrArg _ e]
  exact lx_run (s := fun x => tI w h y l x (tO w h y l (uO w h l y) x)) (fun x hx => t_step w1 y _ x hx) (t_end y _) nofun (by omega)
include w1 h1 in
theorem u_step (y : Nat) (hy : y < h) : pick1 (fText_l61_st (uS w h l (uO w h l) y)).2 = some (.n, uS w h l (uO w h l) (y + 1)) := by
  unfold fText_l61_st
  rw [u_s0, decide_eq_true hy, u_s1 w1 y hy, isX_rf]
  have e2 : fText_l61_s2 (uS w h l (uO w h l) y) = uO w h l (y + 1) := by
    unfold fText_l61_s2
    rw [u_s1 w1 y hy]; rfl
  rw [e2]
  have e : IntKind.wrap .i64 ((V.valOf (some (X.e 2, tI w h y l w (tO w h y l (uO w h l y) w)))).a3 + 1) = ((y + 1 : Nat) : Int) := by
    show IntKind.wrap .i64 ((y : Int) + 1) = _
    rw [w64_in (by omega) (by omega)]; omega
  rw [e]; rfl
theorem u_end : pick1 (fText_l61_st (uS w h l (uO w h l) h)).2 = some (.e 0, uS w h l (uO w h l) h) := by
  unfold fText_l61_st
  rw [u_s0, decide_eq_false (Nat.lt_irrefl _)]; rfl
include w1 h1 hl hb in
theorem u_obs (y : Nat) (hy : y ≤ h) : Alls (fText_l61_st (uS w h l (uO w h l) y)).1 := by
  have hlen : y * (w + 1) ≤ 64 * 65 := Nat.mul_le_mul (by omega) (by omega)
  unfold fText_l61_st
  refine ⟨fun g => ?_, fun g _ => ?_, trivial⟩
  · rw [u_s0] at g
    have hy' := of_decide_eq_true g
    rw [u_s0, g]
    have e : uO w h l y = tO w h y l (uO w h l y) 0 := by simp [tO]
    show lok _ _ (tI w h y l 0 (uO w h l y))
    rw [show tI w h y l 0 (uO w h l y) = tI w h y l 0 (tO w h y l (uO w h l y) 0) from congrArg _ e]
    exact lx_lok (s := fun x => tI w h y l x (tO w h y l (uO w h l y) x)) (fun x hx => t_step w1 y _ x hx) (t_end y _) nofun (fun x hx => t_obs w1 h1 hl hb hy' (by rw [uO_len]; omega) x hx) (by omega)
  · rw [u_s0] at g
    have hy' := of_decide_eq_true g
    have e2 : fText_l61_s2 (uS w h l (uO w h l) y) = uO w h l (y + 1) := by
      unfold fText_l61_s2
      rw [u_s1 w1 y hy']; rfl
    rw [e2, uO_len, Nat.succ_mul]; omega

include w1 h1 hl hb in
theorem text_lok : lok fText_l61_st 18446744073709551616 (.mk ⟨⟨[]⟩⟩ (h : Int) 0 (w : Int) (h : Int) l []) := by
  show lok _ _ (uS w h l (uO w h l) 0)
  exact lx_lok (s := uS w h l (uO w h l)) (fun y hy => u_step w1 h1 y hy) u_end nofun (fun y hy => u_obs w1 h1 hl hb y hy) (by omega)
include w1 h1 in
theorem text_eq (hc : fChk_0 w h l = 0) : fText_0 w h l = bytesOf (uO w h l h) := by
  unfold fText_0 fText_s0
  rw [hc]
  have e : lrun fText_l61_st 18446744073709551616 (.mk ⟨⟨[]⟩⟩ (h : Int) 0 (w : Int) (h : Int) l []) = some (.e 0, uS w h l (uO w h l) h) := by
    show lrun _ _ (uS w h l (uO w h l) 0) = _
    exact lx_run (s := uS w h l (uO w h l)) (fun y hy => u_step w1 h1 y hy) u_end nofun (by omega)
  rw [e]; rfl
end
theorem text_no {w h : Int} {l : List (List Int)} (hc : fChk_0 w h l ≠ 0) : fText_0 w h l = ⟨⟨[]⟩⟩ := by
  unfold fText_0 fText_s0
  rw [show (fChk_0 w h l != 0) = true from by simp [hc]]; rfl
end Go.Proofs.Ytcdejlgophpdjaa
end

section
namespace Go.Proofs.Ytcdejlgophpdjaa
open Go Go.RowKit Go.Proofs.Ytcdejlgophpdjaa.V
set_option linter.unusedVariables false
set_option linter.unusedSectionVars false

/-- Between 1 and 64. -/
def cl (x : Int) : Nat := (if 64 < (if x < 1 then 1 else x) then 64 else (if x < 1 then 1 else x)).toNat
theorem cl_1 (x : Int) : 1 ≤ cl x := by
  unfold cl; split <;> split at * <;> omega
theorem cl_64 (x : Int) : cl x ≤ 64 := by
  unfold cl; split <;> split at * <;> omega
theorem n_s2 (x : Int) : fNew_s2 x = (cl x : Int) := by
  unfold fNew_s2 fNew_s0 cl; split <;> split at * <;> omega
theorem n_s5 (x : Int) : fNew_s5 x = (cl x : Int) := by
  unfold fNew_s5 fNew_s3 cl; split <;> split at * <;> omega
theorem cl_N (x y : Int) : 1 ≤ cl x * cl y ∧ cl x * cl y ≤ 4096 :=
  ⟨Nat.mul_pos (cl_1 x) (cl_1 y), Nat.mul_le_mul (cl_64 x) (cl_64 y)⟩
theorem n_s6 (x y : Int) : fNew_s6 x y = ((cl x * cl y : Nat) : Int) := by
  have := cl_N x y
  unfold fNew_s6
  rw [n_s2, n_s5, ← Int.natCast_mul, w64_in (by omega) (by omega)]
theorem new_eq (x y p0 p1 p2 p3 p4 p5 : Int) : fNew_0 x y p0 p1 p2 p3 p4 p5 = List.replicate (cl x * cl y) [p0, p1, p2, p3, p4, p5] := by
  unfold fNew_0
  rw [n_s6]
  exact rep_eq (cl_N x y).1 (cl_N x y).2

theorem chk_sz {w h : Nat} (w1 : 1 ≤ w) (w2 : w ≤ 64) (h1 : 1 ≤ h) (h2 : h ≤ 64) {l : List (List Int)} (hl : l.length = w * h) : fChk_s0 (w : Int) (h : Int) l = false := by
  have h3 : w * h ≤ 64 * 64 := Nat.mul_le_mul w2 h2
  unfold fChk_s0
  rw [decide_eq_false (show ¬ (w : Int) < 1 by omega), decide_eq_false (show ¬ 64 < (w : Int) by omega), decide_eq_false (show ¬ (h : Int) < 1 by omega), decide_eq_false (show ¬ 64 < (h : Int) by omega), ← Int.natCast_mul, w64_in (by omega) (by omega), hl]
  simp

theorem rget_rep {N i : Nat} (h : i < N) (p : List Int) (j : Nat) : rget (List.replicate N p) i j = p.getD j 0 := by
  unfold rget
  rw [List.getD_eq_getElem?_getD (l := List.replicate N p), List.getElem?_replicate, if_pos h]; rfl
theorem rset_len (l : List (List Int)) (i j : Nat) (v : List Int) : (rset l i j v).length = l.length := by
  unfold rset; simp
theorem rget_set_ne {l : List (List Int)} {i k j : Nat} (v : List Int) (j' : Nat) (h : i ≠ k) : rget (rset l k j' v) i j = rget l i j := by
  unfold rget rset
  have e : (l.set k (wr (l.getD k []) j' v)).getD i [] = l.getD i [] := by
    simp only [List.getD_eq_getElem?_getD, List.getElem?_set_ne (Ne.symm h)]
  rw [e]
theorem rget_set_eq {l : List (List Int)} {k : Nat} (v : List Int) (j j' : Nat) (h : k < l.length) : rget (rset l k j' v) k j = (wr (l.getD k []) j' v).getD j 0 := by
  unfold rget rset
  rw [List.getD_eq_getElem?_getD (l := List.set _ _ _), List.getElem?_set_self h]; rfl

/-- The chapter's example. -/
theorem aw_l : fAwake_s0 = [[0, 0, 0, 0, 0, 0], [0, 0, 0, 0, 0, 0]] := by
  unfold fAwake_s0
  rw [new_eq, show cl 2 * cl 1 = 2 by decide]; rfl
theorem aw_w : fNew_s2 2 = ((2 : Nat) : Int) := by decide
theorem aw_h : fNew_s5 1 = ((1 : Nat) : Int) := by decide
theorem aw_c : fChk_0 (fNew_s2 2) (fNew_s5 1) fAwake_s0 = 0 := by
  rw [aw_w, aw_h]
  refine c_good (by rw [aw_l]; decide) (chk_sz (by omega) (by omega) (by omega) (by omega) (by rw [aw_l]; rfl)) fun i hi => ?_
  rw [aw_l] at hi ⊢
  have hi' : i < 2 := hi
  match i, hi' with
  | 0, _ => exact ⟨by decide, by decide⟩
  | 1, _ => exact ⟨by decide, by decide⟩
theorem aw_text : fText_0 (fNew_s2 2) (fNew_s5 1) fAwake_s0 = ⟨⟨[32, 32, 10]⟩⟩ := by
  have hc := aw_c
  rw [aw_w, aw_h] at hc ⊢
  rw [text_eq (by omega) (by omega) hc, aw_l]
  decide +kernel
theorem awake : fAwake_0 = true := by
  unfold fAwake_0 fAwake_s1
  rw [aw_text, aw_c]
  simp
theorem aw_obs : Alls fAwake_o := by
  have h := rep_obs (p0 := 0) (p1 := 0) (p2 := 0) (p3 := 0) (p4 := 0) (p5 := 0) (N := 2) (by omega) (by omega) false
  have e6 : fNew_s6 2 1 = ((2 : Nat) : Int) := by decide +kernel
  have e2 : List.length (sRep_s2 ((2 : Nat) : Int)) = 2 := by decide +kernel
  have e3 : sRep_s3 ((2 : Nat) : Int) 0 0 0 0 0 0 = 1 := by decide +kernel
  unfold sRep_o at h
  rw [e2, e3] at h
  obtain ⟨o1, o2, o3, o4, _⟩ := h
  have hL : fAwake_s0.length = 2 := by rw [aw_l]; rfl
  have k := c_lok (l := fAwake_s0) (by omega)
  rw [hL] at k
  unfold fAwake_o fAwake_s2 fAwake_s3 fAwake_s4
  rw [e6, e3]
  refine ⟨o1, o2, o3, o4, fun _ => k, fun _ => ?_, fun _ _ => k, trivial⟩
  rw [aw_w, aw_h]
  refine text_lok (by omega) (by omega) (by rw [hL]) fun a j hj => ?_
  rw [aw_l]
  match a with
  | 0 => match j, hj with
    | 0, _ => decide
    | 1, _ => decide
    | 2, _ => decide
  | 1 => match j, hj with
    | 0, _ => decide
    | 1, _ => decide
    | 2, _ => decide
  | a + 2 => exact (show (0 : Int) ≤ 0 ∧ (0 : Int) ≤ 255 by decide)

section
variable {x0 x1 x2_0 x2_1 x2_2 x2_3 x2_4 x2_5 x3 x4 : Int}


theorem f_s1 : lFrNew_s1 x0 = (cl x0 : Int) := n_s2 x0
theorem f_s3 : lFrNew_s3 x1 = (cl x1 : Int) := n_s5 x1
theorem f_s4 : lFrNew_s4 x0 x1 x2_0 x2_1 x2_2 x2_3 x2_4 x2_5 = cl x0 * cl x1 := by
  unfold lFrNew_s4
  rw [new_eq, List.length_replicate]
theorem f_s8 : lFrNew_s8 x0 x1 x2_0 x2_1 x2_2 x2_3 x2_4 x2_5 = (List.replicate (cl x0 * cl x1) [x2_0, x2_1, x2_2, x2_3, IntKind.wrap IntKind.i64 x2_4, x2_5]) := by
  unfold lFrNew_s8 sClone_s0
  rw [new_eq, List.nil_append]
theorem f_s9 : lFrNew_s9 x0 x1 x2_0 x2_1 x2_2 x2_3 x2_4 x2_5 = cl x0 * cl x1 := by
  unfold lFrNew_s9
  rw [f_s8, List.length_replicate]
theorem f_s5 : lFrNew_s5 x0 x1 x2_0 x2_1 x2_2 x2_3 x2_4 x2_5 = false := by
  have := cl_N x0 x1
  unfold lFrNew_s5
  rw [f_s4, f_s1, f_s3, ← Int.natCast_mul, w64_in (by omega) (by omega)]
  simp
theorem f_sz : fChk_s0 (cl x0 : Int) (cl x1 : Int) (List.replicate (cl x0 * cl x1) [x2_0, x2_1, x2_2, x2_3, IntKind.wrap IntKind.i64 x2_4, x2_5]) = false := chk_sz (cl_1 _) (cl_64 _) (cl_1 _) (cl_64 _) (by rw [List.length_replicate])

def nS (x0 x1 x2_0 x2_1 x2_2 x2_3 x2_4 x2_5 x3 x4 : Int) (i : Nat) : lFrNew_l253_T := .mk x3 x4 false ((cl x0 * cl x1 : Nat) : Int) (i : Int) x2_0 x2_1 x2_2 x2_3 x2_4 x2_5 (cl x0) (cl x1) (List.replicate (cl x0 * cl x1) [x2_0, x2_1, x2_2, x2_3, IntKind.wrap IntKind.i64 x2_4, x2_5])
theorem nS_0 (i : Nat) : lFrNew_l253_s0 (nS x0 x1 x2_0 x2_1 x2_2 x2_3 x2_4 x2_5 x3 x4 i) = decide (i < cl x0 * cl x1) := by
  unfold lFrNew_l253_s0
  exact decide_eq_decide.2 Int.ofNat_lt
theorem nS_step (i : Nat) (hi : i < cl x0 * cl x1) : pick1 (lFrNew_l253_st (nS x0 x1 x2_0 x2_1 x2_2 x2_3 x2_4 x2_5 x3 x4 i)).2 = some (.n, nS x0 x1 x2_0 x2_1 x2_2 x2_3 x2_4 x2_5 x3 x4 (i + 1)) := by
  have := cl_N x0 x1
  have e : IntKind.wrap .i64 ((nS x0 x1 x2_0 x2_1 x2_2 x2_3 x2_4 x2_5 x3 x4 i).a4 + 1) = ((i + 1 : Nat) : Int) := by
    show IntKind.wrap .i64 ((i : Int) + 1) = _
    rw [w64_in (by omega) (by omega)]; omega
  have g : ∀ j, rget (nS x0 x1 x2_0 x2_1 x2_2 x2_3 x2_4 x2_5 x3 x4 i).a13 (nS x0 x1 x2_0 x2_1 x2_2 x2_3 x2_4 x2_5 x3 x4 i).a4.toNat j = ([x2_0, x2_1, x2_2, x2_3, IntKind.wrap IntKind.i64 x2_4, x2_5]).getD j 0 := fun j => rget_rep hi _ j
  have e1 : lFrNew_l253_s1 (nS x0 x1 x2_0 x2_1 x2_2 x2_3 x2_4 x2_5 x3 x4 i) = false := by
    unfold lFrNew_l253_s1
    rw [g, g, g, g, g, g]
    simp [nS]
  unfold lFrNew_l253_st
  rw [nS_0, decide_eq_true hi, e1, e]; rfl
theorem nS_end : pick1 (lFrNew_l253_st (nS x0 x1 x2_0 x2_1 x2_2 x2_3 x2_4 x2_5 x3 x4 (cl x0 * cl x1))).2 = some (.e 0, nS x0 x1 x2_0 x2_1 x2_2 x2_3 x2_4 x2_5 x3 x4 (cl x0 * cl x1)) := by
  unfold lFrNew_l253_st
  rw [nS_0, decide_eq_false (Nat.lt_irrefl _)]; rfl
theorem nS_obs (i : Nat) : Alls (lFrNew_l253_st (nS x0 x1 x2_0 x2_1 x2_2 x2_3 x2_4 x2_5 x3 x4 i)).1 := by
  unfold lFrNew_l253_st
  rw [nS_0]
  refine ⟨fun h => ⟨Int.natCast_nonneg i, ?_⟩, trivial⟩
  show (i : Int) < Int.ofNat (List.length (List.replicate (cl x0 * cl x1) [x2_0, x2_1, x2_2, x2_3, IntKind.wrap IntKind.i64 x2_4, x2_5]))
  rw [List.length_replicate]
  exact Int.ofNat_lt.2 (of_decide_eq_true h)
theorem f_start : lFrNew_l253_T.mk x3 x4 false (Int.ofNat (lFrNew_s4 x0 x1 x2_0 x2_1 x2_2 x2_3 x2_4 x2_5)) 0 x2_0 x2_1 x2_2 x2_3 x2_4 x2_5 (fNew_s2 x0) (fNew_s5 x1) (fNew_0 x0 x1 x2_0 x2_1 x2_2 x2_3 (IntKind.wrap IntKind.i64 x2_4) x2_5) = nS x0 x1 x2_0 x2_1 x2_2 x2_3 x2_4 x2_5 x3 x4 0 := by
  rw [f_s4, new_eq, n_s2, n_s5]; rfl
theorem f_s7 : lFrNew_s7 x0 x1 x2_0 x2_1 x2_2 x2_3 x2_4 x2_5 x3 x4 = some (.e 0, nS x0 x1 x2_0 x2_1 x2_2 x2_3 x2_4 x2_5 x3 x4 (cl x0 * cl x1)) := by
  have := cl_N x0 x1
  unfold lFrNew_s7
  rw [f_start]
  exact lx_run (s := nS x0 x1 x2_0 x2_1 x2_2 x2_3 x2_4 x2_5 x3 x4) nS_step nS_end nofun (by omega)
theorem f_lok : lok lFrNew_l253_st 18446744073709551616 (nS x0 x1 x2_0 x2_1 x2_2 x2_3 x2_4 x2_5 x3 x4 0) := by
  have := cl_N x0 x1
  exact lx_lok (s := nS x0 x1 x2_0 x2_1 x2_2 x2_3 x2_4 x2_5 x3 x4) nS_step nS_end nofun (fun i _ => nS_obs i) (by omega)
theorem f_s11 : lFrNew_s11 x0 x1 x2_0 x2_1 x2_2 x2_3 x2_4 x2_5 x3 x4 = x3 := by
  unfold lFrNew_s11
  rw [f_s7]; rfl

variable (d0 : 0 ≤ x2_4) (d1 : x2_4 ≤ 65535) (e0 : 0 ≤ x4) (e1 : x4 ≤ 255)
include e0 e1 in
theorem f_s10 : ∃ k : Nat, k < cl x0 * cl x1 ∧ lFrNew_s10 x0 x1 x2_0 x2_1 x2_2 x2_3 x2_4 x2_5 x3 x4 = (k : Int) := by
  have h := cl_N x0 x1
  have a1 : (V.valOf (lFrNew_s7 x0 x1 x2_0 x2_1 x2_2 x2_3 x2_4 x2_5 x3 x4)).a1 = x4 := by rw [f_s7]; rfl
  unfold lFrNew_s10
  rw [a1, f_s9, w64_in (by omega) (by omega), Int.tmod_eq_emod_of_nonneg e0]
  refine ⟨(x4 % ((cl x0 * cl x1 : Nat) : Int)).toNat, ?_, ?_⟩
  · have := Int.emod_lt_of_pos x4 (b := ((cl x0 * cl x1 : Nat) : Int)) (by omega)
    have := Int.emod_nonneg x4 (b := ((cl x0 * cl x1 : Nat) : Int)) (by omega)
    omega
  · have := Int.emod_nonneg x4 (b := ((cl x0 * cl x1 : Nat) : Int)) (by omega)
    exact (Int.toNat_of_nonneg this).symm
include d0 d1 in
theorem f_dep (i : Nat) (hi : i < cl x0 * cl x1) : dOK (List.replicate (cl x0 * cl x1) [x2_0, x2_1, x2_2, x2_3, IntKind.wrap IntKind.i64 x2_4, x2_5]) i := by
  unfold dOK
  rw [rget_rep hi]
  show 0 ≤ IntKind.wrap IntKind.i64 x2_4 ∧ IntKind.wrap IntKind.i64 x2_4 ≤ 65535
  rw [w64_in (by omega) (by omega)]
  exact ⟨d0, d1⟩
include d0 d1 in
theorem f_good : fChk_0 (cl x0 : Int) (cl x1 : Int) (List.replicate (cl x0 * cl x1) [x2_0, x2_1, x2_2, x2_3, IntKind.wrap IntKind.i64 x2_4, x2_5]) = 0 :=
  c_good (by rw [List.length_replicate]; exact (cl_N x0 x1).2) f_sz fun i hi => f_dep d0 d1 i (by rw [List.length_replicate] at hi; exact hi)
include d0 d1 in
theorem f_s6 : lFrNew_s6 x0 x1 x2_0 x2_1 x2_2 x2_3 x2_4 x2_5 = false := by
  unfold lFrNew_s6
  rw [n_s2, n_s5, f_s1, f_s3, f_s5, new_eq, f_good d0 d1]
  simp
theorem f_len12 : (lFrNew_s12 x0 x1 x2_0 x2_1 x2_2 x2_3 x2_4 x2_5 x3 x4).length = cl x0 * cl x1 := by
  unfold lFrNew_s12
  rw [rset_len, f_s8, List.length_replicate]
include d0 d1 e0 e1 in
theorem f_chk : fChk_0 (cl x0 : Int) (cl x1 : Int) (lFrNew_s12 x0 x1 x2_0 x2_1 x2_2 x2_3 x2_4 x2_5 x3 x4) = if 0 ≤ x3 ∧ x3 ≤ 65535 then 0 else 2 := by
  have h := cl_N x0 x1
  have hz : fChk_s0 (cl x0 : Int) (cl x1 : Int) (lFrNew_s12 x0 x1 x2_0 x2_1 x2_2 x2_3 x2_4 x2_5 x3 x4) = false := chk_sz (cl_1 _) (cl_64 _) (cl_1 _) (cl_64 _) f_len12
  obtain ⟨k, hk, e⟩ := f_s10 (x0 := x0) (x1 := x1) (x2_0 := x2_0) (x2_1 := x2_1) (x2_2 := x2_2) (x2_3 := x2_3) (x2_4 := x2_4) (x2_5 := x2_5) (x3 := x3) e0 e1
  have e12 : lFrNew_s12 x0 x1 x2_0 x2_1 x2_2 x2_3 x2_4 x2_5 x3 x4 = rset (List.replicate (cl x0 * cl x1) [x2_0, x2_1, x2_2, x2_3, IntKind.wrap IntKind.i64 x2_4, x2_5]) k 4 [x3] := by
    unfold lFrNew_s12
    rw [e, f_s8, f_s11]; rfl
  have hL : (rset (List.replicate (cl x0 * cl x1) [x2_0, x2_1, x2_2, x2_3, IntKind.wrap IntKind.i64 x2_4, x2_5]) k 4 [x3]).length = cl x0 * cl x1 := by rw [rset_len, List.length_replicate]
  rw [e12] at hz ⊢
  have hne : ∀ i, i < cl x0 * cl x1 → i ≠ k → dOK (rset (List.replicate (cl x0 * cl x1) [x2_0, x2_1, x2_2, x2_3, IntKind.wrap IntKind.i64 x2_4, x2_5]) k 4 [x3]) i := fun i hi hik => by
    unfold dOK
    rw [rget_set_ne _ _ hik]
    exact f_dep d0 d1 i hi
  have hke : rget (rset (List.replicate (cl x0 * cl x1) [x2_0, x2_1, x2_2, x2_3, IntKind.wrap IntKind.i64 x2_4, x2_5]) k 4 [x3]) k 4 = x3 := by
    rw [rget_set_eq _ _ _ (by rw [List.length_replicate]; exact hk), List.getD_eq_getElem?_getD (l := (List.replicate (cl x0 * cl x1) [x2_0, x2_1, x2_2, x2_3, IntKind.wrap IntKind.i64 x2_4, x2_5])), List.getElem?_replicate, if_pos hk]
    rfl
  by_cases hx : 0 ≤ x3 ∧ x3 ≤ 65535
  · rw [if_pos hx]
    refine c_good (by omega) hz fun i hi => ?_
    by_cases hik : i = k
    · subst hik; unfold dOK; rw [hke]; exact hx
    · exact hne i (by omega) hik
  · rw [if_neg hx]
    refine c_two (by omega) hz (m := k) (by omega) (fun i hi => hne i (by omega) (by omega)) ?_
    unfold dOK; rw [hke]; exact hx
theorem f_s14 : lFrNew_s14 x0 x1 x2_0 x2_1 x2_2 x2_3 x2_4 x2_5 x3 x4 = if 0 ≤ x3 ∧ x3 ≤ 65535 then 0 else 2 := by
  unfold lFrNew_s14
  rw [f_s11]
  by_cases h0 : x3 < 0
  · rw [decide_eq_true h0, if_neg (by omega)]; rfl
  · by_cases h1 : 65535 < x3
    · rw [decide_eq_false h0, decide_eq_true h1, if_neg (by omega)]; rfl
    · rw [decide_eq_false h0, decide_eq_false h1, if_pos (by omega)]; rfl
theorem f_short : fChkS_s0 (cl x0 : Int) (cl x1 : Int) (lFrNew_s16 x0 x1 x2_0 x2_1 x2_2 x2_3 x2_4 x2_5) = true := by
  have h := cl_N x0 x1
  have a := cl_1 x0
  have b := cl_64 x0
  have c := cl_1 x1
  have d := cl_64 x1
  unfold fChkS_s0 lFrNew_s16
  rw [f_s9, decide_eq_false (show ¬ (cl x0 : Int) < 1 by omega), decide_eq_false (show ¬ 64 < (cl x0 : Int) by omega), decide_eq_false (show ¬ (cl x1 : Int) < 1 by omega), decide_eq_false (show ¬ 64 < (cl x1 : Int) by omega), ← Int.natCast_mul, w64_in (by omega) (by omega)]
  have : Int.ofNat (Int.toNat (Int.ofNat (cl x0 * cl x1)) - Int.toNat 1) ≠ ((cl x0 * cl x1 : Nat) : Int) := by
    have z1 : Int.toNat (Int.ofNat (cl x0 * cl x1)) = cl x0 * cl x1 := rfl
    have z2 : Int.toNat 1 = 1 := rfl
    have z3 : Int.ofNat (cl x0 * cl x1 - 1) = ((cl x0 * cl x1 - 1 : Nat) : Int) := rfl
    rw [z1, z2, z3]; omega
  simpa using this
theorem f_wide (l : List (List Int)) : fChk_s0 65 (cl x1 : Int) l = true := rfl
theorem f_s17 : lFrNew_s17 x0 x1 x2_0 x2_1 x2_2 x2_3 x2_4 x2_5 = true := by
  unfold lFrNew_s17 fChkS_0
  rw [n_s2, n_s5, f_short]; rfl
theorem f_s18 : lFrNew_s18 x0 x1 x2_0 x2_1 x2_2 x2_3 x2_4 x2_5 = true := by
  unfold lFrNew_s18
  rw [n_s5, c_six (f_wide _)]; rfl
theorem f_s19 : lFrNew_s19 x0 x1 x2_0 x2_1 x2_2 x2_3 x2_4 x2_5 = true := by
  unfold lFrNew_s19
  rw [n_s5, text_no (by rw [c_six (f_wide _)]; decide)]; simp
end

theorem FrameNew_true (x0 : Int) (a0 : IntKind.min .i64 ≤ x0) (b0 : x0 ≤ IntKind.max .i64) (x1 : Int) (a1 : IntKind.min .i64 ≤ x1) (b1 : x1 ≤ IntKind.max .i64) (x2_0 : Int) (a2_0 : IntKind.min .u8 ≤ x2_0) (b2_0 : x2_0 ≤ IntKind.max .u8) (x2_1 : Int) (a2_1 : IntKind.min .u8 ≤ x2_1) (b2_1 : x2_1 ≤ IntKind.max .u8) (x2_2 : Int) (a2_2 : IntKind.min .u8 ≤ x2_2) (b2_2 : x2_2 ≤ IntKind.max .u8) (x2_3 : Int) (a2_3 : IntKind.min .u8 ≤ x2_3) (b2_3 : x2_3 ≤ IntKind.max .u8) (x2_4 : Int) (a2_4 : IntKind.min .u16 ≤ x2_4) (b2_4 : x2_4 ≤ IntKind.max .u16) (x2_5 : Int) (a2_5 : IntKind.min .u8 ≤ x2_5) (b2_5 : x2_5 ≤ IntKind.max .u8) (x3 : Int) (a3 : IntKind.min .i64 ≤ x3) (b3 : x3 ≤ IntKind.max .i64) (x4 : Int) (a4 : IntKind.min .u8 ≤ x4) (b4 : x4 ≤ IntKind.max .u8) : lFrNew_0 x0 x1 x2_0 x2_1 x2_2 x2_3 x2_4 x2_5 x3 x4 = true := by
  obtain ⟨l0, g0⟩ := bd_i64 a0 b0
  have w0 : IntKind.wrap .i64 x0 = x0 := w64_in (by omega) (by omega)
  obtain ⟨l1, g1⟩ := bd_i64 a1 b1
  have w1 : IntKind.wrap .i64 x1 = x1 := w64_in (by omega) (by omega)
  obtain ⟨l2_0, g2_0⟩ := bd_u8 a2_0 b2_0
  have w2_0 : IntKind.wrap .i64 x2_0 = x2_0 := w64_in (by omega) (by omega)
  obtain ⟨l2_1, g2_1⟩ := bd_u8 a2_1 b2_1
  have w2_1 : IntKind.wrap .i64 x2_1 = x2_1 := w64_in (by omega) (by omega)
  obtain ⟨l2_2, g2_2⟩ := bd_u8 a2_2 b2_2
  have w2_2 : IntKind.wrap .i64 x2_2 = x2_2 := w64_in (by omega) (by omega)
  obtain ⟨l2_3, g2_3⟩ := bd_u8 a2_3 b2_3
  have w2_3 : IntKind.wrap .i64 x2_3 = x2_3 := w64_in (by omega) (by omega)
  obtain ⟨l2_4, g2_4⟩ := bd_u16 a2_4 b2_4
  have w2_4 : IntKind.wrap .i64 x2_4 = x2_4 := w64_in (by omega) (by omega)
  obtain ⟨l2_5, g2_5⟩ := bd_u8 a2_5 b2_5
  have w2_5 : IntKind.wrap .i64 x2_5 = x2_5 := w64_in (by omega) (by omega)
  obtain ⟨l3, g3⟩ := bd_i64 a3 b3
  have w3 : IntKind.wrap .i64 x3 = x3 := w64_in (by omega) (by omega)
  obtain ⟨l4, g4⟩ := bd_u8 a4 b4
  have w4 : IntKind.wrap .i64 x4 = x4 := w64_in (by omega) (by omega)
  unfold lFrNew_0
  rw [awake, f_s6 l2_4 g2_4, f_s7]
  have h := f_chk (x0 := x0) (x1 := x1) (x2_0 := x2_0) (x2_1 := x2_1) (x2_2 := x2_2) (x2_3 := x2_3) (x2_5 := x2_5) (x3 := x3) l2_4 g2_4 l4 g4
  have h15 : lFrNew_s15 x0 x1 x2_0 x2_1 x2_2 x2_3 x2_4 x2_5 x3 x4 = true := by
    unfold lFrNew_s15
    rw [n_s2, n_s5, h, f_s14]; simp
  rw [h15, f_s17, f_s18, f_s19]
  unfold lFrNew_s20
  rw [f_s14, n_s2, n_s5]
  by_cases hx : 0 ≤ x3 ∧ x3 ≤ 65535
  · rw [if_pos hx]; rfl
  · rw [if_neg hx] at h ⊢
    rw [text_no (by rw [h]; decide)]
    simp [isX, xeq]

theorem FrameNew_obs (x0 : Int) (a0 : IntKind.min .i64 ≤ x0) (b0 : x0 ≤ IntKind.max .i64) (x1 : Int) (a1 : IntKind.min .i64 ≤ x1) (b1 : x1 ≤ IntKind.max .i64) (x2_0 : Int) (a2_0 : IntKind.min .u8 ≤ x2_0) (b2_0 : x2_0 ≤ IntKind.max .u8) (x2_1 : Int) (a2_1 : IntKind.min .u8 ≤ x2_1) (b2_1 : x2_1 ≤ IntKind.max .u8) (x2_2 : Int) (a2_2 : IntKind.min .u8 ≤ x2_2) (b2_2 : x2_2 ≤ IntKind.max .u8) (x2_3 : Int) (a2_3 : IntKind.min .u8 ≤ x2_3) (b2_3 : x2_3 ≤ IntKind.max .u8) (x2_4 : Int) (a2_4 : IntKind.min .u16 ≤ x2_4) (b2_4 : x2_4 ≤ IntKind.max .u16) (x2_5 : Int) (a2_5 : IntKind.min .u8 ≤ x2_5) (b2_5 : x2_5 ≤ IntKind.max .u8) (x3 : Int) (a3 : IntKind.min .i64 ≤ x3) (b3 : x3 ≤ IntKind.max .i64) (x4 : Int) (a4 : IntKind.min .u8 ≤ x4) (b4 : x4 ≤ IntKind.max .u8) : Alls (lFrNew_o x0 x1 x2_0 x2_1 x2_2 x2_3 x2_4 x2_5 x3 x4) := by
  obtain ⟨l0, g0⟩ := bd_i64 a0 b0
  have w0 : IntKind.wrap .i64 x0 = x0 := w64_in (by omega) (by omega)
  obtain ⟨l1, g1⟩ := bd_i64 a1 b1
  have w1 : IntKind.wrap .i64 x1 = x1 := w64_in (by omega) (by omega)
  obtain ⟨l2_0, g2_0⟩ := bd_u8 a2_0 b2_0
  have w2_0 : IntKind.wrap .i64 x2_0 = x2_0 := w64_in (by omega) (by omega)
  obtain ⟨l2_1, g2_1⟩ := bd_u8 a2_1 b2_1
  have w2_1 : IntKind.wrap .i64 x2_1 = x2_1 := w64_in (by omega) (by omega)
  obtain ⟨l2_2, g2_2⟩ := bd_u8 a2_2 b2_2
  have w2_2 : IntKind.wrap .i64 x2_2 = x2_2 := w64_in (by omega) (by omega)
  obtain ⟨l2_3, g2_3⟩ := bd_u8 a2_3 b2_3
  have w2_3 : IntKind.wrap .i64 x2_3 = x2_3 := w64_in (by omega) (by omega)
  obtain ⟨l2_4, g2_4⟩ := bd_u16 a2_4 b2_4
  have w2_4 : IntKind.wrap .i64 x2_4 = x2_4 := w64_in (by omega) (by omega)
  obtain ⟨l2_5, g2_5⟩ := bd_u8 a2_5 b2_5
  have w2_5 : IntKind.wrap .i64 x2_5 = x2_5 := w64_in (by omega) (by omega)
  obtain ⟨l3, g3⟩ := bd_i64 a3 b3
  have w3 : IntKind.wrap .i64 x3 = x3 := w64_in (by omega) (by omega)
  obtain ⟨l4, g4⟩ := bd_u8 a4 b4
  have w4 : IntKind.wrap .i64 x4 = x4 := w64_in (by omega) (by omega)
  have hN := cl_N x0 x1
  obtain ⟨q1, q2, q3, q4, _⟩ := rep_obs (p0 := x2_0) (p1 := x2_1) (p2 := x2_2) (p3 := x2_3) (p4 := IntKind.wrap .i64 x2_4) (p5 := x2_5) hN.1 hN.2 false
  rw [← n_s6] at q1 q2 q3 q4
  obtain ⟨a1, a2, a3, a4', a5, a6, a7, _⟩ := aw_obs
  have f9 := f_s9 (x0 := x0) (x1 := x1) (x2_0 := x2_0) (x2_1 := x2_1) (x2_2 := x2_2) (x2_3 := x2_3) (x2_4 := x2_4) (x2_5 := x2_5)
  have f4 := f_s4 (x0 := x0) (x1 := x1) (x2_0 := x2_0) (x2_1 := x2_1) (x2_2 := x2_2) (x2_3 := x2_3) (x2_4 := x2_4) (x2_5 := x2_5)
  have z0 : (Int.ofNat (cl x0 * cl x1)) = ((cl x0 * cl x1 : Nat) : Int) := rfl
  have k12 := c_lok (l := lFrNew_s12 x0 x1 x2_0 x2_1 x2_2 x2_3 x2_4 x2_5 x3 x4) (by rw [f_len12]; exact hN.2)
  have nw : ∀ {p : Prop}, (!fChk_s0 65 (fNew_s5 x1) (lFrNew_s8 x0 x1 x2_0 x2_1 x2_2 x2_3 x2_4 x2_5)) = true → p := fun h => by
    rw [n_s5, f_wide] at h; cases h
  refine ⟨a1, a2, a3, a4', a5, a6, a7, fun _ => q1, fun _ => q2, fun _ => q3, fun _ => q4, fun _ _ _ _ _ => ?_, fun _ _ => ?_, fun _ _ _ => ?_, fun _ _ _ => ?_, fun _ _ _ => ?_, fun _ _ _ => ?_, fun _ _ _ => ?_, fun _ _ _ => ?_, fun _ _ _ => ?_, fun _ _ _ => ?_, fun _ _ _ => ?_, fun _ _ _ _ => k12, fun _ _ _ _ h => ?_, fun _ _ _ _ _ h => nw h, fun _ _ _ _ _ _ h => nw h, fun _ _ _ _ _ _ h => ?_, fun _ _ _ _ _ _ _ _ _ => k12, fun _ _ _ _ _ _ _ hs h => ?_, trivial⟩
  · exact c_lok (by rw [new_eq, List.length_replicate]; exact hN.2)
  · rw [f_start]; exact f_lok
  · rw [f4]; omega
  · rw [f9]; omega
  · rw [f9, z0]; omega
  · obtain ⟨k, hk, e⟩ := f_s10 (x0 := x0) (x1 := x1) (x2_0 := x2_0) (x2_1 := x2_1) (x2_2 := x2_2) (x2_3 := x2_3) (x2_4 := x2_4) (x2_5 := x2_5) (x3 := x3) l4 g4
    rw [e, f9, z0]; omega
  · rw [f4]; omega
  · rw [f9]; omega
  · rw [f9, z0]; omega
  · rw [f4]; omega
  · rw [f9]; omega
  · rw [n_s2, n_s5, f_short] at h; cases h
  · unfold fText_s0 at h
    rw [n_s5, c_six (f_wide _)] at h; cases h
  · unfold lFrNew_s20 at hs
    rw [f_s14] at hs
    unfold fText_s0 at h
    rw [n_s2, n_s5, f_chk l2_4 g2_4 l4 g4] at h
    by_cases hx : 0 ≤ x3 ∧ x3 ≤ 65535
    · rw [if_pos hx] at hs; cases hs
    · rw [if_neg hx] at h; cases h

end Go.Proofs.Ytcdejlgophpdjaa
end

section
namespace Go.Proofs.Ytcdejlgophpdjaa
open Go Go.RowKit Go.Proofs.Ytcdejlgophpdjaa.V
set_option linter.unusedVariables false
set_option linter.unusedSectionVars false

theorem inv_run {α : Type} {st : α → List Prop × List (X × Bool × α)} {I : Nat → α → Prop} {n : Nat} {x : X} (hx : x ≠ .n) (hs : ∀ i v, i < n → I i v → ∃ v', pick1 (st v).2 = some (.n, v') ∧ I (i + 1) v') (he : ∀ v, I n v → pick1 (st v).2 = some (x, v)) (ho : ∀ i v, i ≤ n → I i v → Alls (st v).1) :
    ∀ (d i : Nat) (v : α), i + d = n → I i v → ∀ f, d < f → (∃ v', lrun st f v = some (x, v') ∧ I n v') ∧ lok st f v
  | d, i, v, hi, h, 0, hf => by omega
  | 0, i, v, hi, h, f + 1, _ => by
    have : i = n := by omega
    subst this
    unfold lrun lok
    rw [he v h]
    refine ⟨⟨v, ?_, h⟩, ho i v (by omega) h, ?_⟩ <;> cases x <;> first | rfl | trivial | exact absurd rfl hx
  | d + 1, i, v, hi, h, f + 1, _ => by
    obtain ⟨v', h1, h2⟩ := hs i v (by omega) h
    obtain ⟨⟨u, a, b⟩, c⟩ := inv_run hx hs he ho d (i + 1) v' (by omega) h2 f (by omega)
    unfold lrun lok
    rw [h1]
    exact ⟨⟨u, a, b⟩, ho i v (by omega) h, c⟩

def inn (w h : Nat) (x y : Int) : Bool := decide (0 ≤ x ∧ x < (w : Int) ∧ 0 ≤ y ∧ y < (h : Int))
def ixp (w : Nat) (x y : Int) : Nat := (fAt_s0 (w : Int) x y).toNat

section
variable {w h : Nat} (w1 : w ≤ 64) (h1 : h ≤ 64)
include w1 h1
theorem in_ix {x y : Int} (hi : inn w h x y = true) : fAt_s0 (w : Int) x y = (ixp w x y : Int) ∧ ixp w x y < w * h := by
  obtain ⟨a, b, c, d⟩ := of_decide_eq_true hi
  have e := at_in (l := List.replicate (w * h) []) w1 h1 (by simp) (x := x.toNat) (y := y.toNat) (by omega) (by omega)
  rw [Int.toNat_of_nonneg a, Int.toNat_of_nonneg c, List.length_replicate] at e
  unfold ixp
  rw [e.1]
  exact ⟨rfl, e.2⟩
theorem at_s1 {l : List (List Int)} (hl : l.length = w * h) (x y : Int) : fAt_s1 (w : Int) (h : Int) x y l = !inn w h x y := by
  unfold fAt_s1
  by_cases hi : inn w h x y = true
  · obtain ⟨a, b⟩ := in_ix w1 h1 hi
    obtain ⟨c, d, e, f⟩ := of_decide_eq_true hi
    rw [hi, decide_eq_false (by omega), decide_eq_false (by omega), decide_eq_false (by omega), decide_eq_false (by omega), a, hl]
    have : ¬ Int.ofNat (w * h) ≤ (ixp w x y : Int) := by
      have z : Int.ofNat (w * h) = ((w * h : Nat) : Int) := rfl
      rw [z]; omega
    rw [decide_eq_false this]; rfl
  · have hn : ¬ (0 ≤ x ∧ x < (w : Int) ∧ 0 ≤ y ∧ y < (h : Int)) := fun k => hi (decide_eq_true k)
    rw [show inn w h x y = false by cases hh : inn w h x y; rfl; exact absurd hh hi]
    by_cases a : x < 0
    · rw [decide_eq_true a]; rfl
    · by_cases b : (w : Int) ≤ x
      · rw [decide_eq_false a, decide_eq_true b]; rfl
      · by_cases c : y < 0
        · rw [decide_eq_false a, decide_eq_false b, decide_eq_true c]; rfl
        · rw [decide_eq_false a, decide_eq_false b, decide_eq_false c, decide_eq_true (show (h : Int) ≤ y by omega)]; rfl
theorem set_s1 {l : List (List Int)} (hl : l.length = w * h) (x y : Int) : fSet_s1 (w : Int) (h : Int) x y l = inn w h x y := by
  unfold fSet_s1
  by_cases hi : inn w h x y = true
  · obtain ⟨a, b⟩ := in_ix w1 h1 hi
    obtain ⟨c, d, e, f⟩ := of_decide_eq_true hi
    have a' : fSet_s0 (w : Int) x y = (ixp w x y : Int) := a
    have : (ixp w x y : Int) < Int.ofNat (w * h) := Int.ofNat_lt.2 b
    rw [hi, decide_eq_true c, decide_eq_true d, decide_eq_true e, decide_eq_true f, a', hl, decide_eq_true this]; rfl
  · have hn : ¬ (0 ≤ x ∧ x < (w : Int) ∧ 0 ≤ y ∧ y < (h : Int)) := fun k => hi (decide_eq_true k)
    rw [show inn w h x y = false by cases hh : inn w h x y; rfl; exact absurd hh hi]
    by_cases a : 0 ≤ x
    · by_cases b : x < (w : Int)
      · by_cases c : 0 ≤ y
        · rw [decide_eq_true a, decide_eq_true b, decide_eq_true c, decide_eq_false (show ¬ y < (h : Int) by omega)]; rfl
        · rw [decide_eq_true a, decide_eq_true b, decide_eq_false c]; rfl
      · rw [decide_eq_true a, decide_eq_false b]; rfl
    · rw [decide_eq_false a]; rfl
theorem at_ob {l : List (List Int)} (hl : l.length = w * h) {x y : Int} (g : (!fAt_s1 (w : Int) (h : Int) x y l) = true) : 0 ≤ fAt_s0 (w : Int) x y ∧ fAt_s0 (w : Int) x y < Int.ofNat l.length := by
  rw [at_s1 w1 h1 hl, Bool.not_not] at g
  obtain ⟨a, b⟩ := in_ix w1 h1 g
  rw [a, hl]
  exact ⟨by omega, Int.ofNat_lt.2 b⟩
theorem set_ob {l : List (List Int)} (hl : l.length = w * h) {x y : Int} (g : fSet_s1 (w : Int) (h : Int) x y l = true) : 0 ≤ fSet_s0 (w : Int) x y ∧ fSet_s0 (w : Int) x y < Int.ofNat l.length := by
  rw [set_s1 w1 h1 hl] at g
  obtain ⟨a, b⟩ := in_ix w1 h1 g
  have a' : fSet_s0 (w : Int) x y = (ixp w x y : Int) := a
  rw [a', hl]
  exact ⟨by omega, Int.ofNat_lt.2 b⟩
theorem set_eq {l : List (List Int)} (hl : l.length = w * h) (x y p0 p1 p2 p3 p4 p5 : Int) : fSet_0 (w : Int) (h : Int) x y p0 p1 p2 p3 p4 p5 l = bif inn w h x y then l.set (ixp w x y) [p0, p1, p2, p3, p4, p5] else l := by
  unfold fSet_0
  rw [set_s1 w1 h1 hl]; rfl
theorem set_len {l : List (List Int)} (hl : l.length = w * h) (x y p0 p1 p2 p3 p4 p5 : Int) : (fSet_0 (w : Int) (h : Int) x y p0 p1 p2 p3 p4 p5 l).length = w * h := by
  rw [set_eq w1 h1 hl]
  cases inn w h x y
  · exact hl
  · show (List.set _ _ _).length = _
    rw [List.length_set]; exact hl

/-- A pixel's j-th number. -/
def px (w h : Nat) (l : List (List Int)) (x y : Int) (j : Nat) : Int := bif inn w h x y then rget l (ixp w x y) j else 0
section
variable {l : List (List Int)} (hl : l.length = w * h) (x y : Int)
include hl
theorem px_0 : fAt_0 (w : Int) (h : Int) x y l = px w h l x y 0 := by
  unfold fAt_0 px; rw [at_s1 w1 h1 hl]; cases inn w h x y <;> rfl
theorem px_1 : fAt_1 (w : Int) (h : Int) x y l = px w h l x y 1 := by
  unfold fAt_1 px; rw [at_s1 w1 h1 hl]; cases inn w h x y <;> rfl
theorem px_2 : fAt_2 (w : Int) (h : Int) x y l = px w h l x y 2 := by
  unfold fAt_2 px; rw [at_s1 w1 h1 hl]; cases inn w h x y <;> rfl
theorem px_3 : fAt_3 (w : Int) (h : Int) x y l = px w h l x y 3 := by
  unfold fAt_3 px; rw [at_s1 w1 h1 hl]; cases inn w h x y <;> rfl
theorem px_4 : fAt_4 (w : Int) (h : Int) x y l = px w h l x y 4 := by
  unfold fAt_4 px; rw [at_s1 w1 h1 hl]; cases inn w h x y <;> rfl
theorem px_5 : fAt_5 (w : Int) (h : Int) x y l = px w h l x y 5 := by
  unfold fAt_5 px; rw [at_s1 w1 h1 hl]; cases inn w h x y <;> rfl
end
end

/-- Two pixels. -/
def Eq6 (w h : Nat) (l m : List (List Int)) (x y : Int) : Bool := fAt_0 (w : Int) (h : Int) x y l == fAt_0 (w : Int) (h : Int) x y m && (fAt_1 (w : Int) (h : Int) x y l == fAt_1 (w : Int) (h : Int) x y m && (fAt_2 (w : Int) (h : Int) x y l == fAt_2 (w : Int) (h : Int) x y m && fAt_3 (w : Int) (h : Int) x y l == fAt_3 (w : Int) (h : Int) x y m)) && (fAt_4 (w : Int) (h : Int) x y l == fAt_4 (w : Int) (h : Int) x y m && fAt_5 (w : Int) (h : Int) x y l == fAt_5 (w : Int) (h : Int) x y m)

/-! In a box. -/
section
variable {w h : Nat} (w1 : w ≤ 64) (h1 : h ≤ 64) {l m : List (List Int)} (hl : l.length = w * h) (hm : m.length = w * h) {x0 y0 x1 y1 : Nat} (xx : x0 ≤ x1) (yy : y0 ≤ y1) (x64 : x1 ≤ 64) (y64 : y1 ≤ 64)

def iS (w h : Nat) (l m : List (List Int)) (x0 y0 x1 y1 y x : Nat) : fSameIn_l841_T := .mk false (y : Int) (x : Int) true (w : Int) (h : Int) l (w : Int) (h : Int) m (x0 : Int) (y0 : Int) (x1 : Int) (y1 : Int)
def oS (w h : Nat) (l m : List (List Int)) (x0 y0 x1 y1 y : Nat) : fSameIn_l13_T := .mk false (y : Int) (w : Int) (h : Int) l (w : Int) (h : Int) m (x0 : Int) (y0 : Int) (x1 : Int) (y1 : Int)

include x64 in
theorem i_s1 (y x : Nat) : fSameIn_l841_s1 (iS w h l m x0 y0 x1 y1 y x) = decide (x < x1) := by
  unfold fSameIn_l841_s1 fSameIn_l841_s0
  show decide ((x : Int) < if 64 < (x1 : Int) then 64 else (x1 : Int)) = _
  rw [if_neg (by omega)]
  exact decide_eq_decide.2 Int.ofNat_lt
theorem i_s2 (y x : Nat) : fSameIn_l841_s2 (iS w h l m x0 y0 x1 y1 y x) = !Eq6 w h l m x y := rfl
include x64 in
theorem i_step (y x : Nat) (hx : x < x1) (e : Eq6 w h l m x y = true) : pick1 (fSameIn_l841_st (iS w h l m x0 y0 x1 y1 y x)).2 = some (.n, iS w h l m x0 y0 x1 y1 y (x + 1)) := by
  unfold fSameIn_l841_st
  rw [i_s1 x64, i_s2, e, decide_eq_true hx]
  have : IntKind.wrap .i64 ((iS w h l m x0 y0 x1 y1 y x).a2 + 1) = ((x + 1 : Nat) : Int) := by
    show IntKind.wrap .i64 ((x : Int) + 1) = _
    rw [w64_in (by omega) (by omega)]; omega
  rw [this]; rfl
include x64 in
theorem i_bad (y x : Nat) (hx : x < x1) (e : Eq6 w h l m x y = false) : pick1 (fSameIn_l841_st (iS w h l m x0 y0 x1 y1 y x)).2 = some (.r, iS w h l m x0 y0 x1 y1 y x) := by
  unfold fSameIn_l841_st
  rw [i_s1 x64, i_s2, e, decide_eq_true hx]; rfl
include x64 in
theorem i_end (y : Nat) : pick1 (fSameIn_l841_st (iS w h l m x0 y0 x1 y1 y x1)).2 = some (.e 2, iS w h l m x0 y0 x1 y1 y x1) := by
  unfold fSameIn_l841_st
  rw [i_s1 x64, i_s2, decide_eq_false (Nat.lt_irrefl _)]; rfl
include w1 h1 hl hm in
theorem i_obs (y x : Nat) : Alls (fSameIn_l841_st (iS w h l m x0 y0 x1 y1 y x)).1 :=
  ⟨fun _ g => at_ob w1 h1 hl g, fun _ g => at_ob w1 h1 hm g, trivial⟩

/-- Are all of a row the same? -/
def rowOK (w h : Nat) (l m : List (List Int)) (x0 x1 y : Nat) : Prop := ∀ x : Nat, x0 ≤ x → x < x1 → Eq6 w h l m x y = true

include w1 h1 hl hm xx x64 in
theorem i_run (y : Nat) : ((rowOK w h l m x0 x1 y ∧ lrun fSameIn_l841_st 18446744073709551616 (iS w h l m x0 y0 x1 y1 y x0) = some (.e 2, iS w h l m x0 y0 x1 y1 y x1)) ∨ (¬ rowOK w h l m x0 x1 y ∧ ∃ x, lrun fSameIn_l841_st 18446744073709551616 (iS w h l m x0 y0 x1 y1 y x0) = some (.r, iS w h l m x0 y0 x1 y1 y x))) ∧ lok fSameIn_l841_st 18446744073709551616 (iS w h l m x0 y0 x1 y1 y x0) := by
  obtain ⟨k, a, b, c⟩ := first (fun i => Eq6 w h l m ((x0 + i : Nat) : Int) y = true) (x1 - x0)
  have hs : ∀ i, i < k → pick1 (fSameIn_l841_st (iS w h l m x0 y0 x1 y1 y (x0 + i))).2 = some (.n, iS w h l m x0 y0 x1 y1 y (x0 + (i + 1))) := fun i hi => i_step x64 y (x0 + i) (by omega) (b i hi)
  by_cases hk : k = x1 - x0
  · have he : pick1 (fSameIn_l841_st (iS w h l m x0 y0 x1 y1 y (x0 + k))).2 = some (.e 2, iS w h l m x0 y0 x1 y1 y x1) := by
      rw [show x0 + k = x1 by omega]; exact i_end x64 y
    refine ⟨.inl ⟨fun x h2 h3 => ?_, lx_run (s := fun i => iS w h l m x0 y0 x1 y1 y (x0 + i)) hs he nofun (by omega)⟩, lx_lok (s := fun i => iS w h l m x0 y0 x1 y1 y (x0 + i)) hs he nofun (fun i _ => i_obs w1 h1 hl hm y _) (by omega)⟩
    have := b (x - x0) (by omega)
    rwa [show x0 + (x - x0) = x by omega] at this
  · have hf : Eq6 w h l m ((x0 + k : Nat) : Int) y = false := by
      have := c.resolve_left hk
      cases hh : Eq6 w h l m ((x0 + k : Nat) : Int) y
      · rfl
      · exact absurd hh this
    have he := i_bad (w := w) (h := h) (l := l) (m := m) (x0 := x0) (y0 := y0) (y1 := y1) x64 y (x0 + k) (by omega) hf
    refine ⟨.inr ⟨fun hr => ?_, x0 + k, lx_run (s := fun i => iS w h l m x0 y0 x1 y1 y (x0 + i)) hs he nofun (by omega)⟩, lx_lok (s := fun i => iS w h l m x0 y0 x1 y1 y (x0 + i)) hs he nofun (fun i _ => i_obs w1 h1 hl hm y _) (by omega)⟩
    rw [hr (x0 + k) (by omega) (by omega)] at hf; cases hf

include y64 in
theorem o_s1 (y : Nat) : fSameIn_l13_s1 (oS w h l m x0 y0 x1 y1 y) = decide (y < y1) := by
  unfold fSameIn_l13_s1 fSameIn_l13_s0
  show decide ((y : Int) < if 64 < (y1 : Int) then 64 else (y1 : Int)) = _
  rw [if_neg (by omega)]
  exact decide_eq_decide.2 Int.ofNat_lt
theorem o_in : (if (x0 : Int) < 0 then (0 : Int) else (x0 : Int)) = (x0 : Int) := if_neg (by omega)
include y64 in
theorem o_s2 (y : Nat) (hy : y < y1) : fSameIn_l13_s2 (oS w h l m x0 y0 x1 y1 y) = lrun fSameIn_l841_st 18446744073709551616 (iS w h l m x0 y0 x1 y1 y x0) := by
  unfold fSameIn_l13_s2
  rw [o_s1 y64, decide_eq_true hy]
  show lrun _ _ (fSameIn_l841_T.mk false (y : Int) (if (x0 : Int) < 0 then (0 : Int) else (x0 : Int)) true w h l w h m x0 y0 x1 y1) = _
  rw [o_in]; rfl
include y64 in
theorem o_step (y : Nat) (hy : y < y1) (e : lrun fSameIn_l841_st 18446744073709551616 (iS w h l m x0 y0 x1 y1 y x0) = some (.e 2, iS w h l m x0 y0 x1 y1 y x1)) : pick1 (fSameIn_l13_st (oS w h l m x0 y0 x1 y1 y)).2 = some (.n, oS w h l m x0 y0 x1 y1 (y + 1)) := by
  unfold fSameIn_l13_st
  rw [o_s2 y64 y hy, e, o_s1 y64, decide_eq_true hy]
  have : IntKind.wrap .i64 ((V.valOf (some (X.e 2, iS w h l m x0 y0 x1 y1 y x1))).a1 + 1) = ((y + 1 : Nat) : Int) := by
    show IntKind.wrap .i64 ((y : Int) + 1) = _
    rw [w64_in (by omega) (by omega)]; omega
  rw [this]; rfl
include y64 in
theorem o_bad (y : Nat) (hy : y < y1) {x : Nat} (e : lrun fSameIn_l841_st 18446744073709551616 (iS w h l m x0 y0 x1 y1 y x0) = some (.r, iS w h l m x0 y0 x1 y1 y x)) : pick1 (fSameIn_l13_st (oS w h l m x0 y0 x1 y1 y)).2 = some (.r, oS w h l m x0 y0 x1 y1 y) := by
  unfold fSameIn_l13_st
  rw [o_s2 y64 y hy, e, o_s1 y64, decide_eq_true hy]; rfl
include y64 in
theorem o_end : pick1 (fSameIn_l13_st (oS w h l m x0 y0 x1 y1 y1)).2 = some (.e 0, oS w h l m x0 y0 x1 y1 y1) := by
  unfold fSameIn_l13_st
  rw [o_s1 y64, decide_eq_false (Nat.lt_irrefl _)]; rfl
include w1 h1 hl hm xx x64 y64 in
theorem o_obs (y : Nat) : Alls (fSameIn_l13_st (oS w h l m x0 y0 x1 y1 y)).1 := by
  refine ⟨fun g => ?_, trivial⟩
  rw [g]
  show lok _ _ (fSameIn_l841_T.mk false (y : Int) (if (x0 : Int) < 0 then (0 : Int) else (x0 : Int)) true w h l w h m x0 y0 x1 y1)
  rw [o_in]
  exact (i_run w1 h1 hl hm xx x64 y).2

include w1 h1 hl hm xx yy x64 y64 in
theorem sameIn : (fSameIn_0 (w : Int) (h : Int) (w : Int) (h : Int) (x0 : Int) (y0 : Int) (x1 : Int) (y1 : Int) l m = true ↔ ∀ y : Nat, y0 ≤ y → y < y1 → rowOK w h l m x0 x1 y) ∧ lok fSameIn_l13_st 18446744073709551616 (fSameIn_l13_T.mk false (if (y0 : Int) < 0 then 0 else (y0 : Int)) (w : Int) (h : Int) l (w : Int) (h : Int) m (x0 : Int) (y0 : Int) (x1 : Int) (y1 : Int)) := by
  obtain ⟨k, a, b, c⟩ := first (fun i => rowOK w h l m x0 x1 (y0 + i)) (y1 - y0)
  have st0 : fSameIn_l13_T.mk false (if (y0 : Int) < 0 then 0 else (y0 : Int)) (w : Int) (h : Int) l (w : Int) (h : Int) m (x0 : Int) (y0 : Int) (x1 : Int) (y1 : Int) = oS w h l m x0 y0 x1 y1 (y0 + 0) := by
    rw [if_neg (by omega)]; rfl
  have hs : ∀ i, i < k → pick1 (fSameIn_l13_st (oS w h l m x0 y0 x1 y1 (y0 + i))).2 = some (.n, oS w h l m x0 y0 x1 y1 (y0 + (i + 1))) := fun i hi => by
    rcases (i_run (y0 := y0) (y1 := y1) w1 h1 hl hm xx x64 (y0 + i)).1 with ⟨_, e⟩ | ⟨e, _⟩
    · exact o_step y64 (y0 + i) (by omega) e
    · exact absurd (b i hi) e
  unfold fSameIn_0 fSameIn_s0
  rw [st0]
  by_cases hk : k = y1 - y0
  · have he : pick1 (fSameIn_l13_st (oS w h l m x0 y0 x1 y1 (y0 + k))).2 = some (.e 0, oS w h l m x0 y0 x1 y1 y1) := by
      rw [show y0 + k = y1 by omega]; exact o_end y64
    rw [lx_run (s := fun i => oS w h l m x0 y0 x1 y1 (y0 + i)) hs he nofun (by omega)]
    refine ⟨⟨fun _ y h2 h3 => ?_, fun _ => rfl⟩, lx_lok (s := fun i => oS w h l m x0 y0 x1 y1 (y0 + i)) hs he nofun (fun i _ => o_obs w1 h1 hl hm xx x64 y64 _) (by omega)⟩
    have := b (y - y0) (by omega)
    rwa [show y0 + (y - y0) = y by omega] at this
  · have hn := c.resolve_left hk
    rcases (i_run (y0 := y0) (y1 := y1) w1 h1 hl hm xx x64 (y0 + k)).1 with ⟨e, _⟩ | ⟨_, x, e⟩
    · exact absurd e hn
    have he := o_bad y64 (y0 + k) (by omega) e
    rw [lx_run (s := fun i => oS w h l m x0 y0 x1 y1 (y0 + i)) hs he nofun (by omega)]
    refine ⟨⟨fun h => ?_, fun h => absurd (h (y0 + k) (by omega) (by omega)) hn⟩, lx_lok (s := fun i => oS w h l m x0 y0 x1 y1 (y0 + i)) hs he nofun (fun i _ => o_obs w1 h1 hl hm xx x64 y64 _) (by omega)⟩
    cases h
end
end Go.Proofs.Ytcdejlgophpdjaa
end

