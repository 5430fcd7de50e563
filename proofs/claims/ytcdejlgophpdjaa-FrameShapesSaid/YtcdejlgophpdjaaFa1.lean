/-
  Contracts of functions of the program, each run on the local memory (printed by a program of this session's own: wip/tools).
-/
import Derived.Test.YtcdejlgophpdjaaVL
namespace Go.Proofs.Ytcdejlgophpdjaa
open Go Go.RowKit Go.Proofs.Ytcdejlgophpdjaa.V
set_option linter.unusedVariables false

/-! math/bits.Mul32 -/
def bMul32_s0 (x0 : Int) (x1 : Int) : Int := IntKind.wrap IntKind.u64 (IntKind.wrap IntKind.u64 x0 * IntKind.wrap IntKind.u64 x1)
def bMul32_0 (x0 : Int) (x1 : Int) : Int := IntKind.wrap IntKind.u32 (Int.fdiv (bMul32_s0 x0 x1) ((2 : Int) ^ min (Int.toNat (32 : Int)) (IntKind.bits IntKind.u64)))
def bMul32_1 (x0 : Int) (x1 : Int) : Int := IntKind.wrap IntKind.u32 (bMul32_s0 x0 x1)
theorem bMul32_p (x0 : Int) (x1 : Int) : evG Try.prog tabVL 2000 139 [0, 1, 4, 5, 6] [] [] [.a (.int true .u32 x0), .a (.int true .u32 x1)] [] = some ([], LV.t [LV.a (At.int true IntKind.u32 (bMul32_0 x0 x1)), LV.a (At.int true IntKind.u32 (bMul32_1 x0 x1))], []) := by kernel_rfl
def bMul32_c : Con
  | [.a (.int true .u32 x0), .a (.int true .u32 x1)], [] => some ([], LV.t [LV.a (At.int true IntKind.u32 (bMul32_0 x0 x1)), LV.a (At.int true IntKind.u32 (bMul32_1 x0 x1))], [])
  | _, _ => none
theorem bMul32_ok : ConOK Try.prog 139 (normC bMul32_c) := normC_ok (by
  intro args bs obs lv out h ho φ vs w may ha hM
  unfold bMul32_c at h
  split at h
  · simp only [Option.some.injEq, Prod.mk.injEq] at h
    obtain ⟨rfl, rfl, rfl⟩ := h
    rename_i x0 x1
    exact evG_ok tabVL_ok follows _ _ _ _ _ (bMul32_p x0 x1) ho φ vs w may ha hM
  · cases h)
theorem bMul32_en : Enters Try.prog 139 := fun args => by kernel_rfl
-- 139 4 5 ms

/-! math/bits.Mul64 -/
def bMul64_s0 : Int := (2 : Int) ^ min (Int.toNat (32 : Int)) (IntKind.bits IntKind.u64)
def bMul64_s1 : Int := Int.ofNat ((2 : Nat) ^ IntKind.bits IntKind.u64)
def bMul64_s2 : Nat := Int.toNat ((4294967295 : Int) % bMul64_s1)
def bMul64_s3 (x1 : Int) : Int := IntKind.wrap IntKind.u64 (Int.ofNat (Int.toNat (x1 % bMul64_s1) &&& bMul64_s2))
def bMul64_s4 (x0 : Int) : Int := IntKind.wrap IntKind.u64 (Int.ofNat (Int.toNat (x0 % bMul64_s1) &&& bMul64_s2))
def bMul64_s5 (x0 : Int) (x1 : Int) : Int := IntKind.wrap IntKind.u64 (IntKind.wrap IntKind.u64 (Int.fdiv x0 bMul64_s0 * bMul64_s3 x1) + Int.fdiv (IntKind.wrap IntKind.u64 (bMul64_s4 x0 * bMul64_s3 x1)) bMul64_s0)
def bMul64_0 (x0 : Int) (x1 : Int) : Int := IntKind.wrap IntKind.u64 (IntKind.wrap IntKind.u64 (IntKind.wrap IntKind.u64 (Int.fdiv x0 bMul64_s0 * Int.fdiv x1 bMul64_s0) + Int.fdiv (bMul64_s5 x0 x1) bMul64_s0) + Int.fdiv (IntKind.wrap IntKind.u64 (IntKind.wrap IntKind.u64 (Int.ofNat (Int.toNat (bMul64_s5 x0 x1 % bMul64_s1) &&& bMul64_s2)) + IntKind.wrap IntKind.u64 (bMul64_s4 x0 * Int.fdiv x1 bMul64_s0))) bMul64_s0)
def bMul64_1 (x0 : Int) (x1 : Int) : Int := IntKind.wrap IntKind.u64 (x0 * x1)
theorem bMul64_p (x0 : Int) (x1 : Int) : evG Try.prog tabVL 2000 140 [0, 1, 4, 5, 6, 7, 8, 9, 10, 11, 12, 13] [] [] [.a (.int true .u64 x0), .a (.int true .u64 x1)] [] = some ([], LV.t [LV.a (At.int true IntKind.u64 (bMul64_0 x0 x1)), LV.a (At.int true IntKind.u64 (bMul64_1 x0 x1))], []) := by kernel_rfl
def bMul64_c : Con
  | [.a (.int true .u64 x0), .a (.int true .u64 x1)], [] => some ([], LV.t [LV.a (At.int true IntKind.u64 (bMul64_0 x0 x1)), LV.a (At.int true IntKind.u64 (bMul64_1 x0 x1))], [])
  | _, _ => none
theorem bMul64_ok : ConOK Try.prog 140 (normC bMul64_c) := normC_ok (by
  intro args bs obs lv out h ho φ vs w may ha hM
  unfold bMul64_c at h
  split at h
  · simp only [Option.some.injEq, Prod.mk.injEq] at h
    obtain ⟨rfl, rfl, rfl⟩ := h
    rename_i x0 x1
    exact evG_ok tabVL_ok follows _ _ _ _ _ (bMul64_p x0 x1) ho φ vs w may ha hM
  · cases h)
theorem bMul64_en : Enters Try.prog 140 := fun args => by kernel_rfl
-- 189 5 13 ms

/-! (azulejo/azulejolaw19.Small).Pixel -/
theorem smPix_p (x0_0 : Int) (x0_1 : Int) (x0_2 : Int) (x0_3 : Int) (x0_4 : Int) (x0_5 : Int) : evG Try.prog tabVL 2000 39 [0, 1, 2] [] [] [.g [.int true .u8 x0_0, .int true .u8 x0_1, .int true .u8 x0_2, .int true .u8 x0_3, .int true .u16 x0_4, .int true .u8 x0_5]] [] = some ([], LV.g [At.int true IntKind.u8 x0_0, At.int true IntKind.u8 x0_1, At.int true IntKind.u8 x0_2, At.int true IntKind.u8 x0_3, At.int true IntKind.i64 (IntKind.wrap IntKind.i64 x0_4), At.int true IntKind.u8 x0_5], []) := by kernel_rfl
def smPix_c : Con
  | [.g [.int true .u8 x0_0, .int true .u8 x0_1, .int true .u8 x0_2, .int true .u8 x0_3, .int true .u16 x0_4, .int true .u8 x0_5]], [] => some ([], LV.g [At.int true IntKind.u8 x0_0, At.int true IntKind.u8 x0_1, At.int true IntKind.u8 x0_2, At.int true IntKind.u8 x0_3, At.int true IntKind.i64 (IntKind.wrap IntKind.i64 x0_4), At.int true IntKind.u8 x0_5], [])
  | _, _ => none
theorem smPix_ok : ConOK Try.prog 39 (normC smPix_c) := normC_ok (by
  intro args bs obs lv out h ho φ vs w may ha hM
  unfold smPix_c at h
  split at h
  · simp only [Option.some.injEq, Prod.mk.injEq] at h
    obtain ⟨rfl, rfl, rfl⟩ := h
    rename_i x0_0 x0_1 x0_2 x0_3 x0_4 x0_5
    exact evG_ok tabVL_ok follows _ _ _ _ _ (smPix_p x0_0 x0_1 x0_2 x0_3 x0_4 x0_5) ho φ vs w may ha hM
  · cases h)
theorem smPix_en : Enters Try.prog 39 := fun args => by kernel_rfl
-- 159 3 0 ms

/-! azulejo/bin.tiles -/
def bTiles_s0 (x0 : Int) : Int := if x0 < (0 : Int) then (0 : Int) else x0
def bTiles_0 (x0 : Int) : Int := IntKind.wrap IntKind.i64 (Int.tdiv (IntKind.wrap IntKind.i64 (IntKind.wrap IntKind.i64 ((if (64 : Int) < bTiles_s0 x0 then (64 : Int) else bTiles_s0 x0) + (8 : Int)) - (1 : Int))) (8 : Int))
theorem bTiles_p (x0 : Int) : evG Try.prog tabVL 2000 103 [0, 2] [] [] [.a (.int true .i64 x0)] [] = some ([], LV.a (At.int true IntKind.i64 (bTiles_0 x0)), []) := by kernel_rfl
def bTiles_c : Con
  | [.a (.int true .i64 x0)], [] => some ([], LV.a (At.int true IntKind.i64 (bTiles_0 x0)), [])
  | _, _ => none
theorem bTiles_ok : ConOK Try.prog 103 (normC bTiles_c) := normC_ok (by
  intro args bs obs lv out h ho φ vs w may ha hM
  unfold bTiles_c at h
  split at h
  · simp only [Option.some.injEq, Prod.mk.injEq] at h
    obtain ⟨rfl, rfl, rfl⟩ := h
    rename_i x0
    exact evG_ok tabVL_ok follows _ _ _ _ _ (bTiles_p x0) ho φ vs w may ha hM
  · cases h)
theorem bTiles_en : Enters Try.prog 103 := fun args => by kernel_rfl
-- 55 4 5 ms

def tabFa1 : Tab := (139, normC bMul32_c) :: (140, normC bMul64_c) :: (39, normC smPix_c) :: (103, normC bTiles_c) :: tabVL
theorem tabFa1_ok : TOK Try.prog tabFa1 := TOK.cons bMul32_en bMul32_ok (TOK.cons bMul64_en bMul64_ok (TOK.cons smPix_en smPix_ok (TOK.cons bTiles_en bTiles_ok (tabVL_ok))))

end Go.Proofs.Ytcdejlgophpdjaa
