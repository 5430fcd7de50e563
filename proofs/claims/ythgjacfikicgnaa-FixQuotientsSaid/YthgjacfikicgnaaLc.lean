/-
  Contracts of functions of the program, each run on the local memory (printed by a program of this session's own: wip/tools).
-/
import Derived.Test.YthgjacfikicgnaaLb
namespace Go.Proofs.Ythgjacfikicgnaa
open Go Go.RowKit Go.Proofs.Ythgjacfikicgnaa.K
set_option linter.unusedVariables false

/-! azulejo/fix.Add -/
def fAdd (x0 : Int) (x1 : Int) : Int := fClamp (IntKind.wrap IntKind.i64 (fClamp x0 + fClamp x1))
theorem fAdd_p0 (x0 : Int) (x1 : Int) : evG Try.prog tabLb 2000 32 [] [.a (.int .i64 x0), .a (.int .i64 x1)] = some ([], .a (.int .i64 (fClamp (IntKind.wrap IntKind.i64 (fClamp x0 + fClamp x1))))) := by kernel_rfl
def fAdd_c : Con
  | [.a (.int .i64 x0), .a (.int .i64 x1)] => some ([], .a (.int .i64 (fAdd x0 x1)))
  | _ => none
theorem fAdd_ok : PureOK Try.prog 32 fAdd_c := by
  intro args obs lv h ho φ vs w ha
  unfold fAdd_c at h
  split at h
  · simp only [Option.some.injEq, Prod.mk.injEq] at h
    obtain ⟨rfl, rfl⟩ := h
    rename_i x0 x1
    have e := evG_wp tabLb_ok follows (fAdd_p0 x0 x1) trivial φ vs w ha
    simpa only [fAdd] using e
  · cases h
theorem fAdd_en : Enters Try.prog 32 := fun args => by kernel_rfl

/-! azulejo/fix.Sub -/
def fSub (x0 : Int) (x1 : Int) : Int := fClamp (IntKind.wrap IntKind.i64 (fClamp x0 - fClamp x1))
theorem fSub_p0 (x0 : Int) (x1 : Int) : evG Try.prog tabLb 2000 33 [] [.a (.int .i64 x0), .a (.int .i64 x1)] = some ([], .a (.int .i64 (fClamp (IntKind.wrap IntKind.i64 (fClamp x0 - fClamp x1))))) := by kernel_rfl
def fSub_c : Con
  | [.a (.int .i64 x0), .a (.int .i64 x1)] => some ([], .a (.int .i64 (fSub x0 x1)))
  | _ => none
theorem fSub_ok : PureOK Try.prog 33 fSub_c := by
  intro args obs lv h ho φ vs w ha
  unfold fSub_c at h
  split at h
  · simp only [Option.some.injEq, Prod.mk.injEq] at h
    obtain ⟨rfl, rfl⟩ := h
    rename_i x0 x1
    have e := evG_wp tabLb_ok follows (fSub_p0 x0 x1) trivial φ vs w ha
    simpa only [fSub] using e
  · cases h
theorem fSub_en : Enters Try.prog 33 := fun args => by kernel_rfl

/-! azulejo/fix.Mul -/
def fMul (x0 : Int) (x1 : Int) : Int := fClamp (Int.fdiv (IntKind.wrap IntKind.i64 (fClamp x0 * fClamp x1)) (2 ^ min (Int.toNat 16) (IntKind.bits IntKind.i64)))
theorem fMul_p0 (x0 : Int) (x1 : Int) : evG Try.prog tabLb 2000 34 [.k] [.a (.int .i64 x0), .a (.int .i64 x1)] = some ([], .a (.int .i64 (fClamp (Int.fdiv (IntKind.wrap IntKind.i64 (fClamp x0 * fClamp x1)) (2 ^ min (Int.toNat 16) (IntKind.bits IntKind.i64)))))) := by kernel_rfl
def fMul_c : Con
  | [.a (.int .i64 x0), .a (.int .i64 x1)] => some ([], .a (.int .i64 (fMul x0 x1)))
  | _ => none
theorem fMul_ok : PureOK Try.prog 34 fMul_c := by
  intro args obs lv h ho φ vs w ha
  unfold fMul_c at h
  split at h
  · simp only [Option.some.injEq, Prod.mk.injEq] at h
    obtain ⟨rfl, rfl⟩ := h
    rename_i x0 x1
    have e := evG_wp tabLb_ok follows (fMul_p0 x0 x1) trivial φ vs w ha
    simpa only [fMul] using e
  · cases h
theorem fMul_en : Enters Try.prog 34 := fun args => by kernel_rfl

/-! azulejo/fix.Of -/
def fOf (x0 : Int) : Int := fClamp (IntKind.wrap IntKind.i64 (fWithin x0 65536 * 2 ^ min (Int.toNat 16) (IntKind.bits IntKind.i64)))
theorem fOf_p0 (x0 : Int) : evG Try.prog tabLb 2000 30 [.k] [.a (.int .i64 x0)] = some ([], .a (.int .i64 (fClamp (IntKind.wrap IntKind.i64 (fWithin x0 65536 * 2 ^ min (Int.toNat 16) (IntKind.bits IntKind.i64)))))) := by kernel_rfl
def fOf_c : Con
  | [.a (.int .i64 x0)] => some ([], .a (.int .i64 (fOf x0)))
  | _ => none
theorem fOf_ok : PureOK Try.prog 30 fOf_c := by
  intro args obs lv h ho φ vs w ha
  unfold fOf_c at h
  split at h
  · simp only [Option.some.injEq, Prod.mk.injEq] at h
    obtain ⟨rfl, rfl⟩ := h
    rename_i x0
    have e := evG_wp tabLb_ok follows (fOf_p0 x0) trivial φ vs w ha
    simpa only [fOf] using e
  · cases h
theorem fOf_en : Enters Try.prog 30 := fun args => by kernel_rfl

/-! azulejo/fix.Whole -/
def fWhole (x0 : Int) : Int := Int.fdiv (fClamp x0) (2 ^ min (Int.toNat 16) (IntKind.bits IntKind.i64))
theorem fWhole_p0 (x0 : Int) : evG Try.prog tabLb 2000 28 [.k] [.a (.int .i64 x0)] = some ([], .a (.int .i64 (Int.fdiv (fClamp x0) (2 ^ min (Int.toNat 16) (IntKind.bits IntKind.i64))))) := by kernel_rfl
def fWhole_c : Con
  | [.a (.int .i64 x0)] => some ([], .a (.int .i64 (fWhole x0)))
  | _ => none
theorem fWhole_ok : PureOK Try.prog 28 fWhole_c := by
  intro args obs lv h ho φ vs w ha
  unfold fWhole_c at h
  split at h
  · simp only [Option.some.injEq, Prod.mk.injEq] at h
    obtain ⟨rfl, rfl⟩ := h
    rename_i x0
    have e := evG_wp tabLb_ok follows (fWhole_p0 x0) trivial φ vs w ha
    simpa only [fWhole] using e
  · cases h
theorem fWhole_en : Enters Try.prog 28 := fun args => by kernel_rfl

/-! azulejo/fix.Div -/
def fDiv (x0 : Int) (x1 : Int) : Int := (bif fClamp x1 == 0 then (bif decide (fClamp x0 > 0) then 2147483647 else (bif decide (fClamp x0 < 0) then -2147483647 else 0)) else fClamp (fFloor (IntKind.wrap IntKind.i64 (fClamp x0 * 2 ^ min (Int.toNat 16) (IntKind.bits IntKind.i64))) (fClamp x1)))
theorem fDiv_p0 (x0 : Int) (x1 : Int) : evG Try.prog tabLb 2000 27 [.t, .t, .k] [.a (.int .i64 x0), .a (.int .i64 x1)] = some ([(fClamp x1 == 0) = true, decide (fClamp x0 > 0) = true], .a (.int .i64 (2147483647))) := by kernel_rfl
theorem fDiv_p1 (x0 : Int) (x1 : Int) : evG Try.prog tabLb 2000 27 [.t, .f, .k, .t, .k] [.a (.int .i64 x0), .a (.int .i64 x1)] = some ([(fClamp x1 == 0) = true, decide (fClamp x0 > 0) = false, decide (fClamp x0 < 0) = true], .a (.int .i64 (-2147483647))) := by kernel_rfl
theorem fDiv_p2 (x0 : Int) (x1 : Int) : evG Try.prog tabLb 2000 27 [.t, .f, .k, .f, .k] [.a (.int .i64 x0), .a (.int .i64 x1)] = some ([(fClamp x1 == 0) = true, decide (fClamp x0 > 0) = false, decide (fClamp x0 < 0) = false], .a (.int .i64 (0))) := by kernel_rfl
theorem fDiv_p3 (x0 : Int) (x1 : Int) : evG Try.prog tabLb 2000 27 [.f, .k] [.a (.int .i64 x0), .a (.int .i64 x1)] = some ([(fClamp x1 == 0) = false], .a (.int .i64 (fClamp (fFloor (IntKind.wrap IntKind.i64 (fClamp x0 * 2 ^ min (Int.toNat 16) (IntKind.bits IntKind.i64))) (fClamp x1))))) := by kernel_rfl
def fDiv_c : Con
  | [.a (.int .i64 x0), .a (.int .i64 x1)] => some ([], .a (.int .i64 (fDiv x0 x1)))
  | _ => none
theorem fDiv_ok : PureOK Try.prog 27 fDiv_c := by
  intro args obs lv h ho φ vs w ha
  unfold fDiv_c at h
  split at h
  · simp only [Option.some.injEq, Prod.mk.injEq] at h
    obtain ⟨rfl, rfl⟩ := h
    rename_i x0 x1
    rcases Bool.eq_false_or_eq_true (fClamp x1 == 0) with h0 | h0
    · skip
      rcases Bool.eq_false_or_eq_true (decide (fClamp x0 > 0)) with h1 | h1
      · skip
        have e := evG_wp tabLb_ok follows (fDiv_p0 x0 x1) ⟨h0, h1, trivial⟩ φ vs w ha
        simpa only [fDiv, h0, h1, cond_true] using e
      · skip
        rcases Bool.eq_false_or_eq_true (decide (fClamp x0 < 0)) with h2 | h2
        · skip
          have e := evG_wp tabLb_ok follows (fDiv_p1 x0 x1) ⟨h0, h1, h2, trivial⟩ φ vs w ha
          simpa only [fDiv, h0, h1, h2, cond_true, cond_false] using e
        · skip
          have e := evG_wp tabLb_ok follows (fDiv_p2 x0 x1) ⟨h0, h1, h2, trivial⟩ φ vs w ha
          simpa only [fDiv, h0, h1, h2, cond_true, cond_false] using e
    · skip
      have e := evG_wp tabLb_ok follows (fDiv_p3 x0 x1) ⟨h0, trivial⟩ φ vs w ha
      simpa only [fDiv, h0, cond_false] using e
  · cases h
theorem fDiv_en : Enters Try.prog 27 := fun args => by kernel_rfl

/-! azulejo/edge.Side -/
def eSide (x0_0 : Int) (x0_1 : Int) (x1_0 : Int) (x1_1 : Int) (x2_0 : Int) (x2_1 : Int) : Int := IntKind.wrap IntKind.i64 (IntKind.wrap IntKind.i64 (IntKind.wrap IntKind.i64 (eNear_0 x1_0 x1_1 - eNear_0 x0_0 x0_1) * IntKind.wrap IntKind.i64 (eNear_1 x2_0 x2_1 - eNear_1 x0_0 x0_1)) - IntKind.wrap IntKind.i64 (IntKind.wrap IntKind.i64 (eNear_1 x1_0 x1_1 - eNear_1 x0_0 x0_1) * IntKind.wrap IntKind.i64 (eNear_0 x2_0 x2_1 - eNear_0 x0_0 x0_1)))
theorem eSide_p0 (x0_0 : Int) (x0_1 : Int) (x1_0 : Int) (x1_1 : Int) (x2_0 : Int) (x2_1 : Int) : evG Try.prog tabLb 2000 40 [] [.g [.int .i64 x0_0, .int .i64 x0_1], .g [.int .i64 x1_0, .int .i64 x1_1], .g [.int .i64 x2_0, .int .i64 x2_1]] = some ([], .a (.int .i64 (IntKind.wrap IntKind.i64 (IntKind.wrap IntKind.i64 (IntKind.wrap IntKind.i64 (eNear_0 x1_0 x1_1 - eNear_0 x0_0 x0_1) * IntKind.wrap IntKind.i64 (eNear_1 x2_0 x2_1 - eNear_1 x0_0 x0_1)) - IntKind.wrap IntKind.i64 (IntKind.wrap IntKind.i64 (eNear_1 x1_0 x1_1 - eNear_1 x0_0 x0_1) * IntKind.wrap IntKind.i64 (eNear_0 x2_0 x2_1 - eNear_0 x0_0 x0_1)))))) := by kernel_rfl
def eSide_c : Con
  | [.g [.int .i64 x0_0, .int .i64 x0_1], .g [.int .i64 x1_0, .int .i64 x1_1], .g [.int .i64 x2_0, .int .i64 x2_1]] => some ([], .a (.int .i64 (eSide x0_0 x0_1 x1_0 x1_1 x2_0 x2_1)))
  | _ => none
theorem eSide_ok : PureOK Try.prog 40 eSide_c := by
  intro args obs lv h ho φ vs w ha
  unfold eSide_c at h
  split at h
  · simp only [Option.some.injEq, Prod.mk.injEq] at h
    obtain ⟨rfl, rfl⟩ := h
    rename_i x0_0 x0_1 x1_0 x1_1 x2_0 x2_1
    have e := evG_wp tabLb_ok follows (eSide_p0 x0_0 x0_1 x1_0 x1_1 x2_0 x2_1) trivial φ vs w ha
    simpa only [eSide] using e
  · cases h
theorem eSide_en : Enters Try.prog 40 := fun args => by kernel_rfl

/-! azulejo/edge.Owns -/
def eOwns (x0_0 : Int) (x0_1 : Int) (x1_0 : Int) (x1_1 : Int) : Bool := (bif decide (eNear_1 x1_0 x1_1 < eNear_1 x0_0 x0_1) then true else (bif eNear_1 x0_0 x0_1 == eNear_1 x1_0 x1_1 then (bif decide (eNear_0 x1_0 x1_1 > eNear_0 x0_0 x0_1) then true else false) else false))
theorem eOwns_p0 (x0_0 : Int) (x0_1 : Int) (x1_0 : Int) (x1_1 : Int) : evG Try.prog tabLb 2000 44 [.k, .t, .k, .k, .k] [.g [.int .i64 x0_0, .int .i64 x0_1], .g [.int .i64 x1_0, .int .i64 x1_1]] = some ([decide (eNear_1 x1_0 x1_1 < eNear_1 x0_0 x0_1) = true], .a (.bool (true))) := by kernel_rfl
theorem eOwns_p1 (x0_0 : Int) (x0_1 : Int) (x1_0 : Int) (x1_1 : Int) : evG Try.prog tabLb 2000 44 [.k, .f, .k, .t, .k, .t, .k, .k, .k] [.g [.int .i64 x0_0, .int .i64 x0_1], .g [.int .i64 x1_0, .int .i64 x1_1]] = some ([decide (eNear_1 x1_0 x1_1 < eNear_1 x0_0 x0_1) = false, (eNear_1 x0_0 x0_1 == eNear_1 x1_0 x1_1) = true, decide (eNear_0 x1_0 x1_1 > eNear_0 x0_0 x0_1) = true], .a (.bool (true))) := by kernel_rfl
theorem eOwns_p2 (x0_0 : Int) (x0_1 : Int) (x1_0 : Int) (x1_1 : Int) : evG Try.prog tabLb 2000 44 [.k, .f, .k, .t, .k, .f, .k, .k, .k] [.g [.int .i64 x0_0, .int .i64 x0_1], .g [.int .i64 x1_0, .int .i64 x1_1]] = some ([decide (eNear_1 x1_0 x1_1 < eNear_1 x0_0 x0_1) = false, (eNear_1 x0_0 x0_1 == eNear_1 x1_0 x1_1) = true, decide (eNear_0 x1_0 x1_1 > eNear_0 x0_0 x0_1) = false], .a (.bool (false))) := by kernel_rfl
theorem eOwns_p3 (x0_0 : Int) (x0_1 : Int) (x1_0 : Int) (x1_1 : Int) : evG Try.prog tabLb 2000 44 [.k, .f, .k, .f, .k, .k, .k, .k] [.g [.int .i64 x0_0, .int .i64 x0_1], .g [.int .i64 x1_0, .int .i64 x1_1]] = some ([decide (eNear_1 x1_0 x1_1 < eNear_1 x0_0 x0_1) = false, (eNear_1 x0_0 x0_1 == eNear_1 x1_0 x1_1) = false], .a (.bool (false))) := by kernel_rfl
def eOwns_c : Con
  | [.g [.int .i64 x0_0, .int .i64 x0_1], .g [.int .i64 x1_0, .int .i64 x1_1]] => some ([], .a (.bool (eOwns x0_0 x0_1 x1_0 x1_1)))
  | _ => none
theorem eOwns_ok : PureOK Try.prog 44 eOwns_c := by
  intro args obs lv h ho φ vs w ha
  unfold eOwns_c at h
  split at h
  · simp only [Option.some.injEq, Prod.mk.injEq] at h
    obtain ⟨rfl, rfl⟩ := h
    rename_i x0_0 x0_1 x1_0 x1_1
    rcases Bool.eq_false_or_eq_true (decide (eNear_1 x1_0 x1_1 < eNear_1 x0_0 x0_1)) with h0 | h0
    · skip
      have e := evG_wp tabLb_ok follows (eOwns_p0 x0_0 x0_1 x1_0 x1_1) ⟨h0, trivial⟩ φ vs w ha
      simpa only [eOwns, h0, cond_true] using e
    · skip
      rcases Bool.eq_false_or_eq_true (eNear_1 x0_0 x0_1 == eNear_1 x1_0 x1_1) with h1 | h1
      · skip
        rcases Bool.eq_false_or_eq_true (decide (eNear_0 x1_0 x1_1 > eNear_0 x0_0 x0_1)) with h2 | h2
        · skip
          have e := evG_wp tabLb_ok follows (eOwns_p1 x0_0 x0_1 x1_0 x1_1) ⟨h0, h1, h2, trivial⟩ φ vs w ha
          simpa only [eOwns, h0, h1, h2, cond_true, cond_false] using e
        · skip
          have e := evG_wp tabLb_ok follows (eOwns_p2 x0_0 x0_1 x1_0 x1_1) ⟨h0, h1, h2, trivial⟩ φ vs w ha
          simpa only [eOwns, h0, h1, h2, cond_true, cond_false] using e
      · skip
        have e := evG_wp tabLb_ok follows (eOwns_p3 x0_0 x0_1 x1_0 x1_1) ⟨h0, h1, trivial⟩ φ vs w ha
        simpa only [eOwns, h0, h1, cond_false] using e
  · cases h
theorem eOwns_en : Enters Try.prog 44 := fun args => by kernel_rfl

/-! (azulejo/bin.Grid).Tiles -/
def bTiles2 (x0_0 : Int) (x0_1 : Int) : Int := IntKind.wrap IntKind.i64 (bCols x0_0 x0_1 * bRows x0_0 x0_1)
theorem bTiles2_p0 (x0_0 : Int) (x0_1 : Int) : evG Try.prog tabLb 2000 53 [] [.g [.int .i64 x0_0, .int .i64 x0_1]] = some ([], .a (.int .i64 (IntKind.wrap IntKind.i64 (bCols x0_0 x0_1 * bRows x0_0 x0_1)))) := by kernel_rfl
def bTiles2_c : Con
  | [.g [.int .i64 x0_0, .int .i64 x0_1]] => some ([], .a (.int .i64 (bTiles2 x0_0 x0_1)))
  | _ => none
theorem bTiles2_ok : PureOK Try.prog 53 bTiles2_c := by
  intro args obs lv h ho φ vs w ha
  unfold bTiles2_c at h
  split at h
  · simp only [Option.some.injEq, Prod.mk.injEq] at h
    obtain ⟨rfl, rfl⟩ := h
    rename_i x0_0 x0_1
    have e := evG_wp tabLb_ok follows (bTiles2_p0 x0_0 x0_1) trivial φ vs w ha
    simpa only [bTiles2] using e
  · cases h
theorem bTiles2_en : Enters Try.prog 53 := fun args => by kernel_rfl

/-! azulejo/azulejoref01.Floor -/
def rFloorA (x0 : Int) (x1 : Int) : Int := (bif x1 == 0 then 0 else (bif decide (x0 ≥ 0) then IntKind.wrap IntKind.i64 (Int.tdiv x0 x1) else IntKind.wrap IntKind.i64 (0 - IntKind.wrap IntKind.i64 (Int.tdiv (IntKind.wrap IntKind.i64 (IntKind.wrap IntKind.i64 (x1 - 1) - x0)) x1))))
theorem rFloorA_p0 (x0 : Int) (x1 : Int) : evG Try.prog tabLb 2000 26 [.t] [.a (.int .i64 x0), .a (.int .i64 x1)] = some ([(x1 == 0) = true], .a (.int .i64 (0))) := by kernel_rfl
theorem rFloorA_p1 (x0 : Int) (x1 : Int) : evG Try.prog tabLb 2000 26 [.f, .f, .t, .t] [.a (.int .i64 x0), .a (.int .i64 x1)] = some ([(x1 == 0) = false, decide (x1 < 0) = false, decide (x0 ≥ 0) = true, x1 ≠ 0], .a (.int .i64 (IntKind.wrap IntKind.i64 (Int.tdiv x0 x1)))) := by kernel_rfl
theorem rFloorA_p2 (x0 : Int) (x1 : Int) : evG Try.prog tabLb 2000 26 [.f, .f, .f, .t] [.a (.int .i64 x0), .a (.int .i64 x1)] = some ([(x1 == 0) = false, decide (x1 < 0) = false, decide (x0 ≥ 0) = false, x1 ≠ 0], .a (.int .i64 (IntKind.wrap IntKind.i64 (0 - IntKind.wrap IntKind.i64 (Int.tdiv (IntKind.wrap IntKind.i64 (IntKind.wrap IntKind.i64 (x1 - 1) - x0)) x1))))) := by kernel_rfl
def rFloorA_c : Con
  | [.a (.int .i64 x0), .a (.int .i64 x1)] => some ([decide (x1 < 0) = false], .a (.int .i64 (rFloorA x0 x1)))
  | _ => none
theorem rFloorA_ok : PureOK Try.prog 26 rFloorA_c := by
  intro args obs lv h ho φ vs w ha
  unfold rFloorA_c at h
  split at h
  · simp only [Option.some.injEq, Prod.mk.injEq] at h
    obtain ⟨rfl, rfl⟩ := h
    rename_i x0 x1
    rcases Bool.eq_false_or_eq_true (x1 == 0) with h0 | h0
    · skip
      have e := evG_wp tabLb_ok follows (rFloorA_p0 x0 x1) ⟨h0, trivial⟩ φ vs w ha
      simpa only [rFloorA, h0, cond_true] using e
    · skip
      rcases Bool.eq_false_or_eq_true (decide (x0 ≥ 0)) with h2 | h2
      · skip
        have e := evG_wp tabLb_ok follows (rFloorA_p1 x0 x1) ⟨h0, ho.1, h2, (by (try simp at *) <;> (try omega)), trivial⟩ φ vs w ha
        simpa only [rFloorA, h0, h2, cond_true, cond_false] using e
      · skip
        have e := evG_wp tabLb_ok follows (rFloorA_p2 x0 x1) ⟨h0, ho.1, h2, (by (try simp at *) <;> (try omega)), trivial⟩ φ vs w ha
        simpa only [rFloorA, h0, h2, cond_false] using e
  · cases h
theorem rFloorA_en : Enters Try.prog 26 := fun args => by kernel_rfl

/-! (azulejo/vec.Vec).Within -/
def vWithin_0 (x0_0 : Int) (x0_1 : Int) (x0_2 : Int) (x0_3 : Int) (x1 : Int) : Int := fWithin x0_0 x1
def vWithin_1 (x0_0 : Int) (x0_1 : Int) (x0_2 : Int) (x0_3 : Int) (x1 : Int) : Int := fWithin x0_1 x1
def vWithin_2 (x0_0 : Int) (x0_1 : Int) (x0_2 : Int) (x0_3 : Int) (x1 : Int) : Int := fWithin x0_2 x1
def vWithin_3 (x0_0 : Int) (x0_1 : Int) (x0_2 : Int) (x0_3 : Int) (x1 : Int) : Int := fWithin x0_3 x1
theorem vWithin_p0 (x0_0 : Int) (x0_1 : Int) (x0_2 : Int) (x0_3 : Int) (x1 : Int) : evG Try.prog tabLb 2000 74 [.k, .k, .k, .k, .k, .k, .k, .k, .k, .k, .k, .k, .k] [.g [.int .i64 x0_0, .int .i64 x0_1, .int .i64 x0_2, .int .i64 x0_3], .a (.int .i64 x1)] = some ([], .g [.int .i64 (fWithin x0_0 x1), .int .i64 (fWithin x0_1 x1), .int .i64 (fWithin x0_2 x1), .int .i64 (fWithin x0_3 x1)]) := by kernel_rfl
def vWithin_c : Con
  | [.g [.int .i64 x0_0, .int .i64 x0_1, .int .i64 x0_2, .int .i64 x0_3], .a (.int .i64 x1)] => some ([], .g [.int .i64 (vWithin_0 x0_0 x0_1 x0_2 x0_3 x1), .int .i64 (vWithin_1 x0_0 x0_1 x0_2 x0_3 x1), .int .i64 (vWithin_2 x0_0 x0_1 x0_2 x0_3 x1), .int .i64 (vWithin_3 x0_0 x0_1 x0_2 x0_3 x1)])
  | _ => none
theorem vWithin_ok : PureOK Try.prog 74 vWithin_c := by
  intro args obs lv h ho φ vs w ha
  unfold vWithin_c at h
  split at h
  · simp only [Option.some.injEq, Prod.mk.injEq] at h
    obtain ⟨rfl, rfl⟩ := h
    rename_i x0_0 x0_1 x0_2 x0_3 x1
    have e := evG_wp tabLb_ok follows (vWithin_p0 x0_0 x0_1 x0_2 x0_3 x1) trivial φ vs w ha
    simpa only [vWithin_0, vWithin_1, vWithin_2, vWithin_3] using e
  · cases h
theorem vWithin_en : Enters Try.prog 74 := fun args => by kernel_rfl

/-! (azulejo/vec.Vec).Min$1 -/
def vMin1 (x0 : Int) (x1 : Int) : Int := if fClamp x1 < fClamp x0 then fClamp x1 else fClamp x0
theorem vMin1_p0 (x0 : Int) (x1 : Int) : evG Try.prog tabLb 2000 83 [] [.a (.int .i64 x0), .a (.int .i64 x1)] = some ([], .a (.int .i64 (if fClamp x1 < fClamp x0 then fClamp x1 else fClamp x0))) := by kernel_rfl
def vMin1_c : Con
  | [.a (.int .i64 x0), .a (.int .i64 x1)] => some ([], .a (.int .i64 (vMin1 x0 x1)))
  | _ => none
theorem vMin1_ok : PureOK Try.prog 83 vMin1_c := by
  intro args obs lv h ho φ vs w ha
  unfold vMin1_c at h
  split at h
  · simp only [Option.some.injEq, Prod.mk.injEq] at h
    obtain ⟨rfl, rfl⟩ := h
    rename_i x0 x1
    have e := evG_wp tabLb_ok follows (vMin1_p0 x0 x1) trivial φ vs w ha
    simpa only [vMin1] using e
  · cases h
theorem vMin1_en : Enters Try.prog 83 := fun args => by kernel_rfl

/-! (azulejo/vec.Vec).Max$1 -/
def vMax1 (x0 : Int) (x1 : Int) : Int := if fClamp x1 > fClamp x0 then fClamp x1 else fClamp x0
theorem vMax1_p0 (x0 : Int) (x1 : Int) : evG Try.prog tabLb 2000 84 [] [.a (.int .i64 x0), .a (.int .i64 x1)] = some ([], .a (.int .i64 (if fClamp x1 > fClamp x0 then fClamp x1 else fClamp x0))) := by kernel_rfl
def vMax1_c : Con
  | [.a (.int .i64 x0), .a (.int .i64 x1)] => some ([], .a (.int .i64 (vMax1 x0 x1)))
  | _ => none
theorem vMax1_ok : PureOK Try.prog 84 vMax1_c := by
  intro args obs lv h ho φ vs w ha
  unfold vMax1_c at h
  split at h
  · simp only [Option.some.injEq, Prod.mk.injEq] at h
    obtain ⟨rfl, rfl⟩ := h
    rename_i x0 x1
    have e := evG_wp tabLb_ok follows (vMax1_p0 x0 x1) trivial φ vs w ha
    simpa only [vMax1] using e
  · cases h
theorem vMax1_en : Enters Try.prog 84 := fun args => by kernel_rfl

def tabLc : Tab := (32, fAdd_c) :: (33, fSub_c) :: (34, fMul_c) :: (30, fOf_c) :: (28, fWhole_c) :: (27, fDiv_c) :: (40, eSide_c) :: (44, eOwns_c) :: (53, bTiles2_c) :: (26, rFloorA_c) :: (74, vWithin_c) :: (83, vMin1_c) :: (84, vMax1_c) :: tabLb
theorem tabLc_ok : TOK Try.prog tabLc := TOK.cons fAdd_en fAdd_ok (TOK.cons fSub_en fSub_ok (TOK.cons fMul_en fMul_ok (TOK.cons fOf_en fOf_ok (TOK.cons fWhole_en fWhole_ok (TOK.cons fDiv_en fDiv_ok (TOK.cons eSide_en eSide_ok (TOK.cons eOwns_en eOwns_ok (TOK.cons bTiles2_en bTiles2_ok (TOK.cons rFloorA_en rFloorA_ok (TOK.cons vWithin_en vWithin_ok (TOK.cons vMin1_en vMin1_ok (TOK.cons vMax1_en vMax1_ok (tabLb_ok)))))))))))))

end Go.Proofs.Ythgjacfikicgnaa
