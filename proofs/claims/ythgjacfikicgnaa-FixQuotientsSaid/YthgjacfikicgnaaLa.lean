/-
  Contracts of functions of the program, each run on the local memory (printed by a program of this session's own: wip/tools).
-/
import Derived.Test.YthgjacfikicgnaaL
namespace Go.Proofs.Ythgjacfikicgnaa
open Go Go.RowKit Go.Proofs.Ythgjacfikicgnaa.K
set_option linter.unusedVariables false

/-! azulejo/fix.Within -/
def fWithin (x0 : Int) (x1 : Int) : Int := if IntKind.wrap IntKind.i64 (0 - x1) > if x1 < x0 then x1 else x0 then IntKind.wrap IntKind.i64 (0 - x1) else if x1 < x0 then x1 else x0
theorem fWithin_p0 (x0 : Int) (x1 : Int) : evG Try.prog tabL 2000 24 [] [.a (.int .i64 x0), .a (.int .i64 x1)] = some ([], .a (.int .i64 (if IntKind.wrap IntKind.i64 (0 - x1) > if x1 < x0 then x1 else x0 then IntKind.wrap IntKind.i64 (0 - x1) else if x1 < x0 then x1 else x0))) := by kernel_rfl
def fWithin_c : Con
  | [.a (.int .i64 x0), .a (.int .i64 x1)] => some ([], .a (.int .i64 (fWithin x0 x1)))
  | _ => none
theorem fWithin_ok : PureOK Try.prog 24 fWithin_c := by
  intro args obs lv h ho φ vs w ha
  unfold fWithin_c at h
  split at h
  · simp only [Option.some.injEq, Prod.mk.injEq] at h
    obtain ⟨rfl, rfl⟩ := h
    rename_i x0 x1
    have e := evG_wp tabL_ok follows (fWithin_p0 x0 x1) trivial φ vs w ha
    simpa only [fWithin] using e
  · cases h
theorem fWithin_en : Enters Try.prog 24 := fun args => by kernel_rfl

/-! azulejo/azulejoref01.Clamp -/
def rClamp (x0 : Int) : Int := (bif decide (x0 > 2147483647) then 2147483647 else (bif decide (x0 < -2147483647) then -2147483647 else x0))
theorem rClamp_p0 (x0 : Int) : evG Try.prog tabL 2000 25 [.t] [.a (.int .i64 x0)] = some ([decide (x0 > 2147483647) = true], .a (.int .i64 (2147483647))) := by kernel_rfl
theorem rClamp_p1 (x0 : Int) : evG Try.prog tabL 2000 25 [.f, .t] [.a (.int .i64 x0)] = some ([decide (x0 > 2147483647) = false, decide (x0 < -2147483647) = true], .a (.int .i64 (-2147483647))) := by kernel_rfl
theorem rClamp_p2 (x0 : Int) : evG Try.prog tabL 2000 25 [.f, .f] [.a (.int .i64 x0)] = some ([decide (x0 > 2147483647) = false, decide (x0 < -2147483647) = false], .a (.int .i64 (x0))) := by kernel_rfl
def rClamp_c : Con
  | [.a (.int .i64 x0)] => some ([], .a (.int .i64 (rClamp x0)))
  | _ => none
theorem rClamp_ok : PureOK Try.prog 25 rClamp_c := by
  intro args obs lv h ho φ vs w ha
  unfold rClamp_c at h
  split at h
  · simp only [Option.some.injEq, Prod.mk.injEq] at h
    obtain ⟨rfl, rfl⟩ := h
    rename_i x0
    rcases Bool.eq_false_or_eq_true (decide (x0 > 2147483647)) with h0 | h0
    · skip
      have e := evG_wp tabL_ok follows (rClamp_p0 x0) ⟨h0, trivial⟩ φ vs w ha
      simpa only [rClamp, h0, cond_true] using e
    · skip
      rcases Bool.eq_false_or_eq_true (decide (x0 < -2147483647)) with h1 | h1
      · skip
        have e := evG_wp tabL_ok follows (rClamp_p1 x0) ⟨h0, h1, trivial⟩ φ vs w ha
        simpa only [rClamp, h0, h1, cond_true, cond_false] using e
      · skip
        have e := evG_wp tabL_ok follows (rClamp_p2 x0) ⟨h0, h1, trivial⟩ φ vs w ha
        simpa only [rClamp, h0, h1, cond_false] using e
  · cases h
theorem rClamp_en : Enters Try.prog 25 := fun args => by kernel_rfl

/-! azulejo/azulejoref01.near -/
def rNear (x0 : Int) : Int := (bif decide (x0 > 16384) then 16384 else (bif decide (x0 < -16384) then -16384 else x0))
theorem rNear_p0 (x0 : Int) : evG Try.prog tabL 2000 77 [.t] [.a (.int .i64 x0)] = some ([decide (x0 > 16384) = true], .a (.int .i64 (16384))) := by kernel_rfl
theorem rNear_p1 (x0 : Int) : evG Try.prog tabL 2000 77 [.f, .t] [.a (.int .i64 x0)] = some ([decide (x0 > 16384) = false, decide (x0 < -16384) = true], .a (.int .i64 (-16384))) := by kernel_rfl
theorem rNear_p2 (x0 : Int) : evG Try.prog tabL 2000 77 [.f, .f] [.a (.int .i64 x0)] = some ([decide (x0 > 16384) = false, decide (x0 < -16384) = false], .a (.int .i64 (x0))) := by kernel_rfl
def rNear_c : Con
  | [.a (.int .i64 x0)] => some ([], .a (.int .i64 (rNear x0)))
  | _ => none
theorem rNear_ok : PureOK Try.prog 77 rNear_c := by
  intro args obs lv h ho φ vs w ha
  unfold rNear_c at h
  split at h
  · simp only [Option.some.injEq, Prod.mk.injEq] at h
    obtain ⟨rfl, rfl⟩ := h
    rename_i x0
    rcases Bool.eq_false_or_eq_true (decide (x0 > 16384)) with h0 | h0
    · skip
      have e := evG_wp tabL_ok follows (rNear_p0 x0) ⟨h0, trivial⟩ φ vs w ha
      simpa only [rNear, h0, cond_true] using e
    · skip
      rcases Bool.eq_false_or_eq_true (decide (x0 < -16384)) with h1 | h1
      · skip
        have e := evG_wp tabL_ok follows (rNear_p1 x0) ⟨h0, h1, trivial⟩ φ vs w ha
        simpa only [rNear, h0, h1, cond_true, cond_false] using e
      · skip
        have e := evG_wp tabL_ok follows (rNear_p2 x0) ⟨h0, h1, trivial⟩ φ vs w ha
        simpa only [rNear, h0, h1, cond_false] using e
  · cases h
theorem rNear_en : Enters Try.prog 77 := fun args => by kernel_rfl

/-! azulejo/bin.tiles -/
def bTiles (x0 : Int) : Int := IntKind.wrap IntKind.i64 (Int.tdiv (IntKind.wrap IntKind.i64 (IntKind.wrap IntKind.i64 ((if 64 < if 0 > x0 then 0 else x0 then 64 else if 0 > x0 then 0 else x0) + 8) - 1)) 8)
theorem bTiles_p0 (x0 : Int) : evG Try.prog tabL 2000 78 [.k] [.a (.int .i64 x0)] = some ([], .a (.int .i64 (IntKind.wrap IntKind.i64 (Int.tdiv (IntKind.wrap IntKind.i64 (IntKind.wrap IntKind.i64 ((if 64 < if 0 > x0 then 0 else x0 then 64 else if 0 > x0 then 0 else x0) + 8) - 1)) 8)))) := by kernel_rfl
def bTiles_c : Con
  | [.a (.int .i64 x0)] => some ([], .a (.int .i64 (bTiles x0)))
  | _ => none
theorem bTiles_ok : PureOK Try.prog 78 bTiles_c := by
  intro args obs lv h ho φ vs w ha
  unfold bTiles_c at h
  split at h
  · simp only [Option.some.injEq, Prod.mk.injEq] at h
    obtain ⟨rfl, rfl⟩ := h
    rename_i x0
    have e := evG_wp tabL_ok follows (bTiles_p0 x0) trivial φ vs w ha
    simpa only [bTiles] using e
  · cases h
theorem bTiles_en : Enters Try.prog 78 := fun args => by kernel_rfl

/-! azulejo/azulejolaw16.in -/
def bIn (x0_0 : Int) (x0_1 : Int) (x0_2 : Int) (x0_3 : Int) (x1 : Int) (x2 : Int) : Bool := (bif decide (x1 ≥ x0_0) then (bif decide (x1 < x0_2) then (bif decide (x2 ≥ x0_1) then (bif decide (x2 < x0_3) then true else false) else false) else false) else false)
theorem bIn_p0 (x0_0 : Int) (x0_1 : Int) (x0_2 : Int) (x0_3 : Int) (x1 : Int) (x2 : Int) : evG Try.prog tabL 2000 54 [.k, .t, .k, .t, .k, .k, .t, .k, .k, .t, .k, .k] [.g [.int .i64 x0_0, .int .i64 x0_1, .int .i64 x0_2, .int .i64 x0_3], .a (.int .i64 x1), .a (.int .i64 x2)] = some ([decide (x1 ≥ x0_0) = true, decide (x1 < x0_2) = true, decide (x2 ≥ x0_1) = true, decide (x2 < x0_3) = true], .a (.bool (true))) := by kernel_rfl
theorem bIn_p1 (x0_0 : Int) (x0_1 : Int) (x0_2 : Int) (x0_3 : Int) (x1 : Int) (x2 : Int) : evG Try.prog tabL 2000 54 [.k, .t, .k, .t, .k, .k, .t, .k, .k, .f, .k, .k] [.g [.int .i64 x0_0, .int .i64 x0_1, .int .i64 x0_2, .int .i64 x0_3], .a (.int .i64 x1), .a (.int .i64 x2)] = some ([decide (x1 ≥ x0_0) = true, decide (x1 < x0_2) = true, decide (x2 ≥ x0_1) = true, decide (x2 < x0_3) = false], .a (.bool (false))) := by kernel_rfl
theorem bIn_p2 (x0_0 : Int) (x0_1 : Int) (x0_2 : Int) (x0_3 : Int) (x1 : Int) (x2 : Int) : evG Try.prog tabL 2000 54 [.k, .t, .k, .t, .k, .k, .f, .k, .k, .k, .k] [.g [.int .i64 x0_0, .int .i64 x0_1, .int .i64 x0_2, .int .i64 x0_3], .a (.int .i64 x1), .a (.int .i64 x2)] = some ([decide (x1 ≥ x0_0) = true, decide (x1 < x0_2) = true, decide (x2 ≥ x0_1) = false], .a (.bool (false))) := by kernel_rfl
theorem bIn_p3 (x0_0 : Int) (x0_1 : Int) (x0_2 : Int) (x0_3 : Int) (x1 : Int) (x2 : Int) : evG Try.prog tabL 2000 54 [.k, .t, .k, .f, .k, .k, .k, .k, .k, .k] [.g [.int .i64 x0_0, .int .i64 x0_1, .int .i64 x0_2, .int .i64 x0_3], .a (.int .i64 x1), .a (.int .i64 x2)] = some ([decide (x1 ≥ x0_0) = true, decide (x1 < x0_2) = false], .a (.bool (false))) := by kernel_rfl
theorem bIn_p4 (x0_0 : Int) (x0_1 : Int) (x0_2 : Int) (x0_3 : Int) (x1 : Int) (x2 : Int) : evG Try.prog tabL 2000 54 [.k, .f, .k, .k, .k, .k, .k, .k, .k] [.g [.int .i64 x0_0, .int .i64 x0_1, .int .i64 x0_2, .int .i64 x0_3], .a (.int .i64 x1), .a (.int .i64 x2)] = some ([decide (x1 ≥ x0_0) = false], .a (.bool (false))) := by kernel_rfl
def bIn_c : Con
  | [.g [.int .i64 x0_0, .int .i64 x0_1, .int .i64 x0_2, .int .i64 x0_3], .a (.int .i64 x1), .a (.int .i64 x2)] => some ([], .a (.bool (bIn x0_0 x0_1 x0_2 x0_3 x1 x2)))
  | _ => none
theorem bIn_ok : PureOK Try.prog 54 bIn_c := by
  intro args obs lv h ho φ vs w ha
  unfold bIn_c at h
  split at h
  · simp only [Option.some.injEq, Prod.mk.injEq] at h
    obtain ⟨rfl, rfl⟩ := h
    rename_i x0_0 x0_1 x0_2 x0_3 x1 x2
    rcases Bool.eq_false_or_eq_true (decide (x1 ≥ x0_0)) with h0 | h0
    · skip
      rcases Bool.eq_false_or_eq_true (decide (x1 < x0_2)) with h1 | h1
      · skip
        rcases Bool.eq_false_or_eq_true (decide (x2 ≥ x0_1)) with h2 | h2
        · skip
          rcases Bool.eq_false_or_eq_true (decide (x2 < x0_3)) with h3 | h3
          · skip
            have e := evG_wp tabL_ok follows (bIn_p0 x0_0 x0_1 x0_2 x0_3 x1 x2) ⟨h0, h1, h2, h3, trivial⟩ φ vs w ha
            simpa only [bIn, h0, h1, h2, h3, cond_true] using e
          · skip
            have e := evG_wp tabL_ok follows (bIn_p1 x0_0 x0_1 x0_2 x0_3 x1 x2) ⟨h0, h1, h2, h3, trivial⟩ φ vs w ha
            simpa only [bIn, h0, h1, h2, h3, cond_true, cond_false] using e
        · skip
          have e := evG_wp tabL_ok follows (bIn_p2 x0_0 x0_1 x0_2 x0_3 x1 x2) ⟨h0, h1, h2, trivial⟩ φ vs w ha
          simpa only [bIn, h0, h1, h2, cond_true, cond_false] using e
      · skip
        have e := evG_wp tabL_ok follows (bIn_p3 x0_0 x0_1 x0_2 x0_3 x1 x2) ⟨h0, h1, trivial⟩ φ vs w ha
        simpa only [bIn, h0, h1, cond_true, cond_false] using e
    · skip
      have e := evG_wp tabL_ok follows (bIn_p4 x0_0 x0_1 x0_2 x0_3 x1 x2) ⟨h0, trivial⟩ φ vs w ha
      simpa only [bIn, h0, cond_false] using e
  · cases h
theorem bIn_en : Enters Try.prog 54 := fun args => by kernel_rfl

/-! azulejo/fix.Floor -/
def fFloor (x0 : Int) (x1 : Int) : Int := (bif x1 == 0 then 0 else (bif Int.tmod x0 x1 != 0 then (bif decide (x0 < 0) then (bif decide (x1 < 0) then IntKind.wrap IntKind.i64 (Int.tdiv x0 x1) else IntKind.wrap IntKind.i64 (IntKind.wrap IntKind.i64 (Int.tdiv x0 x1) - 1)) else (bif decide (x1 < 0) then IntKind.wrap IntKind.i64 (IntKind.wrap IntKind.i64 (Int.tdiv x0 x1) - 1) else IntKind.wrap IntKind.i64 (Int.tdiv x0 x1))) else IntKind.wrap IntKind.i64 (Int.tdiv x0 x1)))
theorem fFloor_p0 (x0 : Int) (x1 : Int) : evG Try.prog tabL 2000 29 [.t] [.a (.int .i64 x0), .a (.int .i64 x1)] = some ([(x1 == 0) = true], .a (.int .i64 (0))) := by kernel_rfl
theorem fFloor_p1 (x0 : Int) (x1 : Int) : evG Try.prog tabL 2000 29 [.f, .t, .t, .t, .k, .t, .t, .k, .k] [.a (.int .i64 x0), .a (.int .i64 x1)] = some ([(x1 == 0) = false, x1 ≠ 0, x1 ≠ 0, (Int.tmod x0 x1 != 0) = true, decide (x0 < 0) = true, decide (x1 < 0) = true], .a (.int .i64 (IntKind.wrap IntKind.i64 (Int.tdiv x0 x1)))) := by kernel_rfl
theorem fFloor_p2 (x0 : Int) (x1 : Int) : evG Try.prog tabL 2000 29 [.f, .t, .t, .t, .k, .t, .f, .k, .k] [.a (.int .i64 x0), .a (.int .i64 x1)] = some ([(x1 == 0) = false, x1 ≠ 0, x1 ≠ 0, (Int.tmod x0 x1 != 0) = true, decide (x0 < 0) = true, decide (x1 < 0) = false], .a (.int .i64 (IntKind.wrap IntKind.i64 (IntKind.wrap IntKind.i64 (Int.tdiv x0 x1) - 1)))) := by kernel_rfl
theorem fFloor_p3 (x0 : Int) (x1 : Int) : evG Try.prog tabL 2000 29 [.f, .t, .t, .t, .k, .f, .t, .k, .k] [.a (.int .i64 x0), .a (.int .i64 x1)] = some ([(x1 == 0) = false, x1 ≠ 0, x1 ≠ 0, (Int.tmod x0 x1 != 0) = true, decide (x0 < 0) = false, decide (x1 < 0) = true], .a (.int .i64 (IntKind.wrap IntKind.i64 (IntKind.wrap IntKind.i64 (Int.tdiv x0 x1) - 1)))) := by kernel_rfl
theorem fFloor_p4 (x0 : Int) (x1 : Int) : evG Try.prog tabL 2000 29 [.f, .t, .t, .t, .k, .f, .f, .k, .k] [.a (.int .i64 x0), .a (.int .i64 x1)] = some ([(x1 == 0) = false, x1 ≠ 0, x1 ≠ 0, (Int.tmod x0 x1 != 0) = true, decide (x0 < 0) = false, decide (x1 < 0) = false], .a (.int .i64 (IntKind.wrap IntKind.i64 (Int.tdiv x0 x1)))) := by kernel_rfl
theorem fFloor_p5 (x0 : Int) (x1 : Int) : evG Try.prog tabL 2000 29 [.f, .t, .t, .f, .k, .k] [.a (.int .i64 x0), .a (.int .i64 x1)] = some ([(x1 == 0) = false, x1 ≠ 0, x1 ≠ 0, (Int.tmod x0 x1 != 0) = false], .a (.int .i64 (IntKind.wrap IntKind.i64 (Int.tdiv x0 x1)))) := by kernel_rfl
def fFloor_c : Con
  | [.a (.int .i64 x0), .a (.int .i64 x1)] => some ([], .a (.int .i64 (fFloor x0 x1)))
  | _ => none
theorem fFloor_ok : PureOK Try.prog 29 fFloor_c := by
  intro args obs lv h ho φ vs w ha
  unfold fFloor_c at h
  split at h
  · simp only [Option.some.injEq, Prod.mk.injEq] at h
    obtain ⟨rfl, rfl⟩ := h
    rename_i x0 x1
    rcases Bool.eq_false_or_eq_true (x1 == 0) with h0 | h0
    · skip
      have e := evG_wp tabL_ok follows (fFloor_p0 x0 x1) ⟨h0, trivial⟩ φ vs w ha
      simpa only [fFloor, h0, cond_true] using e
    · skip
      rcases Bool.eq_false_or_eq_true (Int.tmod x0 x1 != 0) with h3 | h3
      · skip
        rcases Bool.eq_false_or_eq_true (decide (x0 < 0)) with h4 | h4
        · skip
          rcases Bool.eq_false_or_eq_true (decide (x1 < 0)) with h5 | h5
          · skip
            have e := evG_wp tabL_ok follows (fFloor_p1 x0 x1) ⟨h0, (by (try simp at *) <;> (try omega)), (by (try simp at *) <;> (try omega)), h3, h4, h5, trivial⟩ φ vs w ha
            simpa only [fFloor, h0, h3, h4, h5, cond_true, cond_false] using e
          · skip
            have e := evG_wp tabL_ok follows (fFloor_p2 x0 x1) ⟨h0, (by (try simp at *) <;> (try omega)), (by (try simp at *) <;> (try omega)), h3, h4, h5, trivial⟩ φ vs w ha
            simpa only [fFloor, h0, h3, h4, h5, cond_true, cond_false] using e
        · skip
          rcases Bool.eq_false_or_eq_true (decide (x1 < 0)) with h5 | h5
          · skip
            have e := evG_wp tabL_ok follows (fFloor_p3 x0 x1) ⟨h0, (by (try simp at *) <;> (try omega)), (by (try simp at *) <;> (try omega)), h3, h4, h5, trivial⟩ φ vs w ha
            simpa only [fFloor, h0, h3, h4, h5, cond_true, cond_false] using e
          · skip
            have e := evG_wp tabL_ok follows (fFloor_p4 x0 x1) ⟨h0, (by (try simp at *) <;> (try omega)), (by (try simp at *) <;> (try omega)), h3, h4, h5, trivial⟩ φ vs w ha
            simpa only [fFloor, h0, h3, h4, h5, cond_true, cond_false] using e
      · skip
        have e := evG_wp tabL_ok follows (fFloor_p5 x0 x1) ⟨h0, (by (try simp at *) <;> (try omega)), (by (try simp at *) <;> (try omega)), h3, trivial⟩ φ vs w ha
        simpa only [fFloor, h0, h3, cond_false] using e
  · cases h
theorem fFloor_en : Enters Try.prog 29 := fun args => by kernel_rfl

/-! (azulejo/state.Func).Holds -/
def sHolds (x0 : Int) (x1 : Int) (x2 : Int) : Bool := (bif decide (x1 < x2) then (bif IntKind.wrap IntKind.u8 ↑(BitVec.toNat (BitVec.ofInt (IntKind.bits IntKind.u8) x0 &&& BitVec.ofInt (IntKind.bits IntKind.u8) 1)) != 0 then true else false) else (bif x1 == x2 then (bif IntKind.wrap IntKind.u8 ↑(BitVec.toNat (BitVec.ofInt (IntKind.bits IntKind.u8) x0 &&& BitVec.ofInt (IntKind.bits IntKind.u8) 2)) != 0 then true else false) else (bif IntKind.wrap IntKind.u8 ↑(BitVec.toNat (BitVec.ofInt (IntKind.bits IntKind.u8) x0 &&& BitVec.ofInt (IntKind.bits IntKind.u8) 4)) != 0 then true else false)))
theorem sHolds_p0 (x0 : Int) (x1 : Int) (x2 : Int) : evG Try.prog tabL 2000 59 [.k, .t, .k, .t, .k] [.a (.int .u8 x0), .a (.int .i64 x1), .a (.int .i64 x2)] = some ([decide (x1 < x2) = true, (IntKind.wrap IntKind.u8 ↑(BitVec.toNat (BitVec.ofInt (IntKind.bits IntKind.u8) x0 &&& BitVec.ofInt (IntKind.bits IntKind.u8) 1)) != 0) = true], .a (.bool (true))) := by kernel_rfl
theorem sHolds_p1 (x0 : Int) (x1 : Int) (x2 : Int) : evG Try.prog tabL 2000 59 [.k, .t, .k, .f, .k] [.a (.int .u8 x0), .a (.int .i64 x1), .a (.int .i64 x2)] = some ([decide (x1 < x2) = true, (IntKind.wrap IntKind.u8 ↑(BitVec.toNat (BitVec.ofInt (IntKind.bits IntKind.u8) x0 &&& BitVec.ofInt (IntKind.bits IntKind.u8) 1)) != 0) = false], .a (.bool (false))) := by kernel_rfl
theorem sHolds_p2 (x0 : Int) (x1 : Int) (x2 : Int) : evG Try.prog tabL 2000 59 [.k, .f, .k, .t, .k, .t, .k] [.a (.int .u8 x0), .a (.int .i64 x1), .a (.int .i64 x2)] = some ([decide (x1 < x2) = false, (x1 == x2) = true, (IntKind.wrap IntKind.u8 ↑(BitVec.toNat (BitVec.ofInt (IntKind.bits IntKind.u8) x0 &&& BitVec.ofInt (IntKind.bits IntKind.u8) 2)) != 0) = true], .a (.bool (true))) := by kernel_rfl
theorem sHolds_p3 (x0 : Int) (x1 : Int) (x2 : Int) : evG Try.prog tabL 2000 59 [.k, .f, .k, .t, .k, .f, .k] [.a (.int .u8 x0), .a (.int .i64 x1), .a (.int .i64 x2)] = some ([decide (x1 < x2) = false, (x1 == x2) = true, (IntKind.wrap IntKind.u8 ↑(BitVec.toNat (BitVec.ofInt (IntKind.bits IntKind.u8) x0 &&& BitVec.ofInt (IntKind.bits IntKind.u8) 2)) != 0) = false], .a (.bool (false))) := by kernel_rfl
theorem sHolds_p4 (x0 : Int) (x1 : Int) (x2 : Int) : evG Try.prog tabL 2000 59 [.k, .f, .k, .f, .k, .t, .k] [.a (.int .u8 x0), .a (.int .i64 x1), .a (.int .i64 x2)] = some ([decide (x1 < x2) = false, (x1 == x2) = false, (IntKind.wrap IntKind.u8 ↑(BitVec.toNat (BitVec.ofInt (IntKind.bits IntKind.u8) x0 &&& BitVec.ofInt (IntKind.bits IntKind.u8) 4)) != 0) = true], .a (.bool (true))) := by kernel_rfl
theorem sHolds_p5 (x0 : Int) (x1 : Int) (x2 : Int) : evG Try.prog tabL 2000 59 [.k, .f, .k, .f, .k, .f, .k] [.a (.int .u8 x0), .a (.int .i64 x1), .a (.int .i64 x2)] = some ([decide (x1 < x2) = false, (x1 == x2) = false, (IntKind.wrap IntKind.u8 ↑(BitVec.toNat (BitVec.ofInt (IntKind.bits IntKind.u8) x0 &&& BitVec.ofInt (IntKind.bits IntKind.u8) 4)) != 0) = false], .a (.bool (false))) := by kernel_rfl
def sHolds_c : Con
  | [.a (.int .u8 x0), .a (.int .i64 x1), .a (.int .i64 x2)] => some ([], .a (.bool (sHolds x0 x1 x2)))
  | _ => none
theorem sHolds_ok : PureOK Try.prog 59 sHolds_c := by
  intro args obs lv h ho φ vs w ha
  unfold sHolds_c at h
  split at h
  · simp only [Option.some.injEq, Prod.mk.injEq] at h
    obtain ⟨rfl, rfl⟩ := h
    rename_i x0 x1 x2
    rcases Bool.eq_false_or_eq_true (decide (x1 < x2)) with h0 | h0
    · skip
      rcases Bool.eq_false_or_eq_true (IntKind.wrap IntKind.u8 ↑(BitVec.toNat (BitVec.ofInt (IntKind.bits IntKind.u8) x0 &&& BitVec.ofInt (IntKind.bits IntKind.u8) 1)) != 0) with h1 | h1
      · skip
        have e := evG_wp tabL_ok follows (sHolds_p0 x0 x1 x2) ⟨h0, h1, trivial⟩ φ vs w ha
        simpa only [sHolds, h0, h1, cond_true] using e
      · skip
        have e := evG_wp tabL_ok follows (sHolds_p1 x0 x1 x2) ⟨h0, h1, trivial⟩ φ vs w ha
        simpa only [sHolds, h0, h1, cond_true, cond_false] using e
    · skip
      rcases Bool.eq_false_or_eq_true (x1 == x2) with h1 | h1
      · skip
        rcases Bool.eq_false_or_eq_true (IntKind.wrap IntKind.u8 ↑(BitVec.toNat (BitVec.ofInt (IntKind.bits IntKind.u8) x0 &&& BitVec.ofInt (IntKind.bits IntKind.u8) 2)) != 0) with h2 | h2
        · skip
          have e := evG_wp tabL_ok follows (sHolds_p2 x0 x1 x2) ⟨h0, h1, h2, trivial⟩ φ vs w ha
          simpa only [sHolds, h0, h1, h2, cond_true, cond_false] using e
        · skip
          have e := evG_wp tabL_ok follows (sHolds_p3 x0 x1 x2) ⟨h0, h1, h2, trivial⟩ φ vs w ha
          simpa only [sHolds, h0, h1, h2, cond_true, cond_false] using e
      · skip
        rcases Bool.eq_false_or_eq_true (IntKind.wrap IntKind.u8 ↑(BitVec.toNat (BitVec.ofInt (IntKind.bits IntKind.u8) x0 &&& BitVec.ofInt (IntKind.bits IntKind.u8) 4)) != 0) with h2 | h2
        · skip
          have e := evG_wp tabL_ok follows (sHolds_p4 x0 x1 x2) ⟨h0, h1, h2, trivial⟩ φ vs w ha
          simpa only [sHolds, h0, h1, h2, cond_true, cond_false] using e
        · skip
          have e := evG_wp tabL_ok follows (sHolds_p5 x0 x1 x2) ⟨h0, h1, h2, trivial⟩ φ vs w ha
          simpa only [sHolds, h0, h1, h2, cond_false] using e
  · cases h
theorem sHolds_en : Enters Try.prog 59 := fun args => by kernel_rfl

/-! azulejo/azulejoref09.Holds -/
def rHolds (x0 : Int) (x1 : Int) (x2 : Int) : Bool := (bif decide (x1 < x2) then (bif Int.tmod x0 2 == 1 then true else false) else (bif x1 == x2 then (bif Int.tmod (IntKind.wrap IntKind.i64 (Int.tdiv x0 2)) 2 == 1 then true else false) else (bif Int.tmod (IntKind.wrap IntKind.i64 (Int.tdiv x0 4)) 2 == 1 then true else false)))
theorem rHolds_p0 (x0 : Int) (x1 : Int) (x2 : Int) : evG Try.prog tabL 2000 60 [.k, .t, .k, .t, .k] [.a (.int .i64 x0), .a (.int .i64 x1), .a (.int .i64 x2)] = some ([decide (x1 < x2) = true, (Int.tmod x0 2 == 1) = true], .a (.bool (true))) := by kernel_rfl
theorem rHolds_p1 (x0 : Int) (x1 : Int) (x2 : Int) : evG Try.prog tabL 2000 60 [.k, .t, .k, .f, .k] [.a (.int .i64 x0), .a (.int .i64 x1), .a (.int .i64 x2)] = some ([decide (x1 < x2) = true, (Int.tmod x0 2 == 1) = false], .a (.bool (false))) := by kernel_rfl
theorem rHolds_p2 (x0 : Int) (x1 : Int) (x2 : Int) : evG Try.prog tabL 2000 60 [.k, .f, .t, .k, .k, .t, .k] [.a (.int .i64 x0), .a (.int .i64 x1), .a (.int .i64 x2)] = some ([decide (x1 < x2) = false, (x1 == x2) = true, (Int.tmod (IntKind.wrap IntKind.i64 (Int.tdiv x0 2)) 2 == 1) = true], .a (.bool (true))) := by kernel_rfl
theorem rHolds_p3 (x0 : Int) (x1 : Int) (x2 : Int) : evG Try.prog tabL 2000 60 [.k, .f, .t, .k, .k, .f, .k] [.a (.int .i64 x0), .a (.int .i64 x1), .a (.int .i64 x2)] = some ([decide (x1 < x2) = false, (x1 == x2) = true, (Int.tmod (IntKind.wrap IntKind.i64 (Int.tdiv x0 2)) 2 == 1) = false], .a (.bool (false))) := by kernel_rfl
theorem rHolds_p4 (x0 : Int) (x1 : Int) (x2 : Int) : evG Try.prog tabL 2000 60 [.k, .f, .f, .k, .k, .t, .k] [.a (.int .i64 x0), .a (.int .i64 x1), .a (.int .i64 x2)] = some ([decide (x1 < x2) = false, (x1 == x2) = false, (Int.tmod (IntKind.wrap IntKind.i64 (Int.tdiv x0 4)) 2 == 1) = true], .a (.bool (true))) := by kernel_rfl
theorem rHolds_p5 (x0 : Int) (x1 : Int) (x2 : Int) : evG Try.prog tabL 2000 60 [.k, .f, .f, .k, .k, .f, .k] [.a (.int .i64 x0), .a (.int .i64 x1), .a (.int .i64 x2)] = some ([decide (x1 < x2) = false, (x1 == x2) = false, (Int.tmod (IntKind.wrap IntKind.i64 (Int.tdiv x0 4)) 2 == 1) = false], .a (.bool (false))) := by kernel_rfl
def rHolds_c : Con
  | [.a (.int .i64 x0), .a (.int .i64 x1), .a (.int .i64 x2)] => some ([], .a (.bool (rHolds x0 x1 x2)))
  | _ => none
theorem rHolds_ok : PureOK Try.prog 60 rHolds_c := by
  intro args obs lv h ho φ vs w ha
  unfold rHolds_c at h
  split at h
  · simp only [Option.some.injEq, Prod.mk.injEq] at h
    obtain ⟨rfl, rfl⟩ := h
    rename_i x0 x1 x2
    rcases Bool.eq_false_or_eq_true (decide (x1 < x2)) with h0 | h0
    · skip
      rcases Bool.eq_false_or_eq_true (Int.tmod x0 2 == 1) with h1 | h1
      · skip
        have e := evG_wp tabL_ok follows (rHolds_p0 x0 x1 x2) ⟨h0, h1, trivial⟩ φ vs w ha
        simpa only [rHolds, h0, h1, cond_true] using e
      · skip
        have e := evG_wp tabL_ok follows (rHolds_p1 x0 x1 x2) ⟨h0, h1, trivial⟩ φ vs w ha
        simpa only [rHolds, h0, h1, cond_true, cond_false] using e
    · skip
      rcases Bool.eq_false_or_eq_true (x1 == x2) with h1 | h1
      · skip
        rcases Bool.eq_false_or_eq_true (Int.tmod (IntKind.wrap IntKind.i64 (Int.tdiv x0 2)) 2 == 1) with h2 | h2
        · skip
          have e := evG_wp tabL_ok follows (rHolds_p2 x0 x1 x2) ⟨h0, h1, h2, trivial⟩ φ vs w ha
          simpa only [rHolds, h0, h1, h2, cond_true, cond_false] using e
        · skip
          have e := evG_wp tabL_ok follows (rHolds_p3 x0 x1 x2) ⟨h0, h1, h2, trivial⟩ φ vs w ha
          simpa only [rHolds, h0, h1, h2, cond_true, cond_false] using e
      · skip
        rcases Bool.eq_false_or_eq_true (Int.tmod (IntKind.wrap IntKind.i64 (Int.tdiv x0 4)) 2 == 1) with h2 | h2
        · skip
          have e := evG_wp tabL_ok follows (rHolds_p4 x0 x1 x2) ⟨h0, h1, h2, trivial⟩ φ vs w ha
          simpa only [rHolds, h0, h1, h2, cond_true, cond_false] using e
        · skip
          have e := evG_wp tabL_ok follows (rHolds_p5 x0 x1 x2) ⟨h0, h1, h2, trivial⟩ φ vs w ha
          simpa only [rHolds, h0, h1, h2, cond_false] using e
  · cases h
theorem rHolds_en : Enters Try.prog 60 := fun args => by kernel_rfl

/-! (azulejo/state.Op).Do -/
def sDo (x0 : Int) (x1 : Int) (x2 : Int) : Int := (bif x0 == 1 then 0 else (bif x0 == 2 then x2 else (bif x0 == 3 then IntKind.wrap IntKind.u8 (x1 + if IntKind.wrap IntKind.u8 (255 - x1) < 1 then IntKind.wrap IntKind.u8 (255 - x1) else 1) else (bif x0 == 4 then IntKind.wrap IntKind.u8 (x1 - if x1 < 1 then x1 else 1) else (bif x0 == 5 then IntKind.wrap IntKind.u8 ↑(BitVec.toNat (BitVec.ofInt (IntKind.bits IntKind.u8) (if IntKind.signed IntKind.u8 = true then -1 else IntKind.max IntKind.u8) ^^^ BitVec.ofInt (IntKind.bits IntKind.u8) x1)) else x1)))))
theorem sDo_p0 (x0 : Int) (x1 : Int) (x2 : Int) : evG Try.prog tabL 2000 61 [.t, .k] [.a (.int .u8 x0), .a (.int .u8 x1), .a (.int .u8 x2)] = some ([(x0 == 1) = true], .a (.int .u8 (0))) := by kernel_rfl
theorem sDo_p1 (x0 : Int) (x1 : Int) (x2 : Int) : evG Try.prog tabL 2000 61 [.f, .k, .t, .k] [.a (.int .u8 x0), .a (.int .u8 x1), .a (.int .u8 x2)] = some ([(x0 == 1) = false, (x0 == 2) = true], .a (.int .u8 (x2))) := by kernel_rfl
theorem sDo_p2 (x0 : Int) (x1 : Int) (x2 : Int) : evG Try.prog tabL 2000 61 [.f, .k, .f, .k, .t, .k] [.a (.int .u8 x0), .a (.int .u8 x1), .a (.int .u8 x2)] = some ([(x0 == 1) = false, (x0 == 2) = false, (x0 == 3) = true], .a (.int .u8 (IntKind.wrap IntKind.u8 (x1 + if IntKind.wrap IntKind.u8 (255 - x1) < 1 then IntKind.wrap IntKind.u8 (255 - x1) else 1)))) := by kernel_rfl
theorem sDo_p3 (x0 : Int) (x1 : Int) (x2 : Int) : evG Try.prog tabL 2000 61 [.f, .k, .f, .k, .f, .k, .t, .k] [.a (.int .u8 x0), .a (.int .u8 x1), .a (.int .u8 x2)] = some ([(x0 == 1) = false, (x0 == 2) = false, (x0 == 3) = false, (x0 == 4) = true], .a (.int .u8 (IntKind.wrap IntKind.u8 (x1 - if x1 < 1 then x1 else 1)))) := by kernel_rfl
theorem sDo_p4 (x0 : Int) (x1 : Int) (x2 : Int) : evG Try.prog tabL 2000 61 [.f, .k, .f, .k, .f, .k, .f, .k, .t, .k] [.a (.int .u8 x0), .a (.int .u8 x1), .a (.int .u8 x2)] = some ([(x0 == 1) = false, (x0 == 2) = false, (x0 == 3) = false, (x0 == 4) = false, (x0 == 5) = true], .a (.int .u8 (IntKind.wrap IntKind.u8 ↑(BitVec.toNat (BitVec.ofInt (IntKind.bits IntKind.u8) (if IntKind.signed IntKind.u8 = true then -1 else IntKind.max IntKind.u8) ^^^ BitVec.ofInt (IntKind.bits IntKind.u8) x1))))) := by kernel_rfl
theorem sDo_p5 (x0 : Int) (x1 : Int) (x2 : Int) : evG Try.prog tabL 2000 61 [.f, .k, .f, .k, .f, .k, .f, .k, .f, .k] [.a (.int .u8 x0), .a (.int .u8 x1), .a (.int .u8 x2)] = some ([(x0 == 1) = false, (x0 == 2) = false, (x0 == 3) = false, (x0 == 4) = false, (x0 == 5) = false], .a (.int .u8 (x1))) := by kernel_rfl
def sDo_c : Con
  | [.a (.int .u8 x0), .a (.int .u8 x1), .a (.int .u8 x2)] => some ([], .a (.int .u8 (sDo x0 x1 x2)))
  | _ => none
theorem sDo_ok : PureOK Try.prog 61 sDo_c := by
  intro args obs lv h ho φ vs w ha
  unfold sDo_c at h
  split at h
  · simp only [Option.some.injEq, Prod.mk.injEq] at h
    obtain ⟨rfl, rfl⟩ := h
    rename_i x0 x1 x2
    rcases Bool.eq_false_or_eq_true (x0 == 1) with h0 | h0
    · skip
      have e := evG_wp tabL_ok follows (sDo_p0 x0 x1 x2) ⟨h0, trivial⟩ φ vs w ha
      simpa only [sDo, h0, cond_true] using e
    · skip
      rcases Bool.eq_false_or_eq_true (x0 == 2) with h1 | h1
      · skip
        have e := evG_wp tabL_ok follows (sDo_p1 x0 x1 x2) ⟨h0, h1, trivial⟩ φ vs w ha
        simpa only [sDo, h0, h1, cond_true, cond_false] using e
      · skip
        rcases Bool.eq_false_or_eq_true (x0 == 3) with h2 | h2
        · skip
          have e := evG_wp tabL_ok follows (sDo_p2 x0 x1 x2) ⟨h0, h1, h2, trivial⟩ φ vs w ha
          simpa only [sDo, h0, h1, h2, cond_true, cond_false] using e
        · skip
          rcases Bool.eq_false_or_eq_true (x0 == 4) with h3 | h3
          · skip
            have e := evG_wp tabL_ok follows (sDo_p3 x0 x1 x2) ⟨h0, h1, h2, h3, trivial⟩ φ vs w ha
            simpa only [sDo, h0, h1, h2, h3, cond_true, cond_false] using e
          · skip
            rcases Bool.eq_false_or_eq_true (x0 == 5) with h4 | h4
            · skip
              have e := evG_wp tabL_ok follows (sDo_p4 x0 x1 x2) ⟨h0, h1, h2, h3, h4, trivial⟩ φ vs w ha
              simpa only [sDo, h0, h1, h2, h3, h4, cond_true, cond_false] using e
            · skip
              have e := evG_wp tabL_ok follows (sDo_p5 x0 x1 x2) ⟨h0, h1, h2, h3, h4, trivial⟩ φ vs w ha
              simpa only [sDo, h0, h1, h2, h3, h4, cond_false] using e
  · cases h
theorem sDo_en : Enters Try.prog 61 := fun args => by kernel_rfl

/-! azulejo/azulejoref09.Do -/
def rDo (x0 : Int) (x1 : Int) (x2 : Int) : Int := (bif x0 == 1 then 0 else (bif x0 == 2 then x2 else (bif x0 == 3 then (bif decide (x1 < 255) then IntKind.wrap IntKind.i64 (x1 + 1) else (bif x0 == 4 then (bif decide (x1 > 0) then IntKind.wrap IntKind.i64 (x1 - 1) else (bif x0 == 5 then IntKind.wrap IntKind.i64 (255 - x1) else x1)) else (bif x0 == 5 then IntKind.wrap IntKind.i64 (255 - x1) else x1))) else (bif x0 == 4 then (bif decide (x1 > 0) then IntKind.wrap IntKind.i64 (x1 - 1) else (bif x0 == 5 then IntKind.wrap IntKind.i64 (255 - x1) else x1)) else (bif x0 == 5 then IntKind.wrap IntKind.i64 (255 - x1) else x1)))))
theorem rDo_p0 (x0 : Int) (x1 : Int) (x2 : Int) : evG Try.prog tabL 2000 62 [.t] [.a (.int .i64 x0), .a (.int .i64 x1), .a (.int .i64 x2)] = some ([(x0 == 1) = true], .a (.int .i64 (0))) := by kernel_rfl
theorem rDo_p1 (x0 : Int) (x1 : Int) (x2 : Int) : evG Try.prog tabL 2000 62 [.f, .t] [.a (.int .i64 x0), .a (.int .i64 x1), .a (.int .i64 x2)] = some ([(x0 == 1) = false, (x0 == 2) = true], .a (.int .i64 (x2))) := by kernel_rfl
theorem rDo_p2 (x0 : Int) (x1 : Int) (x2 : Int) : evG Try.prog tabL 2000 62 [.f, .f, .t, .k, .t, .k] [.a (.int .i64 x0), .a (.int .i64 x1), .a (.int .i64 x2)] = some ([(x0 == 1) = false, (x0 == 2) = false, (x0 == 3) = true, decide (x1 < 255) = true], .a (.int .i64 (IntKind.wrap IntKind.i64 (x1 + 1)))) := by kernel_rfl
theorem rDo_p3 (x0 : Int) (x1 : Int) (x2 : Int) : evG Try.prog tabL 2000 62 [.f, .f, .t, .k, .f, .k, .t, .k, .t, .k] [.a (.int .i64 x0), .a (.int .i64 x1), .a (.int .i64 x2)] = some ([(x0 == 1) = false, (x0 == 2) = false, (x0 == 3) = true, decide (x1 < 255) = false, (x0 == 4) = true, decide (x1 > 0) = true], .a (.int .i64 (IntKind.wrap IntKind.i64 (x1 - 1)))) := by kernel_rfl
theorem rDo_p4 (x0 : Int) (x1 : Int) (x2 : Int) : evG Try.prog tabL 2000 62 [.f, .f, .t, .k, .f, .k, .t, .k, .f, .k, .t] [.a (.int .i64 x0), .a (.int .i64 x1), .a (.int .i64 x2)] = some ([(x0 == 1) = false, (x0 == 2) = false, (x0 == 3) = true, decide (x1 < 255) = false, (x0 == 4) = true, decide (x1 > 0) = false, (x0 == 5) = true], .a (.int .i64 (IntKind.wrap IntKind.i64 (255 - x1)))) := by kernel_rfl
theorem rDo_p5 (x0 : Int) (x1 : Int) (x2 : Int) : evG Try.prog tabL 2000 62 [.f, .f, .t, .k, .f, .k, .t, .k, .f, .k, .f] [.a (.int .i64 x0), .a (.int .i64 x1), .a (.int .i64 x2)] = some ([(x0 == 1) = false, (x0 == 2) = false, (x0 == 3) = true, decide (x1 < 255) = false, (x0 == 4) = true, decide (x1 > 0) = false, (x0 == 5) = false], .a (.int .i64 (x1))) := by kernel_rfl
theorem rDo_p6 (x0 : Int) (x1 : Int) (x2 : Int) : evG Try.prog tabL 2000 62 [.f, .f, .t, .k, .f, .k, .f, .k, .k, .t] [.a (.int .i64 x0), .a (.int .i64 x1), .a (.int .i64 x2)] = some ([(x0 == 1) = false, (x0 == 2) = false, (x0 == 3) = true, decide (x1 < 255) = false, (x0 == 4) = false, (x0 == 5) = true], .a (.int .i64 (IntKind.wrap IntKind.i64 (255 - x1)))) := by kernel_rfl
theorem rDo_p7 (x0 : Int) (x1 : Int) (x2 : Int) : evG Try.prog tabL 2000 62 [.f, .f, .t, .k, .f, .k, .f, .k, .k, .f] [.a (.int .i64 x0), .a (.int .i64 x1), .a (.int .i64 x2)] = some ([(x0 == 1) = false, (x0 == 2) = false, (x0 == 3) = true, decide (x1 < 255) = false, (x0 == 4) = false, (x0 == 5) = false], .a (.int .i64 (x1))) := by kernel_rfl
theorem rDo_p8 (x0 : Int) (x1 : Int) (x2 : Int) : evG Try.prog tabL 2000 62 [.f, .f, .f, .k, .k, .t, .k, .t, .k] [.a (.int .i64 x0), .a (.int .i64 x1), .a (.int .i64 x2)] = some ([(x0 == 1) = false, (x0 == 2) = false, (x0 == 3) = false, (x0 == 4) = true, decide (x1 > 0) = true], .a (.int .i64 (IntKind.wrap IntKind.i64 (x1 - 1)))) := by kernel_rfl
theorem rDo_p9 (x0 : Int) (x1 : Int) (x2 : Int) : evG Try.prog tabL 2000 62 [.f, .f, .f, .k, .k, .t, .k, .f, .k, .t] [.a (.int .i64 x0), .a (.int .i64 x1), .a (.int .i64 x2)] = some ([(x0 == 1) = false, (x0 == 2) = false, (x0 == 3) = false, (x0 == 4) = true, decide (x1 > 0) = false, (x0 == 5) = true], .a (.int .i64 (IntKind.wrap IntKind.i64 (255 - x1)))) := by kernel_rfl
theorem rDo_p10 (x0 : Int) (x1 : Int) (x2 : Int) : evG Try.prog tabL 2000 62 [.f, .f, .f, .k, .k, .t, .k, .f, .k, .f] [.a (.int .i64 x0), .a (.int .i64 x1), .a (.int .i64 x2)] = some ([(x0 == 1) = false, (x0 == 2) = false, (x0 == 3) = false, (x0 == 4) = true, decide (x1 > 0) = false, (x0 == 5) = false], .a (.int .i64 (x1))) := by kernel_rfl
theorem rDo_p11 (x0 : Int) (x1 : Int) (x2 : Int) : evG Try.prog tabL 2000 62 [.f, .f, .f, .k, .k, .f, .k, .k, .t] [.a (.int .i64 x0), .a (.int .i64 x1), .a (.int .i64 x2)] = some ([(x0 == 1) = false, (x0 == 2) = false, (x0 == 3) = false, (x0 == 4) = false, (x0 == 5) = true], .a (.int .i64 (IntKind.wrap IntKind.i64 (255 - x1)))) := by kernel_rfl
theorem rDo_p12 (x0 : Int) (x1 : Int) (x2 : Int) : evG Try.prog tabL 2000 62 [.f, .f, .f, .k, .k, .f, .k, .k, .f] [.a (.int .i64 x0), .a (.int .i64 x1), .a (.int .i64 x2)] = some ([(x0 == 1) = false, (x0 == 2) = false, (x0 == 3) = false, (x0 == 4) = false, (x0 == 5) = false], .a (.int .i64 (x1))) := by kernel_rfl
def rDo_c : Con
  | [.a (.int .i64 x0), .a (.int .i64 x1), .a (.int .i64 x2)] => some ([], .a (.int .i64 (rDo x0 x1 x2)))
  | _ => none
theorem rDo_ok : PureOK Try.prog 62 rDo_c := by
  intro args obs lv h ho φ vs w ha
  unfold rDo_c at h
  split at h
  · simp only [Option.some.injEq, Prod.mk.injEq] at h
    obtain ⟨rfl, rfl⟩ := h
    rename_i x0 x1 x2
    rcases Bool.eq_false_or_eq_true (x0 == 1) with h0 | h0
    · skip
      have e := evG_wp tabL_ok follows (rDo_p0 x0 x1 x2) ⟨h0, trivial⟩ φ vs w ha
      simpa only [rDo, h0, cond_true] using e
    · skip
      rcases Bool.eq_false_or_eq_true (x0 == 2) with h1 | h1
      · skip
        have e := evG_wp tabL_ok follows (rDo_p1 x0 x1 x2) ⟨h0, h1, trivial⟩ φ vs w ha
        simpa only [rDo, h0, h1, cond_true, cond_false] using e
      · skip
        rcases Bool.eq_false_or_eq_true (x0 == 3) with h2 | h2
        · skip
          rcases Bool.eq_false_or_eq_true (decide (x1 < 255)) with h3 | h3
          · skip
            have e := evG_wp tabL_ok follows (rDo_p2 x0 x1 x2) ⟨h0, h1, h2, h3, trivial⟩ φ vs w ha
            simpa only [rDo, h0, h1, h2, h3, cond_true, cond_false] using e
          · skip
            rcases Bool.eq_false_or_eq_true (x0 == 4) with h4 | h4
            · skip
              rcases Bool.eq_false_or_eq_true (decide (x1 > 0)) with h5 | h5
              · skip
                have e := evG_wp tabL_ok follows (rDo_p3 x0 x1 x2) ⟨h0, h1, h2, h3, h4, h5, trivial⟩ φ vs w ha
                simpa only [rDo, h0, h1, h2, h3, h4, h5, cond_true, cond_false] using e
              · skip
                rcases Bool.eq_false_or_eq_true (x0 == 5) with h6 | h6
                · skip
                  have e := evG_wp tabL_ok follows (rDo_p4 x0 x1 x2) ⟨h0, h1, h2, h3, h4, h5, h6, trivial⟩ φ vs w ha
                  simpa only [rDo, h0, h1, h2, h3, h4, h5, h6, cond_true, cond_false] using e
                · skip
                  have e := evG_wp tabL_ok follows (rDo_p5 x0 x1 x2) ⟨h0, h1, h2, h3, h4, h5, h6, trivial⟩ φ vs w ha
                  simpa only [rDo, h0, h1, h2, h3, h4, h5, h6, cond_true, cond_false] using e
            · skip
              rcases Bool.eq_false_or_eq_true (x0 == 5) with h5 | h5
              · skip
                have e := evG_wp tabL_ok follows (rDo_p6 x0 x1 x2) ⟨h0, h1, h2, h3, h4, h5, trivial⟩ φ vs w ha
                simpa only [rDo, h0, h1, h2, h3, h4, h5, cond_true, cond_false] using e
              · skip
                have e := evG_wp tabL_ok follows (rDo_p7 x0 x1 x2) ⟨h0, h1, h2, h3, h4, h5, trivial⟩ φ vs w ha
                simpa only [rDo, h0, h1, h2, h3, h4, h5, cond_true, cond_false] using e
        · skip
          rcases Bool.eq_false_or_eq_true (x0 == 4) with h3 | h3
          · skip
            rcases Bool.eq_false_or_eq_true (decide (x1 > 0)) with h4 | h4
            · skip
              have e := evG_wp tabL_ok follows (rDo_p8 x0 x1 x2) ⟨h0, h1, h2, h3, h4, trivial⟩ φ vs w ha
              simpa only [rDo, h0, h1, h2, h3, h4, cond_true, cond_false] using e
            · skip
              rcases Bool.eq_false_or_eq_true (x0 == 5) with h5 | h5
              · skip
                have e := evG_wp tabL_ok follows (rDo_p9 x0 x1 x2) ⟨h0, h1, h2, h3, h4, h5, trivial⟩ φ vs w ha
                simpa only [rDo, h0, h1, h2, h3, h4, h5, cond_true, cond_false] using e
              · skip
                have e := evG_wp tabL_ok follows (rDo_p10 x0 x1 x2) ⟨h0, h1, h2, h3, h4, h5, trivial⟩ φ vs w ha
                simpa only [rDo, h0, h1, h2, h3, h4, h5, cond_true, cond_false] using e
          · skip
            rcases Bool.eq_false_or_eq_true (x0 == 5) with h4 | h4
            · skip
              have e := evG_wp tabL_ok follows (rDo_p11 x0 x1 x2) ⟨h0, h1, h2, h3, h4, trivial⟩ φ vs w ha
              simpa only [rDo, h0, h1, h2, h3, h4, cond_true, cond_false] using e
            · skip
              have e := evG_wp tabL_ok follows (rDo_p12 x0 x1 x2) ⟨h0, h1, h2, h3, h4, trivial⟩ φ vs w ha
              simpa only [rDo, h0, h1, h2, h3, h4, cond_false] using e
  · cases h
theorem rDo_en : Enters Try.prog 62 := fun args => by kernel_rfl

/-! azulejo/state.Plain -/
def sPlain_0  : Int := 7
def sPlain_1  : Bool := false
def sPlain_2  : Int := 7
def sPlain_3  : Int := 0
def sPlain_4  : Int := 0
def sPlain_5  : Int := 0
def sPlain_6  : Int := 0
def sPlain_7  : Int := 0
def sPlain_8  : Int := 0
def sPlain_9  : Int := 15
def sPlain_10  : Int := 0
def sPlain_11  : Int := 0
def sPlain_12  : Int := 0
def sPlain_13  : Int := 64
def sPlain_14  : Int := 64
theorem sPlain_p0  : evG Try.prog tabL 2000 79 [] [] = some ([], .g [.int .u8 (7), .bool (false), .int .u8 (7), .int .u8 (0), .int .u8 (0), .int .u8 (0), .int .u8 (0), .int .u8 (0), .int .u8 (0), .int .u8 (15), .int .u8 (0), .int .i64 (0), .int .i64 (0), .int .i64 (64), .int .i64 (64)]) := by kernel_rfl
def sPlain_c : Con
  | [] => some ([], .g [.int .u8 (sPlain_0 ), .bool (sPlain_1 ), .int .u8 (sPlain_2 ), .int .u8 (sPlain_3 ), .int .u8 (sPlain_4 ), .int .u8 (sPlain_5 ), .int .u8 (sPlain_6 ), .int .u8 (sPlain_7 ), .int .u8 (sPlain_8 ), .int .u8 (sPlain_9 ), .int .u8 (sPlain_10 ), .int .i64 (sPlain_11 ), .int .i64 (sPlain_12 ), .int .i64 (sPlain_13 ), .int .i64 (sPlain_14 )])
  | _ => none
theorem sPlain_ok : PureOK Try.prog 79 sPlain_c := by
  intro args obs lv h ho φ vs w ha
  unfold sPlain_c at h
  split at h
  · simp only [Option.some.injEq, Prod.mk.injEq] at h
    obtain ⟨rfl, rfl⟩ := h
    have e := evG_wp tabL_ok follows (sPlain_p0 ) trivial φ vs w ha
    simpa only [sPlain_0, sPlain_1, sPlain_2, sPlain_3, sPlain_4, sPlain_5, sPlain_6, sPlain_7, sPlain_8, sPlain_9, sPlain_10, sPlain_11, sPlain_12, sPlain_13, sPlain_14] using e
  · cases h
theorem sPlain_en : Enters Try.prog 79 := fun args => by kernel_rfl

/-! (azulejo/edge.Tri).Turned -/
def eTurned_0 (x0_0 : Int) (x0_1 : Int) (x0_2 : Int) (x0_3 : Int) (x0_4 : Int) (x0_5 : Int) : Int := x0_0
def eTurned_1 (x0_0 : Int) (x0_1 : Int) (x0_2 : Int) (x0_3 : Int) (x0_4 : Int) (x0_5 : Int) : Int := x0_1
def eTurned_2 (x0_0 : Int) (x0_1 : Int) (x0_2 : Int) (x0_3 : Int) (x0_4 : Int) (x0_5 : Int) : Int := x0_4
def eTurned_3 (x0_0 : Int) (x0_1 : Int) (x0_2 : Int) (x0_3 : Int) (x0_4 : Int) (x0_5 : Int) : Int := x0_5
def eTurned_4 (x0_0 : Int) (x0_1 : Int) (x0_2 : Int) (x0_3 : Int) (x0_4 : Int) (x0_5 : Int) : Int := x0_2
def eTurned_5 (x0_0 : Int) (x0_1 : Int) (x0_2 : Int) (x0_3 : Int) (x0_4 : Int) (x0_5 : Int) : Int := x0_3
theorem eTurned_p0 (x0_0 : Int) (x0_1 : Int) (x0_2 : Int) (x0_3 : Int) (x0_4 : Int) (x0_5 : Int) : evG Try.prog tabL 2000 43 [.k, .k, .k] [.g [.int .i64 x0_0, .int .i64 x0_1, .int .i64 x0_2, .int .i64 x0_3, .int .i64 x0_4, .int .i64 x0_5]] = some ([], .g [.int .i64 (x0_0), .int .i64 (x0_1), .int .i64 (x0_4), .int .i64 (x0_5), .int .i64 (x0_2), .int .i64 (x0_3)]) := by kernel_rfl
def eTurned_c : Con
  | [.g [.int .i64 x0_0, .int .i64 x0_1, .int .i64 x0_2, .int .i64 x0_3, .int .i64 x0_4, .int .i64 x0_5]] => some ([], .g [.int .i64 (eTurned_0 x0_0 x0_1 x0_2 x0_3 x0_4 x0_5), .int .i64 (eTurned_1 x0_0 x0_1 x0_2 x0_3 x0_4 x0_5), .int .i64 (eTurned_2 x0_0 x0_1 x0_2 x0_3 x0_4 x0_5), .int .i64 (eTurned_3 x0_0 x0_1 x0_2 x0_3 x0_4 x0_5), .int .i64 (eTurned_4 x0_0 x0_1 x0_2 x0_3 x0_4 x0_5), .int .i64 (eTurned_5 x0_0 x0_1 x0_2 x0_3 x0_4 x0_5)])
  | _ => none
theorem eTurned_ok : PureOK Try.prog 43 eTurned_c := by
  intro args obs lv h ho φ vs w ha
  unfold eTurned_c at h
  split at h
  · simp only [Option.some.injEq, Prod.mk.injEq] at h
    obtain ⟨rfl, rfl⟩ := h
    rename_i x0_0 x0_1 x0_2 x0_3 x0_4 x0_5
    have e := evG_wp tabL_ok follows (eTurned_p0 x0_0 x0_1 x0_2 x0_3 x0_4 x0_5) trivial φ vs w ha
    simpa only [eTurned_0, eTurned_1, eTurned_2, eTurned_3, eTurned_4, eTurned_5] using e
  · cases h
theorem eTurned_en : Enters Try.prog 43 := fun args => by kernel_rfl

/-! azulejo/azulejolaw03.EdgeShared$1 -/
def eAt_0 (x0_0 : Int) (x0_1 : Int) : Int := IntKind.wrap IntKind.i64 x0_0
def eAt_1 (x0_0 : Int) (x0_1 : Int) : Int := IntKind.wrap IntKind.i64 x0_1
theorem eAt_p0 (x0_0 : Int) (x0_1 : Int) : evG Try.prog tabL 2000 37 [.k, .k] [.g [.int .i8 x0_0, .int .i8 x0_1]] = some ([], .g [.int .i64 (IntKind.wrap IntKind.i64 x0_0), .int .i64 (IntKind.wrap IntKind.i64 x0_1)]) := by kernel_rfl
def eAt_c : Con
  | [.g [.int .i8 x0_0, .int .i8 x0_1]] => some ([], .g [.int .i64 (eAt_0 x0_0 x0_1), .int .i64 (eAt_1 x0_0 x0_1)])
  | _ => none
theorem eAt_ok : PureOK Try.prog 37 eAt_c := by
  intro args obs lv h ho φ vs w ha
  unfold eAt_c at h
  split at h
  · simp only [Option.some.injEq, Prod.mk.injEq] at h
    obtain ⟨rfl, rfl⟩ := h
    rename_i x0_0 x0_1
    have e := evG_wp tabL_ok follows (eAt_p0 x0_0 x0_1) trivial φ vs w ha
    simpa only [eAt_0, eAt_1] using e
  · cases h
theorem eAt_en : Enters Try.prog 37 := fun args => by kernel_rfl

/-! azulejo/azulejolaw03.EdgeSides$1 -/
def eNear2 (x0 : Int) : Int := if 16384 < if -16384 > x0 then -16384 else x0 then 16384 else if -16384 > x0 then -16384 else x0
theorem eNear2_p0 (x0 : Int) : evG Try.prog tabL 2000 49 [] [.a (.int .i64 x0)] = some ([], .a (.int .i64 (if 16384 < if -16384 > x0 then -16384 else x0 then 16384 else if -16384 > x0 then -16384 else x0))) := by kernel_rfl
def eNear2_c : Con
  | [.a (.int .i64 x0)] => some ([], .a (.int .i64 (eNear2 x0)))
  | _ => none
theorem eNear2_ok : PureOK Try.prog 49 eNear2_c := by
  intro args obs lv h ho φ vs w ha
  unfold eNear2_c at h
  split at h
  · simp only [Option.some.injEq, Prod.mk.injEq] at h
    obtain ⟨rfl, rfl⟩ := h
    rename_i x0
    have e := evG_wp tabL_ok follows (eNear2_p0 x0) trivial φ vs w ha
    simpa only [eNear2] using e
  · cases h
theorem eNear2_en : Enters Try.prog 49 := fun args => by kernel_rfl

/-! azulejo/bin.Meet -/
def bMeet_0 (x0_0 : Int) (x0_1 : Int) (x0_2 : Int) (x0_3 : Int) (x1_0 : Int) (x1_1 : Int) (x1_2 : Int) (x1_3 : Int) : Int := (bif decide ((if x1_0 > x0_0 then x1_0 else x0_0) ≥ if x1_2 < x0_2 then x1_2 else x0_2) then 0 else (bif decide ((if x1_1 > x0_1 then x1_1 else x0_1) ≥ if x1_3 < x0_3 then x1_3 else x0_3) then 0 else if x1_0 > x0_0 then x1_0 else x0_0))
def bMeet_1 (x0_0 : Int) (x0_1 : Int) (x0_2 : Int) (x0_3 : Int) (x1_0 : Int) (x1_1 : Int) (x1_2 : Int) (x1_3 : Int) : Int := (bif decide ((if x1_0 > x0_0 then x1_0 else x0_0) ≥ if x1_2 < x0_2 then x1_2 else x0_2) then 0 else (bif decide ((if x1_1 > x0_1 then x1_1 else x0_1) ≥ if x1_3 < x0_3 then x1_3 else x0_3) then 0 else if x1_1 > x0_1 then x1_1 else x0_1))
def bMeet_2 (x0_0 : Int) (x0_1 : Int) (x0_2 : Int) (x0_3 : Int) (x1_0 : Int) (x1_1 : Int) (x1_2 : Int) (x1_3 : Int) : Int := (bif decide ((if x1_0 > x0_0 then x1_0 else x0_0) ≥ if x1_2 < x0_2 then x1_2 else x0_2) then 0 else (bif decide ((if x1_1 > x0_1 then x1_1 else x0_1) ≥ if x1_3 < x0_3 then x1_3 else x0_3) then 0 else if x1_2 < x0_2 then x1_2 else x0_2))
def bMeet_3 (x0_0 : Int) (x0_1 : Int) (x0_2 : Int) (x0_3 : Int) (x1_0 : Int) (x1_1 : Int) (x1_2 : Int) (x1_3 : Int) : Int := (bif decide ((if x1_0 > x0_0 then x1_0 else x0_0) ≥ if x1_2 < x0_2 then x1_2 else x0_2) then 0 else (bif decide ((if x1_1 > x0_1 then x1_1 else x0_1) ≥ if x1_3 < x0_3 then x1_3 else x0_3) then 0 else if x1_3 < x0_3 then x1_3 else x0_3))
theorem bMeet_p0 (x0_0 : Int) (x0_1 : Int) (x0_2 : Int) (x0_3 : Int) (x1_0 : Int) (x1_1 : Int) (x1_2 : Int) (x1_3 : Int) : evG Try.prog tabL 2000 56 [.t, .k, .k] [.g [.int .i64 x0_0, .int .i64 x0_1, .int .i64 x0_2, .int .i64 x0_3], .g [.int .i64 x1_0, .int .i64 x1_1, .int .i64 x1_2, .int .i64 x1_3]] = some ([decide ((if x1_0 > x0_0 then x1_0 else x0_0) ≥ if x1_2 < x0_2 then x1_2 else x0_2) = true], .g [.int .i64 (0), .int .i64 (0), .int .i64 (0), .int .i64 (0)]) := by kernel_rfl
theorem bMeet_p1 (x0_0 : Int) (x0_1 : Int) (x0_2 : Int) (x0_3 : Int) (x1_0 : Int) (x1_1 : Int) (x1_2 : Int) (x1_3 : Int) : evG Try.prog tabL 2000 56 [.f, .k, .t, .k] [.g [.int .i64 x0_0, .int .i64 x0_1, .int .i64 x0_2, .int .i64 x0_3], .g [.int .i64 x1_0, .int .i64 x1_1, .int .i64 x1_2, .int .i64 x1_3]] = some ([decide ((if x1_0 > x0_0 then x1_0 else x0_0) ≥ if x1_2 < x0_2 then x1_2 else x0_2) = false, decide ((if x1_1 > x0_1 then x1_1 else x0_1) ≥ if x1_3 < x0_3 then x1_3 else x0_3) = true], .g [.int .i64 (0), .int .i64 (0), .int .i64 (0), .int .i64 (0)]) := by kernel_rfl
theorem bMeet_p2 (x0_0 : Int) (x0_1 : Int) (x0_2 : Int) (x0_3 : Int) (x1_0 : Int) (x1_1 : Int) (x1_2 : Int) (x1_3 : Int) : evG Try.prog tabL 2000 56 [.f, .k, .f, .k] [.g [.int .i64 x0_0, .int .i64 x0_1, .int .i64 x0_2, .int .i64 x0_3], .g [.int .i64 x1_0, .int .i64 x1_1, .int .i64 x1_2, .int .i64 x1_3]] = some ([decide ((if x1_0 > x0_0 then x1_0 else x0_0) ≥ if x1_2 < x0_2 then x1_2 else x0_2) = false, decide ((if x1_1 > x0_1 then x1_1 else x0_1) ≥ if x1_3 < x0_3 then x1_3 else x0_3) = false], .g [.int .i64 (if x1_0 > x0_0 then x1_0 else x0_0), .int .i64 (if x1_1 > x0_1 then x1_1 else x0_1), .int .i64 (if x1_2 < x0_2 then x1_2 else x0_2), .int .i64 (if x1_3 < x0_3 then x1_3 else x0_3)]) := by kernel_rfl
def bMeet_c : Con
  | [.g [.int .i64 x0_0, .int .i64 x0_1, .int .i64 x0_2, .int .i64 x0_3], .g [.int .i64 x1_0, .int .i64 x1_1, .int .i64 x1_2, .int .i64 x1_3]] => some ([], .g [.int .i64 (bMeet_0 x0_0 x0_1 x0_2 x0_3 x1_0 x1_1 x1_2 x1_3), .int .i64 (bMeet_1 x0_0 x0_1 x0_2 x0_3 x1_0 x1_1 x1_2 x1_3), .int .i64 (bMeet_2 x0_0 x0_1 x0_2 x0_3 x1_0 x1_1 x1_2 x1_3), .int .i64 (bMeet_3 x0_0 x0_1 x0_2 x0_3 x1_0 x1_1 x1_2 x1_3)])
  | _ => none
theorem bMeet_ok : PureOK Try.prog 56 bMeet_c := by
  intro args obs lv h ho φ vs w ha
  unfold bMeet_c at h
  split at h
  · simp only [Option.some.injEq, Prod.mk.injEq] at h
    obtain ⟨rfl, rfl⟩ := h
    rename_i x0_0 x0_1 x0_2 x0_3 x1_0 x1_1 x1_2 x1_3
    rcases Bool.eq_false_or_eq_true (decide ((if x1_0 > x0_0 then x1_0 else x0_0) ≥ if x1_2 < x0_2 then x1_2 else x0_2)) with h0 | h0
    · skip
      have e := evG_wp tabL_ok follows (bMeet_p0 x0_0 x0_1 x0_2 x0_3 x1_0 x1_1 x1_2 x1_3) ⟨h0, trivial⟩ φ vs w ha
      simpa only [bMeet_0, bMeet_1, bMeet_2, bMeet_3, h0, cond_true] using e
    · skip
      rcases Bool.eq_false_or_eq_true (decide ((if x1_1 > x0_1 then x1_1 else x0_1) ≥ if x1_3 < x0_3 then x1_3 else x0_3)) with h1 | h1
      · skip
        have e := evG_wp tabL_ok follows (bMeet_p1 x0_0 x0_1 x0_2 x0_3 x1_0 x1_1 x1_2 x1_3) ⟨h0, h1, trivial⟩ φ vs w ha
        simpa only [bMeet_0, bMeet_1, bMeet_2, bMeet_3, h0, h1, cond_true, cond_false] using e
      · skip
        have e := evG_wp tabL_ok follows (bMeet_p2 x0_0 x0_1 x0_2 x0_3 x1_0 x1_1 x1_2 x1_3) ⟨h0, h1, trivial⟩ φ vs w ha
        simpa only [bMeet_0, bMeet_1, bMeet_2, bMeet_3, h0, h1, cond_false] using e
  · cases h
theorem bMeet_en : Enters Try.prog 56 := fun args => by kernel_rfl

/-! (azulejo/state.State).Check -/
def sCheck (x0_0 : Int) (x0_1 : Bool) (x0_2 : Int) (x0_3 : Int) (x0_4 : Int) (x0_5 : Int) (x0_6 : Int) (x0_7 : Int) (x0_8 : Int) (x0_9 : Int) (x0_10 : Int) (x0_11 : Int) (x0_12 : Int) (x0_13 : Int) (x0_14 : Int) : Int := (bif decide (x0_0 ≥ 8) then 13 else (bif decide (x0_2 ≥ 8) then 13 else (bif decide (x0_5 ≥ 6) then 13 else (bif decide (x0_6 ≥ 6) then 13 else (bif decide (x0_7 ≥ 6) then 13 else (bif decide (x0_8 ≥ 4) then 13 else (bif decide (x0_10 ≥ 3) then 13 else (bif decide (x0_9 > 15) then 13 else (bif decide (x0_11 < 0) then 2 else (bif decide (x0_11 > x0_13) then 2 else (bif decide (x0_13 > 64) then 2 else (bif decide (x0_12 < 0) then 2 else (bif decide (x0_12 > x0_14) then 2 else (bif decide (x0_14 > 64) then 2 else 0))))))))))))))
theorem sCheck_p0 (x0_0 : Int) (x0_1 : Bool) (x0_2 : Int) (x0_3 : Int) (x0_4 : Int) (x0_5 : Int) (x0_6 : Int) (x0_7 : Int) (x0_8 : Int) (x0_9 : Int) (x0_10 : Int) (x0_11 : Int) (x0_12 : Int) (x0_13 : Int) (x0_14 : Int) : evG Try.prog tabL 2000 80 [.t, .k, .k, .k, .k, .k, .k, .k, .k, .k, .k, .k, .k, .k, .k, .k] [.g [.int .u8 x0_0, .bool x0_1, .int .u8 x0_2, .int .u8 x0_3, .int .u8 x0_4, .int .u8 x0_5, .int .u8 x0_6, .int .u8 x0_7, .int .u8 x0_8, .int .u8 x0_9, .int .u8 x0_10, .int .i64 x0_11, .int .i64 x0_12, .int .i64 x0_13, .int .i64 x0_14]] = some ([decide (x0_0 ≥ 8) = true], .a (.int .i64 (13))) := by kernel_rfl
theorem sCheck_p1 (x0_0 : Int) (x0_1 : Bool) (x0_2 : Int) (x0_3 : Int) (x0_4 : Int) (x0_5 : Int) (x0_6 : Int) (x0_7 : Int) (x0_8 : Int) (x0_9 : Int) (x0_10 : Int) (x0_11 : Int) (x0_12 : Int) (x0_13 : Int) (x0_14 : Int) : evG Try.prog tabL 2000 80 [.f, .k, .t, .k, .k, .k, .k, .k, .k, .k, .k, .k, .k, .k, .k, .k, .k] [.g [.int .u8 x0_0, .bool x0_1, .int .u8 x0_2, .int .u8 x0_3, .int .u8 x0_4, .int .u8 x0_5, .int .u8 x0_6, .int .u8 x0_7, .int .u8 x0_8, .int .u8 x0_9, .int .u8 x0_10, .int .i64 x0_11, .int .i64 x0_12, .int .i64 x0_13, .int .i64 x0_14]] = some ([decide (x0_0 ≥ 8) = false, decide (x0_2 ≥ 8) = true], .a (.int .i64 (13))) := by kernel_rfl
theorem sCheck_p2 (x0_0 : Int) (x0_1 : Bool) (x0_2 : Int) (x0_3 : Int) (x0_4 : Int) (x0_5 : Int) (x0_6 : Int) (x0_7 : Int) (x0_8 : Int) (x0_9 : Int) (x0_10 : Int) (x0_11 : Int) (x0_12 : Int) (x0_13 : Int) (x0_14 : Int) : evG Try.prog tabL 2000 80 [.f, .k, .f, .k, .k, .t, .k, .k, .k, .k, .k, .k, .k, .k, .k, .k, .k, .k] [.g [.int .u8 x0_0, .bool x0_1, .int .u8 x0_2, .int .u8 x0_3, .int .u8 x0_4, .int .u8 x0_5, .int .u8 x0_6, .int .u8 x0_7, .int .u8 x0_8, .int .u8 x0_9, .int .u8 x0_10, .int .i64 x0_11, .int .i64 x0_12, .int .i64 x0_13, .int .i64 x0_14]] = some ([decide (x0_0 ≥ 8) = false, decide (x0_2 ≥ 8) = false, decide (x0_5 ≥ 6) = true], .a (.int .i64 (13))) := by kernel_rfl
theorem sCheck_p3 (x0_0 : Int) (x0_1 : Bool) (x0_2 : Int) (x0_3 : Int) (x0_4 : Int) (x0_5 : Int) (x0_6 : Int) (x0_7 : Int) (x0_8 : Int) (x0_9 : Int) (x0_10 : Int) (x0_11 : Int) (x0_12 : Int) (x0_13 : Int) (x0_14 : Int) : evG Try.prog tabL 2000 80 [.f, .k, .f, .k, .k, .f, .k, .k, .t, .k, .k, .k, .k, .k, .k, .k, .k, .k, .k] [.g [.int .u8 x0_0, .bool x0_1, .int .u8 x0_2, .int .u8 x0_3, .int .u8 x0_4, .int .u8 x0_5, .int .u8 x0_6, .int .u8 x0_7, .int .u8 x0_8, .int .u8 x0_9, .int .u8 x0_10, .int .i64 x0_11, .int .i64 x0_12, .int .i64 x0_13, .int .i64 x0_14]] = some ([decide (x0_0 ≥ 8) = false, decide (x0_2 ≥ 8) = false, decide (x0_5 ≥ 6) = false, decide (x0_6 ≥ 6) = true], .a (.int .i64 (13))) := by kernel_rfl
theorem sCheck_p4 (x0_0 : Int) (x0_1 : Bool) (x0_2 : Int) (x0_3 : Int) (x0_4 : Int) (x0_5 : Int) (x0_6 : Int) (x0_7 : Int) (x0_8 : Int) (x0_9 : Int) (x0_10 : Int) (x0_11 : Int) (x0_12 : Int) (x0_13 : Int) (x0_14 : Int) : evG Try.prog tabL 2000 80 [.f, .k, .f, .k, .k, .f, .k, .k, .f, .k, .k, .t, .k, .k, .k, .k, .k, .k, .k, .k] [.g [.int .u8 x0_0, .bool x0_1, .int .u8 x0_2, .int .u8 x0_3, .int .u8 x0_4, .int .u8 x0_5, .int .u8 x0_6, .int .u8 x0_7, .int .u8 x0_8, .int .u8 x0_9, .int .u8 x0_10, .int .i64 x0_11, .int .i64 x0_12, .int .i64 x0_13, .int .i64 x0_14]] = some ([decide (x0_0 ≥ 8) = false, decide (x0_2 ≥ 8) = false, decide (x0_5 ≥ 6) = false, decide (x0_6 ≥ 6) = false, decide (x0_7 ≥ 6) = true], .a (.int .i64 (13))) := by kernel_rfl
theorem sCheck_p5 (x0_0 : Int) (x0_1 : Bool) (x0_2 : Int) (x0_3 : Int) (x0_4 : Int) (x0_5 : Int) (x0_6 : Int) (x0_7 : Int) (x0_8 : Int) (x0_9 : Int) (x0_10 : Int) (x0_11 : Int) (x0_12 : Int) (x0_13 : Int) (x0_14 : Int) : evG Try.prog tabL 2000 80 [.f, .k, .f, .k, .k, .f, .k, .k, .f, .k, .k, .f, .k, .k, .t, .k, .k, .k, .k, .k, .k] [.g [.int .u8 x0_0, .bool x0_1, .int .u8 x0_2, .int .u8 x0_3, .int .u8 x0_4, .int .u8 x0_5, .int .u8 x0_6, .int .u8 x0_7, .int .u8 x0_8, .int .u8 x0_9, .int .u8 x0_10, .int .i64 x0_11, .int .i64 x0_12, .int .i64 x0_13, .int .i64 x0_14]] = some ([decide (x0_0 ≥ 8) = false, decide (x0_2 ≥ 8) = false, decide (x0_5 ≥ 6) = false, decide (x0_6 ≥ 6) = false, decide (x0_7 ≥ 6) = false, decide (x0_8 ≥ 4) = true], .a (.int .i64 (13))) := by kernel_rfl
theorem sCheck_p6 (x0_0 : Int) (x0_1 : Bool) (x0_2 : Int) (x0_3 : Int) (x0_4 : Int) (x0_5 : Int) (x0_6 : Int) (x0_7 : Int) (x0_8 : Int) (x0_9 : Int) (x0_10 : Int) (x0_11 : Int) (x0_12 : Int) (x0_13 : Int) (x0_14 : Int) : evG Try.prog tabL 2000 80 [.f, .k, .f, .k, .k, .f, .k, .k, .f, .k, .k, .f, .k, .k, .f, .k, .k, .t, .k, .k, .k, .k] [.g [.int .u8 x0_0, .bool x0_1, .int .u8 x0_2, .int .u8 x0_3, .int .u8 x0_4, .int .u8 x0_5, .int .u8 x0_6, .int .u8 x0_7, .int .u8 x0_8, .int .u8 x0_9, .int .u8 x0_10, .int .i64 x0_11, .int .i64 x0_12, .int .i64 x0_13, .int .i64 x0_14]] = some ([decide (x0_0 ≥ 8) = false, decide (x0_2 ≥ 8) = false, decide (x0_5 ≥ 6) = false, decide (x0_6 ≥ 6) = false, decide (x0_7 ≥ 6) = false, decide (x0_8 ≥ 4) = false, decide (x0_10 ≥ 3) = true], .a (.int .i64 (13))) := by kernel_rfl
theorem sCheck_p7 (x0_0 : Int) (x0_1 : Bool) (x0_2 : Int) (x0_3 : Int) (x0_4 : Int) (x0_5 : Int) (x0_6 : Int) (x0_7 : Int) (x0_8 : Int) (x0_9 : Int) (x0_10 : Int) (x0_11 : Int) (x0_12 : Int) (x0_13 : Int) (x0_14 : Int) : evG Try.prog tabL 2000 80 [.f, .k, .f, .k, .k, .f, .k, .k, .f, .k, .k, .f, .k, .k, .f, .k, .k, .f, .k, .k, .t, .k, .k] [.g [.int .u8 x0_0, .bool x0_1, .int .u8 x0_2, .int .u8 x0_3, .int .u8 x0_4, .int .u8 x0_5, .int .u8 x0_6, .int .u8 x0_7, .int .u8 x0_8, .int .u8 x0_9, .int .u8 x0_10, .int .i64 x0_11, .int .i64 x0_12, .int .i64 x0_13, .int .i64 x0_14]] = some ([decide (x0_0 ≥ 8) = false, decide (x0_2 ≥ 8) = false, decide (x0_5 ≥ 6) = false, decide (x0_6 ≥ 6) = false, decide (x0_7 ≥ 6) = false, decide (x0_8 ≥ 4) = false, decide (x0_10 ≥ 3) = false, decide (x0_9 > 15) = true], .a (.int .i64 (13))) := by kernel_rfl
theorem sCheck_p8 (x0_0 : Int) (x0_1 : Bool) (x0_2 : Int) (x0_3 : Int) (x0_4 : Int) (x0_5 : Int) (x0_6 : Int) (x0_7 : Int) (x0_8 : Int) (x0_9 : Int) (x0_10 : Int) (x0_11 : Int) (x0_12 : Int) (x0_13 : Int) (x0_14 : Int) : evG Try.prog tabL 2000 80 [.f, .k, .f, .k, .k, .f, .k, .k, .f, .k, .k, .f, .k, .k, .f, .k, .k, .f, .k, .k, .f, .k, .k, .t, .k, .k, .k, .k, .k, .k, .k, .k, .k, .k, .k] [.g [.int .u8 x0_0, .bool x0_1, .int .u8 x0_2, .int .u8 x0_3, .int .u8 x0_4, .int .u8 x0_5, .int .u8 x0_6, .int .u8 x0_7, .int .u8 x0_8, .int .u8 x0_9, .int .u8 x0_10, .int .i64 x0_11, .int .i64 x0_12, .int .i64 x0_13, .int .i64 x0_14]] = some ([decide (x0_0 ≥ 8) = false, decide (x0_2 ≥ 8) = false, decide (x0_5 ≥ 6) = false, decide (x0_6 ≥ 6) = false, decide (x0_7 ≥ 6) = false, decide (x0_8 ≥ 4) = false, decide (x0_10 ≥ 3) = false, decide (x0_9 > 15) = false, decide (x0_11 < 0) = true], .a (.int .i64 (2))) := by kernel_rfl
theorem sCheck_p9 (x0_0 : Int) (x0_1 : Bool) (x0_2 : Int) (x0_3 : Int) (x0_4 : Int) (x0_5 : Int) (x0_6 : Int) (x0_7 : Int) (x0_8 : Int) (x0_9 : Int) (x0_10 : Int) (x0_11 : Int) (x0_12 : Int) (x0_13 : Int) (x0_14 : Int) : evG Try.prog tabL 2000 80 [.f, .k, .f, .k, .k, .f, .k, .k, .f, .k, .k, .f, .k, .k, .f, .k, .k, .f, .k, .k, .f, .k, .k, .f, .k, .t, .k, .k, .k, .k, .k, .k, .k, .k, .k, .k] [.g [.int .u8 x0_0, .bool x0_1, .int .u8 x0_2, .int .u8 x0_3, .int .u8 x0_4, .int .u8 x0_5, .int .u8 x0_6, .int .u8 x0_7, .int .u8 x0_8, .int .u8 x0_9, .int .u8 x0_10, .int .i64 x0_11, .int .i64 x0_12, .int .i64 x0_13, .int .i64 x0_14]] = some ([decide (x0_0 ≥ 8) = false, decide (x0_2 ≥ 8) = false, decide (x0_5 ≥ 6) = false, decide (x0_6 ≥ 6) = false, decide (x0_7 ≥ 6) = false, decide (x0_8 ≥ 4) = false, decide (x0_10 ≥ 3) = false, decide (x0_9 > 15) = false, decide (x0_11 < 0) = false, decide (x0_11 > x0_13) = true], .a (.int .i64 (2))) := by kernel_rfl
theorem sCheck_p10 (x0_0 : Int) (x0_1 : Bool) (x0_2 : Int) (x0_3 : Int) (x0_4 : Int) (x0_5 : Int) (x0_6 : Int) (x0_7 : Int) (x0_8 : Int) (x0_9 : Int) (x0_10 : Int) (x0_11 : Int) (x0_12 : Int) (x0_13 : Int) (x0_14 : Int) : evG Try.prog tabL 2000 80 [.f, .k, .f, .k, .k, .f, .k, .k, .f, .k, .k, .f, .k, .k, .f, .k, .k, .f, .k, .k, .f, .k, .k, .f, .k, .f, .k, .k, .t, .k, .k, .k, .k, .k, .k, .k, .k] [.g [.int .u8 x0_0, .bool x0_1, .int .u8 x0_2, .int .u8 x0_3, .int .u8 x0_4, .int .u8 x0_5, .int .u8 x0_6, .int .u8 x0_7, .int .u8 x0_8, .int .u8 x0_9, .int .u8 x0_10, .int .i64 x0_11, .int .i64 x0_12, .int .i64 x0_13, .int .i64 x0_14]] = some ([decide (x0_0 ≥ 8) = false, decide (x0_2 ≥ 8) = false, decide (x0_5 ≥ 6) = false, decide (x0_6 ≥ 6) = false, decide (x0_7 ≥ 6) = false, decide (x0_8 ≥ 4) = false, decide (x0_10 ≥ 3) = false, decide (x0_9 > 15) = false, decide (x0_11 < 0) = false, decide (x0_11 > x0_13) = false, decide (x0_13 > 64) = true], .a (.int .i64 (2))) := by kernel_rfl
theorem sCheck_p11 (x0_0 : Int) (x0_1 : Bool) (x0_2 : Int) (x0_3 : Int) (x0_4 : Int) (x0_5 : Int) (x0_6 : Int) (x0_7 : Int) (x0_8 : Int) (x0_9 : Int) (x0_10 : Int) (x0_11 : Int) (x0_12 : Int) (x0_13 : Int) (x0_14 : Int) : evG Try.prog tabL 2000 80 [.f, .k, .f, .k, .k, .f, .k, .k, .f, .k, .k, .f, .k, .k, .f, .k, .k, .f, .k, .k, .f, .k, .k, .f, .k, .f, .k, .k, .f, .k, .k, .t, .k, .k, .k, .k, .k, .k] [.g [.int .u8 x0_0, .bool x0_1, .int .u8 x0_2, .int .u8 x0_3, .int .u8 x0_4, .int .u8 x0_5, .int .u8 x0_6, .int .u8 x0_7, .int .u8 x0_8, .int .u8 x0_9, .int .u8 x0_10, .int .i64 x0_11, .int .i64 x0_12, .int .i64 x0_13, .int .i64 x0_14]] = some ([decide (x0_0 ≥ 8) = false, decide (x0_2 ≥ 8) = false, decide (x0_5 ≥ 6) = false, decide (x0_6 ≥ 6) = false, decide (x0_7 ≥ 6) = false, decide (x0_8 ≥ 4) = false, decide (x0_10 ≥ 3) = false, decide (x0_9 > 15) = false, decide (x0_11 < 0) = false, decide (x0_11 > x0_13) = false, decide (x0_13 > 64) = false, decide (x0_12 < 0) = true], .a (.int .i64 (2))) := by kernel_rfl
theorem sCheck_p12 (x0_0 : Int) (x0_1 : Bool) (x0_2 : Int) (x0_3 : Int) (x0_4 : Int) (x0_5 : Int) (x0_6 : Int) (x0_7 : Int) (x0_8 : Int) (x0_9 : Int) (x0_10 : Int) (x0_11 : Int) (x0_12 : Int) (x0_13 : Int) (x0_14 : Int) : evG Try.prog tabL 2000 80 [.f, .k, .f, .k, .k, .f, .k, .k, .f, .k, .k, .f, .k, .k, .f, .k, .k, .f, .k, .k, .f, .k, .k, .f, .k, .f, .k, .k, .f, .k, .k, .f, .k, .k, .t, .k, .k, .k, .k] [.g [.int .u8 x0_0, .bool x0_1, .int .u8 x0_2, .int .u8 x0_3, .int .u8 x0_4, .int .u8 x0_5, .int .u8 x0_6, .int .u8 x0_7, .int .u8 x0_8, .int .u8 x0_9, .int .u8 x0_10, .int .i64 x0_11, .int .i64 x0_12, .int .i64 x0_13, .int .i64 x0_14]] = some ([decide (x0_0 ≥ 8) = false, decide (x0_2 ≥ 8) = false, decide (x0_5 ≥ 6) = false, decide (x0_6 ≥ 6) = false, decide (x0_7 ≥ 6) = false, decide (x0_8 ≥ 4) = false, decide (x0_10 ≥ 3) = false, decide (x0_9 > 15) = false, decide (x0_11 < 0) = false, decide (x0_11 > x0_13) = false, decide (x0_13 > 64) = false, decide (x0_12 < 0) = false, decide (x0_12 > x0_14) = true], .a (.int .i64 (2))) := by kernel_rfl
theorem sCheck_p13 (x0_0 : Int) (x0_1 : Bool) (x0_2 : Int) (x0_3 : Int) (x0_4 : Int) (x0_5 : Int) (x0_6 : Int) (x0_7 : Int) (x0_8 : Int) (x0_9 : Int) (x0_10 : Int) (x0_11 : Int) (x0_12 : Int) (x0_13 : Int) (x0_14 : Int) : evG Try.prog tabL 2000 80 [.f, .k, .f, .k, .k, .f, .k, .k, .f, .k, .k, .f, .k, .k, .f, .k, .k, .f, .k, .k, .f, .k, .k, .f, .k, .f, .k, .k, .f, .k, .k, .f, .k, .k, .f, .k, .k, .t, .k, .k] [.g [.int .u8 x0_0, .bool x0_1, .int .u8 x0_2, .int .u8 x0_3, .int .u8 x0_4, .int .u8 x0_5, .int .u8 x0_6, .int .u8 x0_7, .int .u8 x0_8, .int .u8 x0_9, .int .u8 x0_10, .int .i64 x0_11, .int .i64 x0_12, .int .i64 x0_13, .int .i64 x0_14]] = some ([decide (x0_0 ≥ 8) = false, decide (x0_2 ≥ 8) = false, decide (x0_5 ≥ 6) = false, decide (x0_6 ≥ 6) = false, decide (x0_7 ≥ 6) = false, decide (x0_8 ≥ 4) = false, decide (x0_10 ≥ 3) = false, decide (x0_9 > 15) = false, decide (x0_11 < 0) = false, decide (x0_11 > x0_13) = false, decide (x0_13 > 64) = false, decide (x0_12 < 0) = false, decide (x0_12 > x0_14) = false, decide (x0_14 > 64) = true], .a (.int .i64 (2))) := by kernel_rfl
theorem sCheck_p14 (x0_0 : Int) (x0_1 : Bool) (x0_2 : Int) (x0_3 : Int) (x0_4 : Int) (x0_5 : Int) (x0_6 : Int) (x0_7 : Int) (x0_8 : Int) (x0_9 : Int) (x0_10 : Int) (x0_11 : Int) (x0_12 : Int) (x0_13 : Int) (x0_14 : Int) : evG Try.prog tabL 2000 80 [.f, .k, .f, .k, .k, .f, .k, .k, .f, .k, .k, .f, .k, .k, .f, .k, .k, .f, .k, .k, .f, .k, .k, .f, .k, .f, .k, .k, .f, .k, .k, .f, .k, .k, .f, .k, .k, .f, .k, .k] [.g [.int .u8 x0_0, .bool x0_1, .int .u8 x0_2, .int .u8 x0_3, .int .u8 x0_4, .int .u8 x0_5, .int .u8 x0_6, .int .u8 x0_7, .int .u8 x0_8, .int .u8 x0_9, .int .u8 x0_10, .int .i64 x0_11, .int .i64 x0_12, .int .i64 x0_13, .int .i64 x0_14]] = some ([decide (x0_0 ≥ 8) = false, decide (x0_2 ≥ 8) = false, decide (x0_5 ≥ 6) = false, decide (x0_6 ≥ 6) = false, decide (x0_7 ≥ 6) = false, decide (x0_8 ≥ 4) = false, decide (x0_10 ≥ 3) = false, decide (x0_9 > 15) = false, decide (x0_11 < 0) = false, decide (x0_11 > x0_13) = false, decide (x0_13 > 64) = false, decide (x0_12 < 0) = false, decide (x0_12 > x0_14) = false, decide (x0_14 > 64) = false], .a (.int .i64 (0))) := by kernel_rfl
def sCheck_c : Con
  | [.g [.int .u8 x0_0, .bool x0_1, .int .u8 x0_2, .int .u8 x0_3, .int .u8 x0_4, .int .u8 x0_5, .int .u8 x0_6, .int .u8 x0_7, .int .u8 x0_8, .int .u8 x0_9, .int .u8 x0_10, .int .i64 x0_11, .int .i64 x0_12, .int .i64 x0_13, .int .i64 x0_14]] => some ([], .a (.int .i64 (sCheck x0_0 x0_1 x0_2 x0_3 x0_4 x0_5 x0_6 x0_7 x0_8 x0_9 x0_10 x0_11 x0_12 x0_13 x0_14)))
  | _ => none
theorem sCheck_ok : PureOK Try.prog 80 sCheck_c := by
  intro args obs lv h ho φ vs w ha
  unfold sCheck_c at h
  split at h
  · simp only [Option.some.injEq, Prod.mk.injEq] at h
    obtain ⟨rfl, rfl⟩ := h
    rename_i x0_0 x0_1 x0_2 x0_3 x0_4 x0_5 x0_6 x0_7 x0_8 x0_9 x0_10 x0_11 x0_12 x0_13 x0_14
    rcases Bool.eq_false_or_eq_true (decide (x0_0 ≥ 8)) with h0 | h0
    · skip
      have e := evG_wp tabL_ok follows (sCheck_p0 x0_0 x0_1 x0_2 x0_3 x0_4 x0_5 x0_6 x0_7 x0_8 x0_9 x0_10 x0_11 x0_12 x0_13 x0_14) ⟨h0, trivial⟩ φ vs w ha
      simpa only [sCheck, h0, cond_true] using e
    · skip
      rcases Bool.eq_false_or_eq_true (decide (x0_2 ≥ 8)) with h1 | h1
      · skip
        have e := evG_wp tabL_ok follows (sCheck_p1 x0_0 x0_1 x0_2 x0_3 x0_4 x0_5 x0_6 x0_7 x0_8 x0_9 x0_10 x0_11 x0_12 x0_13 x0_14) ⟨h0, h1, trivial⟩ φ vs w ha
        simpa only [sCheck, h0, h1, cond_true, cond_false] using e
      · skip
        rcases Bool.eq_false_or_eq_true (decide (x0_5 ≥ 6)) with h2 | h2
        · skip
          have e := evG_wp tabL_ok follows (sCheck_p2 x0_0 x0_1 x0_2 x0_3 x0_4 x0_5 x0_6 x0_7 x0_8 x0_9 x0_10 x0_11 x0_12 x0_13 x0_14) ⟨h0, h1, h2, trivial⟩ φ vs w ha
          simpa only [sCheck, h0, h1, h2, cond_true, cond_false] using e
        · skip
          rcases Bool.eq_false_or_eq_true (decide (x0_6 ≥ 6)) with h3 | h3
          · skip
            have e := evG_wp tabL_ok follows (sCheck_p3 x0_0 x0_1 x0_2 x0_3 x0_4 x0_5 x0_6 x0_7 x0_8 x0_9 x0_10 x0_11 x0_12 x0_13 x0_14) ⟨h0, h1, h2, h3, trivial⟩ φ vs w ha
            simpa only [sCheck, h0, h1, h2, h3, cond_true, cond_false] using e
          · skip
            rcases Bool.eq_false_or_eq_true (decide (x0_7 ≥ 6)) with h4 | h4
            · skip
              have e := evG_wp tabL_ok follows (sCheck_p4 x0_0 x0_1 x0_2 x0_3 x0_4 x0_5 x0_6 x0_7 x0_8 x0_9 x0_10 x0_11 x0_12 x0_13 x0_14) ⟨h0, h1, h2, h3, h4, trivial⟩ φ vs w ha
              simpa only [sCheck, h0, h1, h2, h3, h4, cond_true, cond_false] using e
            · skip
              rcases Bool.eq_false_or_eq_true (decide (x0_8 ≥ 4)) with h5 | h5
              · skip
                have e := evG_wp tabL_ok follows (sCheck_p5 x0_0 x0_1 x0_2 x0_3 x0_4 x0_5 x0_6 x0_7 x0_8 x0_9 x0_10 x0_11 x0_12 x0_13 x0_14) ⟨h0, h1, h2, h3, h4, h5, trivial⟩ φ vs w ha
                simpa only [sCheck, h0, h1, h2, h3, h4, h5, cond_true, cond_false] using e
              · skip
                rcases Bool.eq_false_or_eq_true (decide (x0_10 ≥ 3)) with h6 | h6
                · skip
                  have e := evG_wp tabL_ok follows (sCheck_p6 x0_0 x0_1 x0_2 x0_3 x0_4 x0_5 x0_6 x0_7 x0_8 x0_9 x0_10 x0_11 x0_12 x0_13 x0_14) ⟨h0, h1, h2, h3, h4, h5, h6, trivial⟩ φ vs w ha
                  simpa only [sCheck, h0, h1, h2, h3, h4, h5, h6, cond_true, cond_false] using e
                · skip
                  rcases Bool.eq_false_or_eq_true (decide (x0_9 > 15)) with h7 | h7
                  · skip
                    have e := evG_wp tabL_ok follows (sCheck_p7 x0_0 x0_1 x0_2 x0_3 x0_4 x0_5 x0_6 x0_7 x0_8 x0_9 x0_10 x0_11 x0_12 x0_13 x0_14) ⟨h0, h1, h2, h3, h4, h5, h6, h7, trivial⟩ φ vs w ha
                    simpa only [sCheck, h0, h1, h2, h3, h4, h5, h6, h7, cond_true, cond_false] using e
                  · skip
                    rcases Bool.eq_false_or_eq_true (decide (x0_11 < 0)) with h8 | h8
                    · skip
                      have e := evG_wp tabL_ok follows (sCheck_p8 x0_0 x0_1 x0_2 x0_3 x0_4 x0_5 x0_6 x0_7 x0_8 x0_9 x0_10 x0_11 x0_12 x0_13 x0_14) ⟨h0, h1, h2, h3, h4, h5, h6, h7, h8, trivial⟩ φ vs w ha
                      simpa only [sCheck, h0, h1, h2, h3, h4, h5, h6, h7, h8, cond_true, cond_false] using e
                    · skip
                      rcases Bool.eq_false_or_eq_true (decide (x0_11 > x0_13)) with h9 | h9
                      · skip
                        have e := evG_wp tabL_ok follows (sCheck_p9 x0_0 x0_1 x0_2 x0_3 x0_4 x0_5 x0_6 x0_7 x0_8 x0_9 x0_10 x0_11 x0_12 x0_13 x0_14) ⟨h0, h1, h2, h3, h4, h5, h6, h7, h8, h9, trivial⟩ φ vs w ha
                        simpa only [sCheck, h0, h1, h2, h3, h4, h5, h6, h7, h8, h9, cond_true, cond_false] using e
                      · skip
                        rcases Bool.eq_false_or_eq_true (decide (x0_13 > 64)) with h10 | h10
                        · skip
                          have e := evG_wp tabL_ok follows (sCheck_p10 x0_0 x0_1 x0_2 x0_3 x0_4 x0_5 x0_6 x0_7 x0_8 x0_9 x0_10 x0_11 x0_12 x0_13 x0_14) ⟨h0, h1, h2, h3, h4, h5, h6, h7, h8, h9, h10, trivial⟩ φ vs w ha
                          simpa only [sCheck, h0, h1, h2, h3, h4, h5, h6, h7, h8, h9, h10, cond_true, cond_false] using e
                        · skip
                          rcases Bool.eq_false_or_eq_true (decide (x0_12 < 0)) with h11 | h11
                          · skip
                            have e := evG_wp tabL_ok follows (sCheck_p11 x0_0 x0_1 x0_2 x0_3 x0_4 x0_5 x0_6 x0_7 x0_8 x0_9 x0_10 x0_11 x0_12 x0_13 x0_14) ⟨h0, h1, h2, h3, h4, h5, h6, h7, h8, h9, h10, h11, trivial⟩ φ vs w ha
                            simpa only [sCheck, h0, h1, h2, h3, h4, h5, h6, h7, h8, h9, h10, h11, cond_true, cond_false] using e
                          · skip
                            rcases Bool.eq_false_or_eq_true (decide (x0_12 > x0_14)) with h12 | h12
                            · skip
                              have e := evG_wp tabL_ok follows (sCheck_p12 x0_0 x0_1 x0_2 x0_3 x0_4 x0_5 x0_6 x0_7 x0_8 x0_9 x0_10 x0_11 x0_12 x0_13 x0_14) ⟨h0, h1, h2, h3, h4, h5, h6, h7, h8, h9, h10, h11, h12, trivial⟩ φ vs w ha
                              simpa only [sCheck, h0, h1, h2, h3, h4, h5, h6, h7, h8, h9, h10, h11, h12, cond_true, cond_false] using e
                            · skip
                              rcases Bool.eq_false_or_eq_true (decide (x0_14 > 64)) with h13 | h13
                              · skip
                                have e := evG_wp tabL_ok follows (sCheck_p13 x0_0 x0_1 x0_2 x0_3 x0_4 x0_5 x0_6 x0_7 x0_8 x0_9 x0_10 x0_11 x0_12 x0_13 x0_14) ⟨h0, h1, h2, h3, h4, h5, h6, h7, h8, h9, h10, h11, h12, h13, trivial⟩ φ vs w ha
                                simpa only [sCheck, h0, h1, h2, h3, h4, h5, h6, h7, h8, h9, h10, h11, h12, h13, cond_true, cond_false] using e
                              · skip
                                have e := evG_wp tabL_ok follows (sCheck_p14 x0_0 x0_1 x0_2 x0_3 x0_4 x0_5 x0_6 x0_7 x0_8 x0_9 x0_10 x0_11 x0_12 x0_13 x0_14) ⟨h0, h1, h2, h3, h4, h5, h6, h7, h8, h9, h10, h11, h12, h13, trivial⟩ φ vs w ha
                                simpa only [sCheck, h0, h1, h2, h3, h4, h5, h6, h7, h8, h9, h10, h11, h12, h13, cond_false] using e
  · cases h
theorem sCheck_en : Enters Try.prog 80 := fun args => by kernel_rfl

/-! (azulejo/azulejolaw03.Small).Tri -/
def lSmallTri_0 (x0_0 : Int) (x0_1 : Int) (x0_2 : Int) (x0_3 : Int) (x0_4 : Int) (x0_5 : Int) : Int := IntKind.wrap IntKind.i64 x0_0
def lSmallTri_1 (x0_0 : Int) (x0_1 : Int) (x0_2 : Int) (x0_3 : Int) (x0_4 : Int) (x0_5 : Int) : Int := IntKind.wrap IntKind.i64 x0_1
def lSmallTri_2 (x0_0 : Int) (x0_1 : Int) (x0_2 : Int) (x0_3 : Int) (x0_4 : Int) (x0_5 : Int) : Int := IntKind.wrap IntKind.i64 x0_2
def lSmallTri_3 (x0_0 : Int) (x0_1 : Int) (x0_2 : Int) (x0_3 : Int) (x0_4 : Int) (x0_5 : Int) : Int := IntKind.wrap IntKind.i64 x0_3
def lSmallTri_4 (x0_0 : Int) (x0_1 : Int) (x0_2 : Int) (x0_3 : Int) (x0_4 : Int) (x0_5 : Int) : Int := IntKind.wrap IntKind.i64 x0_4
def lSmallTri_5 (x0_0 : Int) (x0_1 : Int) (x0_2 : Int) (x0_3 : Int) (x0_4 : Int) (x0_5 : Int) : Int := IntKind.wrap IntKind.i64 x0_5
theorem lSmallTri_p0 (x0_0 : Int) (x0_1 : Int) (x0_2 : Int) (x0_3 : Int) (x0_4 : Int) (x0_5 : Int) : evG Try.prog tabL 2000 42 [.k, .k, .k, .k, .k, .k, .k, .k, .k, .k, .k, .k, .k, .k, .k, .k] [.g [.int .i8 x0_0, .int .i8 x0_1, .int .i8 x0_2, .int .i8 x0_3, .int .i8 x0_4, .int .i8 x0_5]] = some ([], .g [.int .i64 (IntKind.wrap IntKind.i64 x0_0), .int .i64 (IntKind.wrap IntKind.i64 x0_1), .int .i64 (IntKind.wrap IntKind.i64 x0_2), .int .i64 (IntKind.wrap IntKind.i64 x0_3), .int .i64 (IntKind.wrap IntKind.i64 x0_4), .int .i64 (IntKind.wrap IntKind.i64 x0_5)]) := by kernel_rfl
def lSmallTri_c : Con
  | [.g [.int .i8 x0_0, .int .i8 x0_1, .int .i8 x0_2, .int .i8 x0_3, .int .i8 x0_4, .int .i8 x0_5]] => some ([], .g [.int .i64 (lSmallTri_0 x0_0 x0_1 x0_2 x0_3 x0_4 x0_5), .int .i64 (lSmallTri_1 x0_0 x0_1 x0_2 x0_3 x0_4 x0_5), .int .i64 (lSmallTri_2 x0_0 x0_1 x0_2 x0_3 x0_4 x0_5), .int .i64 (lSmallTri_3 x0_0 x0_1 x0_2 x0_3 x0_4 x0_5), .int .i64 (lSmallTri_4 x0_0 x0_1 x0_2 x0_3 x0_4 x0_5), .int .i64 (lSmallTri_5 x0_0 x0_1 x0_2 x0_3 x0_4 x0_5)])
  | _ => none
theorem lSmallTri_ok : PureOK Try.prog 42 lSmallTri_c := by
  intro args obs lv h ho φ vs w ha
  unfold lSmallTri_c at h
  split at h
  · simp only [Option.some.injEq, Prod.mk.injEq] at h
    obtain ⟨rfl, rfl⟩ := h
    rename_i x0_0 x0_1 x0_2 x0_3 x0_4 x0_5
    have e := evG_wp tabL_ok follows (lSmallTri_p0 x0_0 x0_1 x0_2 x0_3 x0_4 x0_5) trivial φ vs w ha
    simpa only [lSmallTri_0, lSmallTri_1, lSmallTri_2, lSmallTri_3, lSmallTri_4, lSmallTri_5] using e
  · cases h
theorem lSmallTri_en : Enters Try.prog 42 := fun args => by kernel_rfl

/-! azulejo/azulejolaw03.ref -/
def lRef_0 (x0_0 : Int) (x0_1 : Int) (x0_2 : Int) (x0_3 : Int) (x0_4 : Int) (x0_5 : Int) : Int := x0_0
def lRef_1 (x0_0 : Int) (x0_1 : Int) (x0_2 : Int) (x0_3 : Int) (x0_4 : Int) (x0_5 : Int) : Int := x0_1
def lRef_2 (x0_0 : Int) (x0_1 : Int) (x0_2 : Int) (x0_3 : Int) (x0_4 : Int) (x0_5 : Int) : Int := x0_2
def lRef_3 (x0_0 : Int) (x0_1 : Int) (x0_2 : Int) (x0_3 : Int) (x0_4 : Int) (x0_5 : Int) : Int := x0_3
def lRef_4 (x0_0 : Int) (x0_1 : Int) (x0_2 : Int) (x0_3 : Int) (x0_4 : Int) (x0_5 : Int) : Int := x0_4
def lRef_5 (x0_0 : Int) (x0_1 : Int) (x0_2 : Int) (x0_3 : Int) (x0_4 : Int) (x0_5 : Int) : Int := x0_5
theorem lRef_p0 (x0_0 : Int) (x0_1 : Int) (x0_2 : Int) (x0_3 : Int) (x0_4 : Int) (x0_5 : Int) : evG Try.prog tabL 2000 46 [.k, .k, .k, .k, .k, .k] [.g [.int .i64 x0_0, .int .i64 x0_1, .int .i64 x0_2, .int .i64 x0_3, .int .i64 x0_4, .int .i64 x0_5]] = some ([], .g [.int .i64 (x0_0), .int .i64 (x0_1), .int .i64 (x0_2), .int .i64 (x0_3), .int .i64 (x0_4), .int .i64 (x0_5)]) := by kernel_rfl
def lRef_c : Con
  | [.g [.int .i64 x0_0, .int .i64 x0_1, .int .i64 x0_2, .int .i64 x0_3, .int .i64 x0_4, .int .i64 x0_5]] => some ([], .g [.int .i64 (lRef_0 x0_0 x0_1 x0_2 x0_3 x0_4 x0_5), .int .i64 (lRef_1 x0_0 x0_1 x0_2 x0_3 x0_4 x0_5), .int .i64 (lRef_2 x0_0 x0_1 x0_2 x0_3 x0_4 x0_5), .int .i64 (lRef_3 x0_0 x0_1 x0_2 x0_3 x0_4 x0_5), .int .i64 (lRef_4 x0_0 x0_1 x0_2 x0_3 x0_4 x0_5), .int .i64 (lRef_5 x0_0 x0_1 x0_2 x0_3 x0_4 x0_5)])
  | _ => none
theorem lRef_ok : PureOK Try.prog 46 lRef_c := by
  intro args obs lv h ho φ vs w ha
  unfold lRef_c at h
  split at h
  · simp only [Option.some.injEq, Prod.mk.injEq] at h
    obtain ⟨rfl, rfl⟩ := h
    rename_i x0_0 x0_1 x0_2 x0_3 x0_4 x0_5
    have e := evG_wp tabL_ok follows (lRef_p0 x0_0 x0_1 x0_2 x0_3 x0_4 x0_5) trivial φ vs w ha
    simpa only [lRef_0, lRef_1, lRef_2, lRef_3, lRef_4, lRef_5] using e
  · cases h
theorem lRef_en : Enters Try.prog 46 := fun args => by kernel_rfl

def tabLa : Tab := (24, fWithin_c) :: (25, rClamp_c) :: (77, rNear_c) :: (78, bTiles_c) :: (54, bIn_c) :: (29, fFloor_c) :: (59, sHolds_c) :: (60, rHolds_c) :: (61, sDo_c) :: (62, rDo_c) :: (79, sPlain_c) :: (43, eTurned_c) :: (37, eAt_c) :: (49, eNear2_c) :: (56, bMeet_c) :: (80, sCheck_c) :: (42, lSmallTri_c) :: (46, lRef_c) :: tabL
theorem tabLa_ok : TOK Try.prog tabLa := TOK.cons fWithin_en fWithin_ok (TOK.cons rClamp_en rClamp_ok (TOK.cons rNear_en rNear_ok (TOK.cons bTiles_en bTiles_ok (TOK.cons bIn_en bIn_ok (TOK.cons fFloor_en fFloor_ok (TOK.cons sHolds_en sHolds_ok (TOK.cons rHolds_en rHolds_ok (TOK.cons sDo_en sDo_ok (TOK.cons rDo_en rDo_ok (TOK.cons sPlain_en sPlain_ok (TOK.cons eTurned_en eTurned_ok (TOK.cons eAt_en eAt_ok (TOK.cons eNear2_en eNear2_ok (TOK.cons bMeet_en bMeet_ok (TOK.cons sCheck_en sCheck_ok (TOK.cons lSmallTri_en lSmallTri_ok (TOK.cons lRef_en lRef_ok (tabL_ok))))))))))))))))))

end Go.Proofs.Ythgjacfikicgnaa
