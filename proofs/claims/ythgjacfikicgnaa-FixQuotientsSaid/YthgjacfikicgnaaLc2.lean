/-
  Contracts of functions of the program, each run on the local memory (printed by a program of this session's own: wip/tools).
-/
import Derived.Test.YthgjacfikicgnaaLc
namespace Go.Proofs.Ythgjacfikicgnaa
open Go Go.RowKit Go.Proofs.Ythgjacfikicgnaa.K
set_option linter.unusedVariables false

/-! azulejo/azulejoref01.Floor -/
def rFloor (x0 : Int) (x1 : Int) : Int := (bif x1 == 0 then 0 else (bif decide (x1 < 0) then rFloorA (IntKind.wrap IntKind.i64 (0 - x0)) (IntKind.wrap IntKind.i64 (0 - x1)) else (bif decide (x0 ≥ 0) then IntKind.wrap IntKind.i64 (Int.tdiv x0 x1) else IntKind.wrap IntKind.i64 (0 - IntKind.wrap IntKind.i64 (Int.tdiv (IntKind.wrap IntKind.i64 (IntKind.wrap IntKind.i64 (x1 - 1) - x0)) x1)))))
theorem rFloor_p0 (x0 : Int) (x1 : Int) : evG Try.prog tabLc 2000 26 [.t] [.a (.int .i64 x0), .a (.int .i64 x1)] = some ([(x1 == 0) = true], .a (.int .i64 (0))) := by kernel_rfl
theorem rFloor_p1 (x0 : Int) (x1 : Int) : evG Try.prog tabLc 2000 26 [.f, .t] [.a (.int .i64 x0), .a (.int .i64 x1)] = some ([(x1 == 0) = false, decide (x1 < 0) = true, decide (IntKind.wrap IntKind.i64 (0 - x1) < 0) = false], .a (.int .i64 (rFloorA (IntKind.wrap IntKind.i64 (0 - x0)) (IntKind.wrap IntKind.i64 (0 - x1))))) := by kernel_rfl
theorem rFloor_p2 (x0 : Int) (x1 : Int) : evG Try.prog tabLc 2000 26 [.f, .f, .t, .t] [.a (.int .i64 x0), .a (.int .i64 x1)] = some ([(x1 == 0) = false, decide (x1 < 0) = false, decide (x0 ≥ 0) = true, x1 ≠ 0], .a (.int .i64 (IntKind.wrap IntKind.i64 (Int.tdiv x0 x1)))) := by kernel_rfl
theorem rFloor_p3 (x0 : Int) (x1 : Int) : evG Try.prog tabLc 2000 26 [.f, .f, .f, .t] [.a (.int .i64 x0), .a (.int .i64 x1)] = some ([(x1 == 0) = false, decide (x1 < 0) = false, decide (x0 ≥ 0) = false, x1 ≠ 0], .a (.int .i64 (IntKind.wrap IntKind.i64 (0 - IntKind.wrap IntKind.i64 (Int.tdiv (IntKind.wrap IntKind.i64 (IntKind.wrap IntKind.i64 (x1 - 1) - x0)) x1))))) := by kernel_rfl
def rFloor_c : Con
  | [.a (.int .i64 x0), .a (.int .i64 x1)] => some ([(x1 == 0) = false → (decide (x1 < 0)) = true → decide (IntKind.wrap IntKind.i64 (0 - x1) < 0) = false], .a (.int .i64 (rFloor x0 x1)))
  | _ => none
theorem rFloor_ok : PureOK Try.prog 26 rFloor_c := by
  intro args obs lv h ho φ vs w ha
  unfold rFloor_c at h
  split at h
  · simp only [Option.some.injEq, Prod.mk.injEq] at h
    obtain ⟨rfl, rfl⟩ := h
    rename_i x0 x1
    rcases Bool.eq_false_or_eq_true (x1 == 0) with h0 | h0
    · skip
      have e := evG_wp tabLc_ok follows (rFloor_p0 x0 x1) ⟨h0, trivial⟩ φ vs w ha
      simpa only [rFloor, h0, cond_true] using e
    · skip
      rcases Bool.eq_false_or_eq_true (decide (x1 < 0)) with h1 | h1
      · skip
        have e := evG_wp tabLc_ok follows (rFloor_p1 x0 x1) ⟨h0, h1, (ho.1 h0 h1), trivial⟩ φ vs w ha
        simpa only [rFloor, h0, h1, cond_true, cond_false] using e
      · skip
        rcases Bool.eq_false_or_eq_true (decide (x0 ≥ 0)) with h2 | h2
        · skip
          have e := evG_wp tabLc_ok follows (rFloor_p2 x0 x1) ⟨h0, h1, h2, (by (try simp at *) <;> (try omega)), trivial⟩ φ vs w ha
          simpa only [rFloor, h0, h1, h2, cond_true, cond_false] using e
        · skip
          have e := evG_wp tabLc_ok follows (rFloor_p3 x0 x1) ⟨h0, h1, h2, (by (try simp at *) <;> (try omega)), trivial⟩ φ vs w ha
          simpa only [rFloor, h0, h1, h2, cond_false] using e
  · cases h
theorem rFloor_en : Enters Try.prog 26 := fun args => by kernel_rfl

def tabLc2 : Tab := (26, rFloor_c) :: tabLc
theorem tabLc2_ok : TOK Try.prog tabLc2 := TOK.cons rFloor_en rFloor_ok (tabLc_ok)

end Go.Proofs.Ythgjacfikicgnaa
