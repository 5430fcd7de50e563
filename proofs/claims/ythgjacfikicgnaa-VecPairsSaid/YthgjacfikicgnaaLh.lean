/-
  Contracts of functions of the program, each run on the local memory (printed by a program of this session's own: wip/tools).
-/
import Derived.Test.YthgjacfikicgnaaLg
namespace Go.Proofs.Ythgjacfikicgnaa
open Go Go.RowKit Go.Proofs.Ythgjacfikicgnaa.K
set_option linter.unusedVariables false

/-! azulejo/azulejolaw01.FixSums -/
def lFixSums (x0 : Int) (x1 : Int) (x2 : Int) (x3 : Int) : Bool := (bif fClamp x0 != rClamp x0 then false else (bif fAdd x0 x1 != rClamp (IntKind.wrap IntKind.i64 (rClamp x0 + rClamp x1)) then false else (bif fSub x0 x1 != rClamp (IntKind.wrap IntKind.i64 (rClamp x0 - rClamp x1)) then false else (bif fMul x0 x1 != rMul (rClamp x0) (rClamp x1) then false else (bif fClamp (IntKind.wrap IntKind.i64 x2) != rClamp (IntKind.wrap IntKind.i64 x2) then false else (bif fAdd (IntKind.wrap IntKind.i64 x2) (IntKind.wrap IntKind.i64 x3) != rClamp (IntKind.wrap IntKind.i64 (rClamp (IntKind.wrap IntKind.i64 x2) + rClamp (IntKind.wrap IntKind.i64 x3))) then false else (bif fSub (IntKind.wrap IntKind.i64 x2) (IntKind.wrap IntKind.i64 x3) != rClamp (IntKind.wrap IntKind.i64 (rClamp (IntKind.wrap IntKind.i64 x2) - rClamp (IntKind.wrap IntKind.i64 x3))) then false else (bif fMul (IntKind.wrap IntKind.i64 x2) (IntKind.wrap IntKind.i64 x3) != rMul (rClamp (IntKind.wrap IntKind.i64 x2)) (rClamp (IntKind.wrap IntKind.i64 x3)) then false else true))))))))
theorem lFixSums_p0 (x0 : Int) (x1 : Int) (x2 : Int) (x3 : Int) : evG Try.prog tabLg 2000 5 [.k, .k, .k, .k, .k, .k, .k, .k, .t, .k, .k, .k, .k, .k, .k, .k] [.a (.int .i64 x0), .a (.int .i64 x1), .a (.int .i32 x2), .a (.int .i32 x3)] = some ([(fClamp x0 != rClamp x0) = true], .a (.bool (false))) := by kernel_rfl
theorem lFixSums_p1 (x0 : Int) (x1 : Int) (x2 : Int) (x3 : Int) : evG Try.prog tabLg 2000 5 [.k, .k, .k, .k, .k, .k, .k, .k, .f, .k, .k, .k, .t, .k, .k, .k, .k, .k, .k] [.a (.int .i64 x0), .a (.int .i64 x1), .a (.int .i32 x2), .a (.int .i32 x3)] = some ([(fClamp x0 != rClamp x0) = false, (fAdd x0 x1 != rClamp (IntKind.wrap IntKind.i64 (rClamp x0 + rClamp x1))) = true], .a (.bool (false))) := by kernel_rfl
theorem lFixSums_p2 (x0 : Int) (x1 : Int) (x2 : Int) (x3 : Int) : evG Try.prog tabLg 2000 5 [.k, .k, .k, .k, .k, .k, .k, .k, .f, .k, .k, .k, .f, .k, .k, .k, .k, .t, .k, .k, .k, .k] [.a (.int .i64 x0), .a (.int .i64 x1), .a (.int .i32 x2), .a (.int .i32 x3)] = some ([(fClamp x0 != rClamp x0) = false, (fAdd x0 x1 != rClamp (IntKind.wrap IntKind.i64 (rClamp x0 + rClamp x1))) = false, (fSub x0 x1 != rClamp (IntKind.wrap IntKind.i64 (rClamp x0 - rClamp x1))) = true], .a (.bool (false))) := by kernel_rfl
theorem lFixSums_p3 (x0 : Int) (x1 : Int) (x2 : Int) (x3 : Int) : evG Try.prog tabLg 2000 5 [.k, .k, .k, .k, .k, .k, .k, .k, .f, .k, .k, .k, .f, .k, .k, .k, .k, .f, .k, .k, .k, .k, .t, .k, .k] [.a (.int .i64 x0), .a (.int .i64 x1), .a (.int .i32 x2), .a (.int .i32 x3)] = some ([(fClamp x0 != rClamp x0) = false, (fAdd x0 x1 != rClamp (IntKind.wrap IntKind.i64 (rClamp x0 + rClamp x1))) = false, (fSub x0 x1 != rClamp (IntKind.wrap IntKind.i64 (rClamp x0 - rClamp x1))) = false, (fMul x0 x1 != rMul (rClamp x0) (rClamp x1)) = true], .a (.bool (false))) := by kernel_rfl
theorem lFixSums_p4 (x0 : Int) (x1 : Int) (x2 : Int) (x3 : Int) : evG Try.prog tabLg 2000 5 [.k, .k, .k, .k, .k, .k, .k, .k, .f, .k, .k, .k, .f, .k, .k, .k, .k, .f, .k, .k, .k, .k, .f, .k, .k, .k, .k, .k, .k, .t, .k, .k, .k, .k, .k, .k, .k] [.a (.int .i64 x0), .a (.int .i64 x1), .a (.int .i32 x2), .a (.int .i32 x3)] = some ([(fClamp x0 != rClamp x0) = false, (fAdd x0 x1 != rClamp (IntKind.wrap IntKind.i64 (rClamp x0 + rClamp x1))) = false, (fSub x0 x1 != rClamp (IntKind.wrap IntKind.i64 (rClamp x0 - rClamp x1))) = false, (fMul x0 x1 != rMul (rClamp x0) (rClamp x1)) = false, (fClamp (IntKind.wrap IntKind.i64 x2) != rClamp (IntKind.wrap IntKind.i64 x2)) = true], .a (.bool (false))) := by kernel_rfl
theorem lFixSums_p5 (x0 : Int) (x1 : Int) (x2 : Int) (x3 : Int) : evG Try.prog tabLg 2000 5 [.k, .k, .k, .k, .k, .k, .k, .k, .f, .k, .k, .k, .f, .k, .k, .k, .k, .f, .k, .k, .k, .k, .f, .k, .k, .k, .k, .k, .k, .f, .k, .k, .k, .t, .k, .k, .k, .k, .k, .k] [.a (.int .i64 x0), .a (.int .i64 x1), .a (.int .i32 x2), .a (.int .i32 x3)] = some ([(fClamp x0 != rClamp x0) = false, (fAdd x0 x1 != rClamp (IntKind.wrap IntKind.i64 (rClamp x0 + rClamp x1))) = false, (fSub x0 x1 != rClamp (IntKind.wrap IntKind.i64 (rClamp x0 - rClamp x1))) = false, (fMul x0 x1 != rMul (rClamp x0) (rClamp x1)) = false, (fClamp (IntKind.wrap IntKind.i64 x2) != rClamp (IntKind.wrap IntKind.i64 x2)) = false, (fAdd (IntKind.wrap IntKind.i64 x2) (IntKind.wrap IntKind.i64 x3) != rClamp (IntKind.wrap IntKind.i64 (rClamp (IntKind.wrap IntKind.i64 x2) + rClamp (IntKind.wrap IntKind.i64 x3)))) = true], .a (.bool (false))) := by kernel_rfl
theorem lFixSums_p6 (x0 : Int) (x1 : Int) (x2 : Int) (x3 : Int) : evG Try.prog tabLg 2000 5 [.k, .k, .k, .k, .k, .k, .k, .k, .f, .k, .k, .k, .f, .k, .k, .k, .k, .f, .k, .k, .k, .k, .f, .k, .k, .k, .k, .k, .k, .f, .k, .k, .k, .f, .k, .k, .k, .k, .t, .k, .k, .k, .k] [.a (.int .i64 x0), .a (.int .i64 x1), .a (.int .i32 x2), .a (.int .i32 x3)] = some ([(fClamp x0 != rClamp x0) = false, (fAdd x0 x1 != rClamp (IntKind.wrap IntKind.i64 (rClamp x0 + rClamp x1))) = false, (fSub x0 x1 != rClamp (IntKind.wrap IntKind.i64 (rClamp x0 - rClamp x1))) = false, (fMul x0 x1 != rMul (rClamp x0) (rClamp x1)) = false, (fClamp (IntKind.wrap IntKind.i64 x2) != rClamp (IntKind.wrap IntKind.i64 x2)) = false, (fAdd (IntKind.wrap IntKind.i64 x2) (IntKind.wrap IntKind.i64 x3) != rClamp (IntKind.wrap IntKind.i64 (rClamp (IntKind.wrap IntKind.i64 x2) + rClamp (IntKind.wrap IntKind.i64 x3)))) = false, (fSub (IntKind.wrap IntKind.i64 x2) (IntKind.wrap IntKind.i64 x3) != rClamp (IntKind.wrap IntKind.i64 (rClamp (IntKind.wrap IntKind.i64 x2) - rClamp (IntKind.wrap IntKind.i64 x3)))) = true], .a (.bool (false))) := by kernel_rfl
theorem lFixSums_p7 (x0 : Int) (x1 : Int) (x2 : Int) (x3 : Int) : evG Try.prog tabLg 2000 5 [.k, .k, .k, .k, .k, .k, .k, .k, .f, .k, .k, .k, .f, .k, .k, .k, .k, .f, .k, .k, .k, .k, .f, .k, .k, .k, .k, .k, .k, .f, .k, .k, .k, .f, .k, .k, .k, .k, .f, .k, .k, .k, .k, .t, .k, .k] [.a (.int .i64 x0), .a (.int .i64 x1), .a (.int .i32 x2), .a (.int .i32 x3)] = some ([(fClamp x0 != rClamp x0) = false, (fAdd x0 x1 != rClamp (IntKind.wrap IntKind.i64 (rClamp x0 + rClamp x1))) = false, (fSub x0 x1 != rClamp (IntKind.wrap IntKind.i64 (rClamp x0 - rClamp x1))) = false, (fMul x0 x1 != rMul (rClamp x0) (rClamp x1)) = false, (fClamp (IntKind.wrap IntKind.i64 x2) != rClamp (IntKind.wrap IntKind.i64 x2)) = false, (fAdd (IntKind.wrap IntKind.i64 x2) (IntKind.wrap IntKind.i64 x3) != rClamp (IntKind.wrap IntKind.i64 (rClamp (IntKind.wrap IntKind.i64 x2) + rClamp (IntKind.wrap IntKind.i64 x3)))) = false, (fSub (IntKind.wrap IntKind.i64 x2) (IntKind.wrap IntKind.i64 x3) != rClamp (IntKind.wrap IntKind.i64 (rClamp (IntKind.wrap IntKind.i64 x2) - rClamp (IntKind.wrap IntKind.i64 x3)))) = false, (fMul (IntKind.wrap IntKind.i64 x2) (IntKind.wrap IntKind.i64 x3) != rMul (rClamp (IntKind.wrap IntKind.i64 x2)) (rClamp (IntKind.wrap IntKind.i64 x3))) = true], .a (.bool (false))) := by kernel_rfl
theorem lFixSums_p8 (x0 : Int) (x1 : Int) (x2 : Int) (x3 : Int) : evG Try.prog tabLg 2000 5 [.k, .k, .k, .k, .k, .k, .k, .k, .f, .k, .k, .k, .f, .k, .k, .k, .k, .f, .k, .k, .k, .k, .f, .k, .k, .k, .k, .k, .k, .f, .k, .k, .k, .f, .k, .k, .k, .k, .f, .k, .k, .k, .k, .f, .k, .k, .k] [.a (.int .i64 x0), .a (.int .i64 x1), .a (.int .i32 x2), .a (.int .i32 x3)] = some ([(fClamp x0 != rClamp x0) = false, (fAdd x0 x1 != rClamp (IntKind.wrap IntKind.i64 (rClamp x0 + rClamp x1))) = false, (fSub x0 x1 != rClamp (IntKind.wrap IntKind.i64 (rClamp x0 - rClamp x1))) = false, (fMul x0 x1 != rMul (rClamp x0) (rClamp x1)) = false, (fClamp (IntKind.wrap IntKind.i64 x2) != rClamp (IntKind.wrap IntKind.i64 x2)) = false, (fAdd (IntKind.wrap IntKind.i64 x2) (IntKind.wrap IntKind.i64 x3) != rClamp (IntKind.wrap IntKind.i64 (rClamp (IntKind.wrap IntKind.i64 x2) + rClamp (IntKind.wrap IntKind.i64 x3)))) = false, (fSub (IntKind.wrap IntKind.i64 x2) (IntKind.wrap IntKind.i64 x3) != rClamp (IntKind.wrap IntKind.i64 (rClamp (IntKind.wrap IntKind.i64 x2) - rClamp (IntKind.wrap IntKind.i64 x3)))) = false, (fMul (IntKind.wrap IntKind.i64 x2) (IntKind.wrap IntKind.i64 x3) != rMul (rClamp (IntKind.wrap IntKind.i64 x2)) (rClamp (IntKind.wrap IntKind.i64 x3))) = false], .a (.bool (true))) := by kernel_rfl
def lFixSums_c : Con
  | [.a (.int .i64 x0), .a (.int .i64 x1), .a (.int .i32 x2), .a (.int .i32 x3)] => some ([], .a (.bool (lFixSums x0 x1 x2 x3)))
  | _ => none
theorem lFixSums_ok : PureOK Try.prog 5 lFixSums_c := by
  intro args obs lv h ho φ vs w ha
  unfold lFixSums_c at h
  split at h
  · simp only [Option.some.injEq, Prod.mk.injEq] at h
    obtain ⟨rfl, rfl⟩ := h
    rename_i x0 x1 x2 x3
    rcases Bool.eq_false_or_eq_true (fClamp x0 != rClamp x0) with h0 | h0
    · skip
      have e := evG_wp tabLg_ok follows (lFixSums_p0 x0 x1 x2 x3) ⟨h0, trivial⟩ φ vs w ha
      simpa only [lFixSums, h0, cond_true] using e
    · skip
      rcases Bool.eq_false_or_eq_true (fAdd x0 x1 != rClamp (IntKind.wrap IntKind.i64 (rClamp x0 + rClamp x1))) with h1 | h1
      · skip
        have e := evG_wp tabLg_ok follows (lFixSums_p1 x0 x1 x2 x3) ⟨h0, h1, trivial⟩ φ vs w ha
        simpa only [lFixSums, h0, h1, cond_true, cond_false] using e
      · skip
        rcases Bool.eq_false_or_eq_true (fSub x0 x1 != rClamp (IntKind.wrap IntKind.i64 (rClamp x0 - rClamp x1))) with h2 | h2
        · skip
          have e := evG_wp tabLg_ok follows (lFixSums_p2 x0 x1 x2 x3) ⟨h0, h1, h2, trivial⟩ φ vs w ha
          simpa only [lFixSums, h0, h1, h2, cond_true, cond_false] using e
        · skip
          rcases Bool.eq_false_or_eq_true (fMul x0 x1 != rMul (rClamp x0) (rClamp x1)) with h3 | h3
          · skip
            have e := evG_wp tabLg_ok follows (lFixSums_p3 x0 x1 x2 x3) ⟨h0, h1, h2, h3, trivial⟩ φ vs w ha
            simpa only [lFixSums, h0, h1, h2, h3, cond_true, cond_false] using e
          · skip
            rcases Bool.eq_false_or_eq_true (fClamp (IntKind.wrap IntKind.i64 x2) != rClamp (IntKind.wrap IntKind.i64 x2)) with h4 | h4
            · skip
              have e := evG_wp tabLg_ok follows (lFixSums_p4 x0 x1 x2 x3) ⟨h0, h1, h2, h3, h4, trivial⟩ φ vs w ha
              simpa only [lFixSums, h0, h1, h2, h3, h4, cond_true, cond_false] using e
            · skip
              rcases Bool.eq_false_or_eq_true (fAdd (IntKind.wrap IntKind.i64 x2) (IntKind.wrap IntKind.i64 x3) != rClamp (IntKind.wrap IntKind.i64 (rClamp (IntKind.wrap IntKind.i64 x2) + rClamp (IntKind.wrap IntKind.i64 x3)))) with h5 | h5
              · skip
                have e := evG_wp tabLg_ok follows (lFixSums_p5 x0 x1 x2 x3) ⟨h0, h1, h2, h3, h4, h5, trivial⟩ φ vs w ha
                simpa only [lFixSums, h0, h1, h2, h3, h4, h5, cond_true, cond_false] using e
              · skip
                rcases Bool.eq_false_or_eq_true (fSub (IntKind.wrap IntKind.i64 x2) (IntKind.wrap IntKind.i64 x3) != rClamp (IntKind.wrap IntKind.i64 (rClamp (IntKind.wrap IntKind.i64 x2) - rClamp (IntKind.wrap IntKind.i64 x3)))) with h6 | h6
                · skip
                  have e := evG_wp tabLg_ok follows (lFixSums_p6 x0 x1 x2 x3) ⟨h0, h1, h2, h3, h4, h5, h6, trivial⟩ φ vs w ha
                  simpa only [lFixSums, h0, h1, h2, h3, h4, h5, h6, cond_true, cond_false] using e
                · skip
                  rcases Bool.eq_false_or_eq_true (fMul (IntKind.wrap IntKind.i64 x2) (IntKind.wrap IntKind.i64 x3) != rMul (rClamp (IntKind.wrap IntKind.i64 x2)) (rClamp (IntKind.wrap IntKind.i64 x3))) with h7 | h7
                  · skip
                    have e := evG_wp tabLg_ok follows (lFixSums_p7 x0 x1 x2 x3) ⟨h0, h1, h2, h3, h4, h5, h6, h7, trivial⟩ φ vs w ha
                    simpa only [lFixSums, h0, h1, h2, h3, h4, h5, h6, h7, cond_true, cond_false] using e
                  · skip
                    have e := evG_wp tabLg_ok follows (lFixSums_p8 x0 x1 x2 x3) ⟨h0, h1, h2, h3, h4, h5, h6, h7, trivial⟩ φ vs w ha
                    simpa only [lFixSums, h0, h1, h2, h3, h4, h5, h6, h7, cond_false] using e
  · cases h
theorem lFixSums_en : Enters Try.prog 5 := fun args => by kernel_rfl

def tabLh : Tab := (5, lFixSums_c) :: tabLg
theorem tabLh_ok : TOK Try.prog tabLh := TOK.cons lFixSums_en lFixSums_ok (tabLg_ok)

end Go.Proofs.Ythgjacfikicgnaa
