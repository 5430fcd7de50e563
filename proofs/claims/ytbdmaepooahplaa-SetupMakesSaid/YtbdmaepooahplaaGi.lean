/-
  What is checked of a triangle is so.
-/
import Derived.Test.YtbdmaepooahplaaGh
namespace Go.Proofs.Ytbdmaepooahplaa
open Go Go.RowKit Go.Proofs.Ytbdmaepooahplaa.V
set_option linter.unusedVariables false
set_option linter.unusedSectionVars false

theorem check_w {a b c d e f z0 z1 z2 n0 n1 n2 k00 k01 k02 k03 k10 k11 k12 k13 k20 k21 k22 k23 : Int} (ha : -16384 ≤ a ∧ a ≤ 16384) (hb : -16384 ≤ b ∧ b ≤ 16384) (hc : -16384 ≤ c ∧ c ≤ 16384) (hd : -16384 ≤ d ∧ d ≤ 16384) (he : -16384 ≤ e ∧ e ≤ 16384) (hf : -16384 ≤ f ∧ f ≤ 16384) (z0_ : 0 ≤ z0 ∧ z0 ≤ 65535) (z1_ : 0 ≤ z1 ∧ z1 ≤ 65535) (z2_ : 0 ≤ z2 ∧ z2 ≤ 65535) (n0_ : 1 ≤ n0 ∧ n0 ≤ 1024) (n1_ : 1 ≤ n1 ∧ n1 ≤ 1024) (n2_ : 1 ≤ n2 ∧ n2 ≤ 1024) (q00 : 0 ≤ k00 ∧ k00 ≤ 65536) (q01 : 0 ≤ k01 ∧ k01 ≤ 65536) (q02 : 0 ≤ k02 ∧ k02 ≤ 65536) (q03 : 0 ≤ k03 ∧ k03 ≤ 65536) (q10 : 0 ≤ k10 ∧ k10 ≤ 65536) (q11 : 0 ≤ k11 ∧ k11 ≤ 65536) (q12 : 0 ≤ k12 ∧ k12 ≤ 65536) (q13 : 0 ≤ k13 ∧ k13 ≤ 65536) (q20 : 0 ≤ k20 ∧ k20 ≤ 65536) (q21 : 0 ≤ k21 ∧ k21 ≤ 65536) (q22 : 0 ≤ k22 ∧ k22 ≤ 65536) (q23 : 0 ≤ k23 ∧ k23 ≤ 65536) (hs : 0 < eSide_0 a b c d e f) : sCheck_0 a b c d e f z0 z1 z2 n0 n1 n2 k00 k01 k02 k03 k10 k11 k12 k13 k20 k21 k22 k23 = 0 := by
  have ea : nc a = a := nc_id ha.1 ha.2
  have eb : nc b = b := nc_id hb.1 hb.2
  have ec : nc c = c := nc_id hc.1 hc.2
  have ed : nc d = d := nc_id hd.1 hd.2
  have ee : nc e = e := nc_id he.1 he.2
  have ef : nc f = f := nc_id hf.1 hf.2
  unfold sCheck_0 sCheck_s0 sCheck_s1
  have ta : tArea_0 a b c d e f = eSide_0 a b c d e f := rfl
  rw [ta, decide_eq_false (show ¬ eSide_0 a b c d e f ≤ 0 by omega), fw, fw, fw, fw, fw, fw, ea, eb, ec, ed, ee, ef, col_0 q00, col_1 q01, col_2 q02, col_3 q03, col_0 q10, col_1 q11, col_2 q12, col_3 q13, col_0 q20, col_1 q21, col_2 q22, col_3 q23,
    decide_eq_false (show ¬ z0 < 0 by omega), decide_eq_false (show ¬ z1 < 0 by omega), decide_eq_false (show ¬ z2 < 0 by omega), decide_eq_false (show ¬ 65535 < z0 by omega), decide_eq_false (show ¬ 65535 < z1 by omega), decide_eq_false (show ¬ 65535 < z2 by omega), decide_eq_false (show ¬ n0 < 1 by omega), decide_eq_false (show ¬ n1 < 1 by omega), decide_eq_false (show ¬ n2 < 1 by omega), decide_eq_false (show ¬ 1024 < n0 by omega), decide_eq_false (show ¬ 1024 < n1 by omega), decide_eq_false (show ¬ 1024 < n2 by omega)]
  simp

end Go.Proofs.Ytbdmaepooahplaa
