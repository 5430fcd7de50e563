/-
  A round of the law's loop on triangles (printed by tools/gengg.py).
-/
import Derived.Test.YtbdmaepooahplaaGf
namespace Go.Proofs.Ytbdmaepooahplaa
open Go Go.RowKit Go.Proofs.Ytbdmaepooahplaa.V
set_option linter.unusedVariables false
set_option linter.unusedSectionVars false
set_option linter.unusedSimpArgs false

theorem mk_none (a b c d e f k : Int) : sMake_24 a b c d e f k = !sMake_s2 a b c d e f k := mk_24 a b c d e f k
def e0 (v : lMakes_l253_T) (j : Nat) : Int := rget v.a5 (Int.toNat 0) j
def e1 (v : lMakes_l253_T) (j : Nat) : Int := rget v.a5 (Int.toNat v.a4) j
def e2 (v : lMakes_l253_T) (j : Nat) : Int := rget v.a5 (Int.toNat (lMakes_l253_s0 v)) j

theorem mk_s64 (v : lMakes_l253_T) (A : Sh (e0 v 0) (e0 v 1) (e0 v 2) (e0 v 3) (e0 v 4) (e0 v 5) (e0 v 6) (e0 v 7)) (B : Sh (e1 v 0) (e1 v 1) (e1 v 2) (e1 v 3) (e1 v 4) (e1 v 5) (e1 v 6) (e1 v 7)) (C : Sh (e2 v 0) (e2 v 1) (e2 v 2) (e2 v 3) (e2 v 4) (e2 v 5) (e2 v 6) (e2 v 7)) (hw : 1 ≤ v.a2 ∧ v.a2 ≤ 64) (hh : 1 ≤ v.a3 ∧ v.a3 ≤ 64) (hk : IntKind.wrap .i64 (Int.tmod v.a0 3) = Int.tmod v.a0 3)
    (hc : lMakes_l253_s24 v = true → sCheck_0 (lMakes_l253_s25 v) (lMakes_l253_s26 v) (lMakes_l253_s27 v) (lMakes_l253_s28 v) (lMakes_l253_s29 v) (lMakes_l253_s30 v) (lMakes_l253_s31 v) (lMakes_l253_s34 v) (lMakes_l253_s35 v) (lMakes_l253_s36 v) (lMakes_l253_s37 v) (lMakes_l253_s38 v) (lMakes_l253_s40 v) (lMakes_l253_s42 v) (lMakes_l253_s44 v) (lMakes_l253_s46 v) (lMakes_l253_s49 v) (lMakes_l253_s52 v) (lMakes_l253_s55 v) (lMakes_l253_s58 v) (lMakes_l253_s59 v) (lMakes_l253_s60 v) (lMakes_l253_s61 v) (lMakes_l253_s62 v) = 0)
    (hz : lMakes_l253_s24 v = false → lMakes_l253_s63 v = false) : lMakes_l253_s64 v = false := by
  have m24 := md_24 A B C hw hh (Int.tmod v.a0 3)
  have m0 := md_0 A B C hw hh (Int.tmod v.a0 3)
  have m1 := md_1 A B C hw hh (Int.tmod v.a0 3)
  have m2 := md_2 A B C hw hh (Int.tmod v.a0 3)
  have m3 := md_3 A B C hw hh (Int.tmod v.a0 3)
  have m4 := md_4 A B C hw hh (Int.tmod v.a0 3)
  have m5 := md_5 A B C hw hh (Int.tmod v.a0 3)
  have m6 := md_6 A B C hw hh (Int.tmod v.a0 3)
  have m7 := md_7 A B C hw hh (Int.tmod v.a0 3)
  have m8 := md_8 A B C hw hh (Int.tmod v.a0 3)
  have m9 := md_9 A B C hw hh (Int.tmod v.a0 3)
  have m10 := md_10 A B C hw hh (Int.tmod v.a0 3)
  have m11 := md_11 A B C hw hh (Int.tmod v.a0 3)
  have m12 := md_12 A B C hw hh (Int.tmod v.a0 3)
  have m13 := md_13 A B C hw hh (Int.tmod v.a0 3)
  have m14 := md_14 A B C hw hh (Int.tmod v.a0 3)
  have m15 := md_15 A B C hw hh (Int.tmod v.a0 3)
  have m16 := md_16 A B C hw hh (Int.tmod v.a0 3)
  have m17 := md_17 A B C hw hh (Int.tmod v.a0 3)
  have m18 := md_18 A B C hw hh (Int.tmod v.a0 3)
  have m19 := md_19 A B C hw hh (Int.tmod v.a0 3)
  have m20 := md_20 A B C hw hh (Int.tmod v.a0 3)
  have m21 := md_21 A B C hw hh (Int.tmod v.a0 3)
  have m22 := md_22 A B C hw hh (Int.tmod v.a0 3)
  have m23 := md_23 A B C hw hh (Int.tmod v.a0 3)
  have n0 : lMakes_l253_s25 v = _ := m0
  have n1 : lMakes_l253_s26 v = _ := m1
  have n2 : lMakes_l253_s27 v = _ := m2
  have n3 : lMakes_l253_s28 v = _ := m3
  have n4 : lMakes_l253_s29 v = _ := m4
  have n5 : lMakes_l253_s30 v = _ := m5
  have n6 : lMakes_l253_s31 v = _ := m6
  have n7 : lMakes_l253_s34 v = _ := m7
  have n8 : lMakes_l253_s35 v = _ := m8
  have n9 : lMakes_l253_s36 v = _ := m9
  have n10 : lMakes_l253_s37 v = _ := m10
  have n11 : lMakes_l253_s38 v = _ := m11
  have n12 : lMakes_l253_s40 v = _ := m12
  have n13 : lMakes_l253_s42 v = _ := m13
  have n14 : lMakes_l253_s44 v = _ := m14
  have n15 : lMakes_l253_s46 v = _ := m15
  have n16 : lMakes_l253_s49 v = _ := m16
  have n17 : lMakes_l253_s52 v = _ := m17
  have n18 : lMakes_l253_s55 v = _ := m18
  have n19 : lMakes_l253_s58 v = _ := m19
  have n20 : lMakes_l253_s59 v = _ := m20
  have n21 : lMakes_l253_s60 v = _ := m21
  have n22 : lMakes_l253_s61 v = _ := m22
  have n23 : lMakes_l253_s62 v = _ := m23
  have n24 : lMakes_l253_s24 v = _ := m24
  unfold lMakes_l253_s64
  rw [hk]
  have q : ∀ x : Int, (x == x) = true := fun x => beq_self_eq_true x
  simp only [e0, e1, e2] at n0 n1 n2 n3 n4 n5 n6 n7 n8 n9 n10 n11 n12 n13 n14 n15 n16 n17 n18 n19 n20 n21 n22 n23 n24
  simp only [lMakes_l253_s2, lMakes_l253_s3, lMakes_l253_s4, lMakes_l253_s5, lMakes_l253_s39, lMakes_l253_s41, lMakes_l253_s43, lMakes_l253_s45] at n0 n1 n2 n3 n4 n5 n6 n7 n8 n9 n10 n11 n12 n13 n14 n15 n16 n17 n18 n19 n20 n21 n22 n23 n24 ⊢
  rcases Bool.eq_false_or_eq_true (lMakes_l253_s24 v) with h | h
  · have hs : lMakes_l253_s63 v = false := by unfold lMakes_l253_s63; rw [h]; rfl
    rw [hc h, hs, n0, n1, n2, n3, n4, n5, n6, n7, n8, n9, n10, n11, n12, n13, n14, n15, n16, n17, n18, n19, n20, n21, n22, n23, n24]
    rw [n24] at h
    simp only [q, h, Bool.and_self, Bool.not_true, cond_false, cond_true, bne_self_eq_false, beq_self_eq_true]
  · rw [hz h]
    rw [n24] at h ⊢
    simp only [q, h, Bool.not_true, cond_false, beq_self_eq_true]

end Go.Proofs.Ytbdmaepooahplaa
