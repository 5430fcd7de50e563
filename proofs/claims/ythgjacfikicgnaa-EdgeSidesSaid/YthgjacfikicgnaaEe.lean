/-
  Sides, ways, triangles, against the document's answer.
-/
import Derived.Test.YthgjacfikicgnaaEd
namespace Go.Proofs.Ythgjacfikicgnaa
open Go Go.RowKit

theorem bad2 (a b c d : Int) : (bif !decide (d < b) then !bif d == b then decide (a < c) else false else false) = !ow a b c d := by
  unfold ow
  by_cases h1 : d < b
  · simp [h1]
  · by_cases h2 : d = b
    · subst h2; simp
    · have h3 : ¬ b = d := fun h => h2 h.symm
      simp [h1, h2, h3]

theorem bad3 (w : Int) (o : Bool) : (decide (w < 0) || bif w == 0 then !o else false) = !decide (wok w o) := by
  rw [← bad_iff]
  cases decide (w < 0) <;> rfl

theorem bool6 (l0 r0 l1 r1 l2 r2 : Bool) : (bif l0 || !l0 && r0 || !l0 && !r0 && (l1 || !l1 && r1 || !l1 && !r1 && (l2 || !l2 && r2)) then false else true) = (!(l0 || r0) && (!(l1 || r1) && !(l2 || r2))) := by
  cases l0 <;> cases r0 <;> cases l1 <;> cases r1 <;> cases l2 <;> cases r2 <;> rfl

theorem rcovers_eq (a b c d e f p q : Int) : r1Covers_0 a b c d e f p q = decide (cv (cl a) (cl b) (cl c) (cl d) (cl e) (cl f) (cl p) (cl q)) := by
  unfold r1Covers_0
  rw [bool6]
  unfold r1Covers_s0 r1Covers_s1 r1Covers_s2 r1Covers_s3 r1Covers_s4
  simp only [rside_eq, rn, bad2, bad3]
  unfold cv
  generalize cl a = a
  generalize cl b = b
  generalize cl c = c
  generalize cl d = d
  generalize cl e = e
  generalize cl f = f
  generalize cl p = p
  generalize cl q = q
  by_cases h0 : sd a b c d e f ≤ 0
  · have h0' : ¬ 0 < sd a b c d e f := by omega
    simp [h0, h0']
  · have h0' : 0 < sd a b c d e f := by omega
    by_cases h1 : wok (sd c d e f p q) (ow c d e f) <;> by_cases h2 : wok (sd e f a b p q) (ow e f a b) <;> by_cases h3 : wok (sd a b c d p q) (ow a b c d) <;> simp [h0, h0', h1, h2, h3]

def mn3 (a b c : Int) : Int := if c < if b < a then b else a then c else if b < a then b else a
def mx3 (a b c : Int) : Int := if (if a < b then b else a) < c then c else if a < b then b else a

theorem mn3_le (a b c : Int) : mn3 a b c ≤ a ∧ mn3 a b c ≤ b ∧ mn3 a b c ≤ c := by unfold mn3; repeat' split <;> omega
theorem mx3_ge (a b c : Int) : a ≤ mx3 a b c ∧ b ≤ mx3 a b c ∧ c ≤ mx3 a b c := by unfold mx3; repeat' split <;> omega

theorem b0 (a b c : Int) : eBox_0 a b c = mn3 (cl a) (cl b) (cl c) := by unfold eBox_0 eBox_s0 mn3; simp only [n0]
theorem b1 (a b c : Int) : eBox_1 a b c = mn3 (cl a) (cl b) (cl c) := by unfold eBox_1 eBox_s1 mn3; simp only [n1]
theorem b2 (a b c : Int) : eBox_2 a b c = mx3 (cl a) (cl b) (cl c) := by unfold eBox_2 eBox_s2 mx3; simp only [n0]
theorem b3 (a b c : Int) : eBox_3 a b c = mx3 (cl a) (cl b) (cl c) := by unfold eBox_3 eBox_s3 mx3; simp only [n1]

theorem dn0 (a b c : Int) : decide (a < mn3 a b c) = false := by have := mn3_le a b c; simp; omega
theorem dn1 (a b c : Int) : decide (b < mn3 a b c) = false := by have := mn3_le a b c; simp; omega
theorem dn2 (a b c : Int) : decide (c < mn3 a b c) = false := by have := mn3_le a b c; simp; omega
theorem dx0 (a b c : Int) : decide (mx3 a b c < a) = false := by have := mx3_ge a b c; simp; omega
theorem dx1 (a b c : Int) : decide (mx3 a b c < b) = false := by have := mx3_ge a b c; simp; omega
theorem dx2 (a b c : Int) : decide (mx3 a b c < c) = false := by have := mx3_ge a b c; simp; omega

section
variable (a b c d e f p q : Int)

theorem ss0 : lSides_s0 a b c d e f p q = false := by
  unfold lSides_s0 eArea_0
  simp only [side_eq, rside_eq, covers_eq, rcovers_eq, bne_self_eq_false, beq_self_eq_true, cond_false, Bool.not_true, Bool.and_self]
theorem ss1 : lSides_s1 a b c d e f p q = false := by
  unfold lSides_s1 eWeights_0
  simp only [side_eq, rside_eq, ln, b0, b1, b2, b3, dn0, dx0, bne_self_eq_false, cond_false]
theorem ss2 : lSides_s2 a b c d e f p q = false := by
  unfold lSides_s2 eWeights_1
  simp only [side_eq, rside_eq, ln, b0, b1, b2, b3, dn1, dx1, bne_self_eq_false, cond_false]
theorem ss3 : lSides_s3 a b c d e f p q = false := by
  unfold lSides_s3 eWeights_2
  simp only [side_eq, rside_eq, ln, b0, b1, b2, b3, dn2, dx2, bne_self_eq_false, cond_false]

theorem wsum : IntKind.wrap .i64 (IntKind.wrap .i64 (eWeights_0 c d e f p q + eWeights_1 a b e f p q) + eWeights_2 a b c d p q) = eArea_0 a b c d e f := by
  unfold eWeights_0 eWeights_1 eWeights_2 eArea_0
  simp only [side_eq]
  have e0 := sd_sum (cl a) (cl b) (cl c) (cl d) (cl e) (cl f) (cl p) (cl q)
  have k0 := sd_bd (nr_cl a) (nr_cl b) (nr_cl c) (nr_cl d) (nr_cl p) (nr_cl q)
  have k1 := sd_bd (nr_cl e) (nr_cl f) (nr_cl a) (nr_cl b) (nr_cl p) (nr_cl q)
  have k2 := sd_bd (nr_cl c) (nr_cl d) (nr_cl e) (nr_cl f) (nr_cl p) (nr_cl q)
  rw [w64_in (n := sd (cl c) (cl d) (cl e) (cl f) (cl p) (cl q) + sd (cl e) (cl f) (cl a) (cl b) (cl p) (cl q)) (by omega) (by omega), w64_in (by omega) (by omega)]
  exact e0

theorem ss5 : lSides_s5 a b c d e f p q = false := by
  unfold lSides_s5
  rw [wsum, bne_self_eq_false]

theorem up_eq : (bif decide (lSides1_0 d < lSides1_0 b) then true else bif lSides1_0 d == lSides1_0 b then decide (lSides1_0 a < lSides1_0 c) else false) = eOwns_0 a b c d := by
  rw [owns_eq]
  simp only [ln]
  unfold ow
  generalize cl a = a
  generalize cl b = b
  generalize cl c = c
  generalize cl d = d
  by_cases h1 : d < b
  · simp [h1]
  · by_cases h2 : d = b
    · subst h2; simp
    · have h3 : ¬ b = d := fun h => h2 h.symm
      simp [h1, h2, h3]

theorem ss8 : lSides_s8 a b c d e f = false := by
  unfold lSides_s8 lSides_s6 lSides_s7
  rw [up_eq]
  simp only [ln, b0, b3, mn3, mx3, bne_self_eq_false, beq_self_eq_true, cond_false, Bool.not_true]

theorem ss11 : lSides_s11 a b c d e f p q = false := by
  have := ss0 (IntKind.wrap .i64 a) (IntKind.wrap .i64 b) (IntKind.wrap .i64 c) (IntKind.wrap .i64 d) (IntKind.wrap .i64 e) (IntKind.wrap .i64 f) (IntKind.wrap .i64 p) (IntKind.wrap .i64 q)
  exact this
theorem ss13 : lSides_s13 a b c d e f p q = false := ss1 (IntKind.wrap .i64 a) (IntKind.wrap .i64 b) (IntKind.wrap .i64 c) (IntKind.wrap .i64 d) (IntKind.wrap .i64 e) (IntKind.wrap .i64 f) (IntKind.wrap .i64 p) (IntKind.wrap .i64 q)
theorem ss15 : lSides_s15 a b c d e f p q = false := ss2 (IntKind.wrap .i64 a) (IntKind.wrap .i64 b) (IntKind.wrap .i64 c) (IntKind.wrap .i64 d) (IntKind.wrap .i64 e) (IntKind.wrap .i64 f) (IntKind.wrap .i64 p) (IntKind.wrap .i64 q)
theorem ss17 : lSides_s17 a b c d e f p q = false := ss3 (IntKind.wrap .i64 a) (IntKind.wrap .i64 b) (IntKind.wrap .i64 c) (IntKind.wrap .i64 d) (IntKind.wrap .i64 e) (IntKind.wrap .i64 f) (IntKind.wrap .i64 p) (IntKind.wrap .i64 q)
theorem ss18 : lSides_s18 a b c d e f p q = false := ss5 (IntKind.wrap .i64 a) (IntKind.wrap .i64 b) (IntKind.wrap .i64 c) (IntKind.wrap .i64 d) (IntKind.wrap .i64 e) (IntKind.wrap .i64 f) (IntKind.wrap .i64 p) (IntKind.wrap .i64 q)

end

theorem EdgeSides_0_true (x0_0 x0_1 x0_2 x0_3 x0_4 x0_5 x1_0 x1_1 x1_2 x1_3 x1_4 x1_5 x2_0 x2_1 x3 x4 : Int) : lSides_0 x0_0 x0_1 x0_2 x0_3 x0_4 x0_5 x1_0 x1_1 x1_2 x1_3 x1_4 x1_5 x2_0 x2_1 x3 x4 = true := by
  have h8 := ss8 (IntKind.wrap .i64 x1_0) (IntKind.wrap .i64 x1_1) (IntKind.wrap .i64 x1_2) (IntKind.wrap .i64 x1_3) (IntKind.wrap .i64 x1_4) (IntKind.wrap .i64 x1_5)
  unfold lSides_s8 lSides_s6 lSides_s7 at h8
  unfold lSides_0 lSides_s4 lSides_s19 lSides_s20
  rw [h8]
  simp only [awake, ss0, ss1, ss2, ss3, ss5, ss8, ss11, ss13, ss15, ss17, ss18, Bool.not_true, Bool.not_false, Bool.and_self, Bool.and_false, Bool.or_self, cond_false]

theorem EdgeSides_true (x0_0 : Int) (_ : IntKind.min .i64 ≤ x0_0) (_ : x0_0 ≤ IntKind.max .i64) (x0_1 : Int) (_ : IntKind.min .i64 ≤ x0_1) (_ : x0_1 ≤ IntKind.max .i64) (x0_2 : Int) (_ : IntKind.min .i64 ≤ x0_2) (_ : x0_2 ≤ IntKind.max .i64) (x0_3 : Int) (_ : IntKind.min .i64 ≤ x0_3) (_ : x0_3 ≤ IntKind.max .i64) (x0_4 : Int) (_ : IntKind.min .i64 ≤ x0_4) (_ : x0_4 ≤ IntKind.max .i64) (x0_5 : Int) (_ : IntKind.min .i64 ≤ x0_5) (_ : x0_5 ≤ IntKind.max .i64) (x1_0 : Int) (_ : IntKind.min .i8 ≤ x1_0) (_ : x1_0 ≤ IntKind.max .i8) (x1_1 : Int) (_ : IntKind.min .i8 ≤ x1_1) (_ : x1_1 ≤ IntKind.max .i8) (x1_2 : Int) (_ : IntKind.min .i8 ≤ x1_2) (_ : x1_2 ≤ IntKind.max .i8) (x1_3 : Int) (_ : IntKind.min .i8 ≤ x1_3) (_ : x1_3 ≤ IntKind.max .i8) (x1_4 : Int) (_ : IntKind.min .i8 ≤ x1_4) (_ : x1_4 ≤ IntKind.max .i8) (x1_5 : Int) (_ : IntKind.min .i8 ≤ x1_5) (_ : x1_5 ≤ IntKind.max .i8) (x2_0 : Int) (_ : IntKind.min .i64 ≤ x2_0) (_ : x2_0 ≤ IntKind.max .i64) (x2_1 : Int) (_ : IntKind.min .i64 ≤ x2_1) (_ : x2_1 ≤ IntKind.max .i64) (x3 : Int) (_ : IntKind.min .i8 ≤ x3) (_ : x3 ≤ IntKind.max .i8) (x4 : Int) (_ : IntKind.min .i8 ≤ x4) (_ : x4 ≤ IntKind.max .i8) : lSides_0 x0_0 x0_1 x0_2 x0_3 x0_4 x0_5 x1_0 x1_1 x1_2 x1_3 x1_4 x1_5 x2_0 x2_1 x3 x4 = true := EdgeSides_0_true ..

end Go.Proofs.Ythgjacfikicgnaa
