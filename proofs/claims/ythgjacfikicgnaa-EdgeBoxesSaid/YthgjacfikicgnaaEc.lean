/-
  Sides, ways, triangles: plain facts, and the laws that need no more.
-/
import Derived.Test.YthgjacfikicgnaaEb
namespace Go.Proofs.Ythgjacfikicgnaa
open Go Go.RowKit

theorem sd_rot (a b c d e f : Int) : sd c d e f a b = sd a b c d e f := by unfold sd; grind
theorem sd_rot2 (a b c d e f : Int) : sd e f a b c d = sd a b c d e f := by unfold sd; grind
theorem sd_turn (a b c d e f : Int) : sd a b e f c d = - sd a b c d e f := by unfold sd; grind
theorem sd_swap (a b c d e f : Int) : sd c d a b e f = - sd a b c d e f := by unfold sd; grind
theorem sd_at1 (a b c d : Int) : sd a b c d a b = 0 := by unfold sd; grind
theorem sd_at2 (a b c d : Int) : sd a b c d c d = 0 := by unfold sd; grind
theorem sd_sum (a b c d e f p q : Int) : sd c d e f p q + sd e f a b p q + sd a b c d p q = sd a b c d e f := by unfold sd; grind
theorem sd_x (a b c d e f p q : Int) : sd c d e f p q * a + sd e f a b p q * c + sd a b c d p q * e = sd a b c d e f * p := by unfold sd; grind
theorem sd_y (a b c d e f p q : Int) : sd c d e f p q * b + sd e f a b p q * d + sd a b c d p q * f = sd a b c d e f * q := by unfold sd; grind
theorem sd_move (a b c d e f x y : Int) : sd (a + x) (b + y) (c + x) (d + y) (e + x) (f + y) = sd a b c d e f := by unfold sd; grind
theorem sd_twice (a b c d e f : Int) : sd (2 * a) (2 * b) (2 * c) (2 * d) (2 * e) (2 * f) = 4 * sd a b c d e f := by unfold sd; grind

theorem ow_same (a b : Int) : ow a b a b = false := by unfold ow; simp
theorem ow_anti {a b c d : Int} (h : ¬ (a = c ∧ b = d)) : ow c d a b = !ow a b c d := by
  unfold ow
  by_cases h1 : d < b
  · have e1 : ¬ b < d := by omega
    have e2 : ¬ d = b := by omega
    simp [h1, e1, e2]
  · by_cases h2 : b < d
    · have e2 : ¬ b = d := by omega
      simp [h1, h2, e2]
    · have e : b = d := by omega
      subst e
      by_cases h3 : a < c
      · have : ¬ c < a := by omega
        simp [h3, this]
      · have : c < a := by omega
        simp [h3, this]
theorem ow_move (a b c d x y : Int) : ow (a + x) (b + y) (c + x) (d + y) = ow a b c d := by
  have e1 : (d + y < b + y) = (d < b) := propext ⟨fun h => by omega, fun h => by omega⟩
  have e2 : (b + y = d + y) = (b = d) := propext ⟨fun h => by omega, fun h => by omega⟩
  have e3 : (a + x < c + x) = (a < c) := propext ⟨fun h => by omega, fun h => by omega⟩
  unfold ow
  simp only [e1, e2, e3]
theorem ow_twice (a b c d : Int) : ow (2 * a) (2 * b) (2 * c) (2 * d) = ow a b c d := by
  have e1 : (2 * d < 2 * b) = (d < b) := propext ⟨fun h => by omega, fun h => by omega⟩
  have e2 : (2 * b = 2 * d) = (b = d) := propext ⟨fun h => by omega, fun h => by omega⟩
  have e3 : (2 * a < 2 * c) = (a < c) := propext ⟨fun h => by omega, fun h => by omega⟩
  unfold ow
  simp only [e1, e2, e3]
theorem wok_4 (w : Int) (o : Bool) : wok (4 * w) o ↔ wok w o := by
  have e1 : (0 < 4 * w) = (0 < w) := propext ⟨fun h => by omega, fun h => by omega⟩
  have e2 : (4 * w = 0) = (w = 0) := propext ⟨fun h => by omega, fun h => by omega⟩
  unfold wok
  simp only [e1, e2]

theorem cv_rot (a b c d e f p q : Int) : cv c d e f a b p q ↔ cv a b c d e f p q := by
  unfold cv
  rw [sd_rot a b c d e f]
  exact ⟨fun ⟨h0, h1, h2, h3⟩ => ⟨h0, h3, h1, h2⟩, fun ⟨h0, h1, h2, h3⟩ => ⟨h0, h2, h3, h1⟩⟩
theorem cv_move (a b c d e f p q x y : Int) : cv (a + x) (b + y) (c + x) (d + y) (e + x) (f + y) (p + x) (q + y) ↔ cv a b c d e f p q := by
  unfold cv
  simp only [sd_move, ow_move]
theorem cv_twice (a b c d e f p q : Int) : cv (2 * a) (2 * b) (2 * c) (2 * d) (2 * e) (2 * f) (2 * p) (2 * q) ↔ cv a b c d e f p q := by
  unfold cv
  simp only [sd_twice, ow_twice, wok_4]
  constructor <;> (intro ⟨h0, h⟩; exact ⟨by omega, h⟩)

theorem nr8 {x : Int} (h1 : IntKind.min .i8 ≤ x) (h2 : x ≤ IntKind.max .i8) : Nr x := by
  have e1 : IntKind.min .i8 = -128 := by decide
  have e2 : IntKind.max .i8 = 127 := by decide
  unfold Nr; omega

theorem bcond (a b c : Bool) : (bif a then b else c) = true ↔ (a = true → b = true) ∧ (a = false → c = true) := by cases a <;> simp

theorem EdgeTurns_true (x0_0 : Int) (a0_0 : IntKind.min .i8 ≤ x0_0) (b0_0 : x0_0 ≤ IntKind.max .i8) (x0_1 : Int) (a0_1 : IntKind.min .i8 ≤ x0_1) (b0_1 : x0_1 ≤ IntKind.max .i8) (x0_2 : Int) (a0_2 : IntKind.min .i8 ≤ x0_2) (b0_2 : x0_2 ≤ IntKind.max .i8) (x0_3 : Int) (a0_3 : IntKind.min .i8 ≤ x0_3) (b0_3 : x0_3 ≤ IntKind.max .i8) (x0_4 : Int) (a0_4 : IntKind.min .i8 ≤ x0_4) (b0_4 : x0_4 ≤ IntKind.max .i8) (x0_5 : Int) (a0_5 : IntKind.min .i8 ≤ x0_5) (b0_5 : x0_5 ≤ IntKind.max .i8) (x1 : Int) (a1 : IntKind.min .i8 ≤ x1) (b1 : x1 ≤ IntKind.max .i8) (x2 : Int) (a2 : IntKind.min .i8 ≤ x2) (b2 : x2 ≤ IntKind.max .i8) : lTurns_0 x0_0 x0_1 x0_2 x0_3 x0_4 x0_5 x1 x2 = true := by
  unfold lTurns_0 lTurns_s0 lTurns_s1 eArea_0
  simp only [w8 a0_0 b0_0, w8 a0_1 b0_1, w8 a0_2 b0_2, w8 a0_3 b0_3, w8 a0_4 b0_4, w8 a0_5 b0_5, w8 a1 b1, w8 a2 b2, awake, covers_eq, side_eq, owns_eq, c8 a0_0 b0_0, c8 a0_1 b0_1, c8 a0_2 b0_2, c8 a0_3 b0_3, c8 a0_4 b0_4, c8 a0_5 b0_5, c8 a1 b1, c8 a2 b2]
  have k1 := sd_bd (nr8 a0_0 b0_0) (nr8 a0_1 b0_1) (nr8 a0_2 b0_2) (nr8 a0_3 b0_3) (nr8 a0_4 b0_4) (nr8 a0_5 b0_5)
  have k2 := sd_bd (nr8 a0_2 b0_2) (nr8 a0_3 b0_3) (nr8 a0_0 b0_0) (nr8 a0_1 b0_1) (nr8 a1 b1) (nr8 a2 b2)
  rw [w64_in (n := 0 - sd x0_0 x0_1 x0_2 x0_3 x0_4 x0_5) (by omega) (by omega), w64_in (n := 0 - sd x0_2 x0_3 x0_0 x0_1 x1 x2) (by omega) (by omega)]
  rw [sd_turn x0_0 x0_1 x0_2 x0_3 x0_4 x0_5, sd_rot x0_0 x0_1 x0_2 x0_3 x0_4 x0_5, sd_swap x0_0 x0_1 x0_2 x0_3 x1 x2]
  simp only [cv_rot x0_0 x0_1 x0_2 x0_3 x0_4 x0_5 x1 x2]
  have e1 : sd x0_0 x0_1 x0_2 x0_3 x0_4 x0_5 ≤ 0 ∨ ¬ cv x0_0 x0_1 x0_4 x0_5 x0_2 x0_3 x1 x2 := by
    by_cases h : sd x0_0 x0_1 x0_2 x0_3 x0_4 x0_5 ≤ 0
    · exact .inl h
    · right
      intro hc
      have := hc.1
      rw [sd_turn] at this
      omega
  have e2 : x0_0 = x0_2 ∧ x0_1 = x0_3 ∨ ow x0_2 x0_3 x0_0 x0_1 = !ow x0_0 x0_1 x0_2 x0_3 := by
    by_cases h : x0_0 = x0_2 ∧ x0_1 = x0_3
    · exact .inl h
    · exact .inr (ow_anti h)
  have e3 : sd x0_0 x0_1 x0_2 x0_3 x1 x2 = 0 - -sd x0_0 x0_1 x0_2 x0_3 x1 x2 := by omega
  have e4 : -sd x0_0 x0_1 x0_2 x0_3 x0_4 x0_5 = 0 - sd x0_0 x0_1 x0_2 x0_3 x0_4 x0_5 := by omega
  simp only [← e3, ← e4, beq_self_eq_true, cond_true, Bool.not_true, cond_false]
  have e5 : (bif x0_0 == x0_2 && x0_1 == x0_3 then true else !(ow x0_0 x0_1 x0_2 x0_3 == ow x0_2 x0_3 x0_0 x0_1)) = true := by
    rcases e2 with ⟨h1, h2⟩ | h
    · simp [h1, h2]
    · rw [h]; cases ow x0_0 x0_1 x0_2 x0_3 <;> simp
  rw [e5]
  rcases e1 with h | h <;> simp [h]

theorem EdgeMoves_true (x0_0 : Int) (a0_0 : IntKind.min .i8 ≤ x0_0) (b0_0 : x0_0 ≤ IntKind.max .i8) (x0_1 : Int) (a0_1 : IntKind.min .i8 ≤ x0_1) (b0_1 : x0_1 ≤ IntKind.max .i8) (x0_2 : Int) (a0_2 : IntKind.min .i8 ≤ x0_2) (b0_2 : x0_2 ≤ IntKind.max .i8) (x0_3 : Int) (a0_3 : IntKind.min .i8 ≤ x0_3) (b0_3 : x0_3 ≤ IntKind.max .i8) (x0_4 : Int) (a0_4 : IntKind.min .i8 ≤ x0_4) (b0_4 : x0_4 ≤ IntKind.max .i8) (x0_5 : Int) (a0_5 : IntKind.min .i8 ≤ x0_5) (b0_5 : x0_5 ≤ IntKind.max .i8) (x1 : Int) (a1 : IntKind.min .i8 ≤ x1) (b1 : x1 ≤ IntKind.max .i8) (x2 : Int) (a2 : IntKind.min .i8 ≤ x2) (b2 : x2 ≤ IntKind.max .i8) (x3 : Int) (a3 : IntKind.min .i16 ≤ x3) (b3 : x3 ≤ IntKind.max .i16) (x4 : Int) (a4 : IntKind.min .i16 ≤ x4) (b4 : x4 ≤ IntKind.max .i16) : lMoves_0 x0_0 x0_1 x0_2 x0_3 x0_4 x0_5 x1 x2 x3 x4 = true := by
  have m8 : IntKind.min .i8 = -128 := by decide
  have M8 : IntKind.max .i8 = 127 := by decide
  have m16 : IntKind.min .i16 = -32768 := by decide
  have M16 : IntKind.max .i16 = 32767 := by decide
  have Q : ∀ x : Int, -32768 ≤ x → x ≤ 32767 → -8192 ≤ Int.tdiv x 4 ∧ Int.tdiv x 4 ≤ 8192 := fun x h1 h2 => by
    have : (Int.tdiv x 4).natAbs = x.natAbs / 4 := by rw [Int.natAbs_tdiv]; rfl
    omega
  have q3 := Q x3 (by omega) (by omega)
  have q4 := Q x4 (by omega) (by omega)
  have t3 : IntKind.wrap .i64 (Int.tdiv (IntKind.wrap .i64 x3) 4) = Int.tdiv x3 4 := by rw [w64_in (n := x3) (by omega) (by omega)]; exact w64_in (by omega) (by omega)
  have t4 : IntKind.wrap .i64 (Int.tdiv (IntKind.wrap .i64 x4) 4) = Int.tdiv x4 4 := by rw [w64_in (n := x4) (by omega) (by omega)]; exact w64_in (by omega) (by omega)
  unfold lMoves_0 lMoves_s0 lMoves_s1 lMoves_s2 lMoves_s3 lMoves_s4 lMoves_s5 lMoves_s6 lMoves_s7 lMoves_s8 lMoves_s9 lMoves_s10 lMoves_s11 lMoves_s12 lMoves_s13 eArea_0
  simp only [w8 a0_0 b0_0, w8 a0_1 b0_1, w8 a0_2 b0_2, w8 a0_3 b0_3, w8 a0_4 b0_4, w8 a0_5 b0_5, w8 a1 b1, w8 a2 b2, t3, t4]
  generalize Int.tdiv x3 4 = mx at q3 ⊢
  generalize Int.tdiv x4 4 = my at q4 ⊢
  have A : ∀ x m : Int, IntKind.min .i8 ≤ x → x ≤ IntKind.max .i8 → (-8192 ≤ m ∧ m ≤ 8192) → IntKind.wrap .i64 (x + m) = x + m ∧ cl (x + m) = x + m := fun x m h1 h2 h3 => ⟨w64_in (by omega) (by omega), cl_id (by omega) (by omega)⟩
  have B : ∀ x : Int, IntKind.min .i8 ≤ x → x ≤ IntKind.max .i8 → IntKind.wrap .i64 (2 * x) = 2 * x ∧ cl (2 * x) = 2 * x := fun x h1 h2 => ⟨w64_in (by omega) (by omega), cl_id (by omega) (by omega)⟩
  simp only [(A x0_0 mx a0_0 b0_0 q3).1, (A x0_1 my a0_1 b0_1 q4).1, (A x0_2 mx a0_2 b0_2 q3).1, (A x0_3 my a0_3 b0_3 q4).1, (A x0_4 mx a0_4 b0_4 q3).1, (A x0_5 my a0_5 b0_5 q4).1, (A x1 mx a1 b1 q3).1, (A x2 my a2 b2 q4).1,
    (B x0_0 a0_0 b0_0).1, (B x0_1 a0_1 b0_1).1, (B x0_2 a0_2 b0_2).1, (B x0_3 a0_3 b0_3).1, (B x0_4 a0_4 b0_4).1, (B x0_5 a0_5 b0_5).1, (B x1 a1 b1).1, (B x2 a2 b2).1, awake, covers_eq, side_eq,
    (A x0_0 mx a0_0 b0_0 q3).2, (A x0_1 my a0_1 b0_1 q4).2, (A x0_2 mx a0_2 b0_2 q3).2, (A x0_3 my a0_3 b0_3 q4).2, (A x0_4 mx a0_4 b0_4 q3).2, (A x0_5 my a0_5 b0_5 q4).2, (A x1 mx a1 b1 q3).2, (A x2 my a2 b2 q4).2,
    (B x0_0 a0_0 b0_0).2, (B x0_1 a0_1 b0_1).2, (B x0_2 a0_2 b0_2).2, (B x0_3 a0_3 b0_3).2, (B x0_4 a0_4 b0_4).2, (B x0_5 a0_5 b0_5).2, (B x1 a1 b1).2, (B x2 a2 b2).2,
    c8 a0_0 b0_0, c8 a0_1 b0_1, c8 a0_2 b0_2, c8 a0_3 b0_3, c8 a0_4 b0_4, c8 a0_5 b0_5, c8 a1 b1, c8 a2 b2, sd_move, sd_twice, cv_move, cv_twice]
  have k1 := sd_bd (nr8 a0_0 b0_0) (nr8 a0_1 b0_1) (nr8 a0_2 b0_2) (nr8 a0_3 b0_3) (nr8 a0_4 b0_4) (nr8 a0_5 b0_5)
  rw [w64_in (n := 4 * sd x0_0 x0_1 x0_2 x0_3 x0_4 x0_5) (by omega) (by omega)]
  simp

/-- What is covered lies between. -/
theorem between {w0 w1 w2 A x0 x1 x2 p m : Int} (h0 : 0 ≤ w0) (h1 : 0 ≤ w1) (h2 : 0 ≤ w2) (hs : w0 + w1 + w2 = A) (hA : 0 < A) (hp : w0 * x0 + w1 * x1 + w2 * x2 = A * p) (m0 : m ≤ x0) (m1 : m ≤ x1) (m2 : m ≤ x2) : m ≤ p := by
  by_cases h : m ≤ p
  · exact h
  · exfalso
    have e : A * (m - p) = w0 * (m - x0) + w1 * (m - x1) + w2 * (m - x2) := by subst hs; grind
    have e0 : w0 * (m - x0) ≤ 0 := Int.mul_nonpos_of_nonneg_of_nonpos h0 (by omega)
    have e1 : w1 * (m - x1) ≤ 0 := Int.mul_nonpos_of_nonneg_of_nonpos h1 (by omega)
    have e2 : w2 * (m - x2) ≤ 0 := Int.mul_nonpos_of_nonneg_of_nonpos h2 (by omega)
    have e3 : 0 < A * (m - p) := Int.mul_pos hA (by omega)
    omega

theorem between' {w0 w1 w2 A x0 x1 x2 p m : Int} (h0 : 0 ≤ w0) (h1 : 0 ≤ w1) (h2 : 0 ≤ w2) (hs : w0 + w1 + w2 = A) (hA : 0 < A) (hp : w0 * x0 + w1 * x1 + w2 * x2 = A * p) (m0 : x0 ≤ m) (m1 : x1 ≤ m) (m2 : x2 ≤ m) : p ≤ m := by
  have := between (m := -m) (p := -p) (x0 := -x0) (x1 := -x1) (x2 := -x2) h0 h1 h2 hs hA (by grind) (by omega) (by omega) (by omega)
  omega

theorem wok_nonneg {w : Int} {o : Bool} (h : wok w o) : 0 ≤ w := by unfold wok at h; omega

theorem EdgeBoxes_true (x0_0 : Int) (a0_0 : IntKind.min .i8 ≤ x0_0) (b0_0 : x0_0 ≤ IntKind.max .i8) (x0_1 : Int) (a0_1 : IntKind.min .i8 ≤ x0_1) (b0_1 : x0_1 ≤ IntKind.max .i8) (x0_2 : Int) (a0_2 : IntKind.min .i8 ≤ x0_2) (b0_2 : x0_2 ≤ IntKind.max .i8) (x0_3 : Int) (a0_3 : IntKind.min .i8 ≤ x0_3) (b0_3 : x0_3 ≤ IntKind.max .i8) (x0_4 : Int) (a0_4 : IntKind.min .i8 ≤ x0_4) (b0_4 : x0_4 ≤ IntKind.max .i8) (x0_5 : Int) (a0_5 : IntKind.min .i8 ≤ x0_5) (b0_5 : x0_5 ≤ IntKind.max .i8) (x1 : Int) (a1 : IntKind.min .i8 ≤ x1) (b1 : x1 ≤ IntKind.max .i8) (x2 : Int) (a2 : IntKind.min .i8 ≤ x2) (b2 : x2 ≤ IntKind.max .i8) : lBoxes_0 x0_0 x0_1 x0_2 x0_3 x0_4 x0_5 x1 x2 = true := by
  unfold lBoxes_0 lBoxes_s4 lBoxes_s6 lBoxes_s1 lBoxes_s0 lBoxes_s2 lBoxes_s3 lBoxes_s5 eArea_0
  unfold eBox_0 eBox_1 eBox_2 eBox_3 eBox_s0 eBox_s1 eBox_s2 eBox_s3
  simp only [n0, n1, w8 a0_0 b0_0, w8 a0_1 b0_1, w8 a0_2 b0_2, w8 a0_3 b0_3, w8 a0_4 b0_4, w8 a0_5 b0_5, w8 a1 b1, w8 a2 b2, awake, covers_eq, side_eq, owns_eq, c8 a0_0 b0_0, c8 a0_1 b0_1, c8 a0_2 b0_2, c8 a0_3 b0_3, c8 a0_4 b0_4, c8 a0_5 b0_5, c8 a1 b1, c8 a2 b2]
  clear a0_0 a0_1 a0_2 a0_3 a0_4 a0_5 a1 a2 b0_0 b0_1 b0_2 b0_3 b0_4 b0_5 b1 b2
  have hin : cv x0_0 x0_1 x0_2 x0_3 x0_4 x0_5 x1 x2 → (if x0_4 < if x0_2 < x0_0 then x0_2 else x0_0 then x0_4 else if x0_2 < x0_0 then x0_2 else x0_0) ≤ x1 ∧ x1 ≤ (if (if x0_0 < x0_2 then x0_2 else x0_0) < x0_4 then x0_4 else if x0_0 < x0_2 then x0_2 else x0_0) ∧
      (if x0_5 < if x0_3 < x0_1 then x0_3 else x0_1 then x0_5 else if x0_3 < x0_1 then x0_3 else x0_1) ≤ x2 ∧ x2 ≤ (if (if x0_1 < x0_3 then x0_3 else x0_1) < x0_5 then x0_5 else if x0_1 < x0_3 then x0_3 else x0_1) := by
    intro ⟨hA, h0, h1, h2⟩
    have g0 := wok_nonneg h0
    have g1 := wok_nonneg h1
    have g2 := wok_nonneg h2
    have hs := sd_sum x0_0 x0_1 x0_2 x0_3 x0_4 x0_5 x1 x2
    have hx := sd_x x0_0 x0_1 x0_2 x0_3 x0_4 x0_5 x1 x2
    have hy := sd_y x0_0 x0_1 x0_2 x0_3 x0_4 x0_5 x1 x2
    refine ⟨between g0 g1 g2 hs hA hx ?_ ?_ ?_, between' g0 g1 g2 hs hA hx ?_ ?_ ?_, between g0 g1 g2 hs hA hy ?_ ?_ ?_, between' g0 g1 g2 hs hA hy ?_ ?_ ?_⟩ <;> (repeat' split) <;> omega
  have c0 : decide (cv x0_0 x0_1 x0_2 x0_3 x0_4 x0_5 x0_0 x0_1) = bif decide (0 < sd x0_0 x0_1 x0_2 x0_3 x0_4 x0_5) then bif ow x0_0 x0_1 x0_2 x0_3 then ow x0_4 x0_5 x0_0 x0_1 else false else false := by
    simp only [cv, wok, sd_at2, sd_at1, sd_rot x0_0 x0_1 x0_2 x0_3 x0_4 x0_5]
    by_cases h : 0 < sd x0_0 x0_1 x0_2 x0_3 x0_4 x0_5
    · cases ow x0_0 x0_1 x0_2 x0_3 <;> cases ow x0_4 x0_5 x0_0 x0_1 <;> simp [h]
    · simp [h]
  have c1 : decide (cv x0_0 x0_1 x0_2 x0_3 x0_4 x0_5 x0_2 x0_3) = bif decide (0 < sd x0_0 x0_1 x0_2 x0_3 x0_4 x0_5) then bif ow x0_2 x0_3 x0_4 x0_5 then ow x0_0 x0_1 x0_2 x0_3 else false else false := by
    simp only [cv, wok, sd_at2, sd_at1, sd_rot2 x0_0 x0_1 x0_2 x0_3 x0_4 x0_5]
    by_cases h : 0 < sd x0_0 x0_1 x0_2 x0_3 x0_4 x0_5
    · cases ow x0_0 x0_1 x0_2 x0_3 <;> cases ow x0_2 x0_3 x0_4 x0_5 <;> simp [h]
    · simp [h]
  have c2 : decide (cv x0_0 x0_1 x0_2 x0_3 x0_4 x0_5 x0_4 x0_5) = bif decide (0 < sd x0_0 x0_1 x0_2 x0_3 x0_4 x0_5) then bif ow x0_4 x0_5 x0_0 x0_1 then ow x0_2 x0_3 x0_4 x0_5 else false else false := by
    simp only [cv, wok, sd_at2, sd_at1]
    by_cases h : 0 < sd x0_0 x0_1 x0_2 x0_3 x0_4 x0_5
    · cases ow x0_4 x0_5 x0_0 x0_1 <;> cases ow x0_2 x0_3 x0_4 x0_5 <;> simp [h]
    · simp [h]
  rw [c0, c1, c2]
  simp only [beq_self_eq_true, Bool.not_true, Bool.or_false, Bool.not_false, Bool.and_false, cond_false]
  by_cases h : cv x0_0 x0_1 x0_2 x0_3 x0_4 x0_5 x1 x2
  · obtain ⟨h1, h2, h3, h4⟩ := hin h
    simp [h, h1, h2, h3, h4]
  · simp [h]

end Go.Proofs.Ythgjacfikicgnaa
