/-
  Sides, ways, triangles in plain numbers.
-/
import Derived.Test.YtbdmaepooahplaaPa5
import Derived.Test.YtbdmaepooahplaaNa
namespace Go.Proofs.Ytbdmaepooahplaa
open Go Go.RowKit Go.Proofs.Ytbdmaepooahplaa.V
set_option linter.unusedVariables false
set_option linter.unusedSectionVars false

/-- As near as may be. -/
def nc (x : Int) : Int := if 16384 < x then 16384 else if x < -16384 then -16384 else x

theorem nc_ge (x : Int) : -16384 ≤ nc x := by unfold nc; split <;> (try split) <;> omega
theorem nc_le (x : Int) : nc x ≤ 16384 := by unfold nc; split <;> (try split) <;> omega
theorem nc_id {x : Int} (h1 : -16384 ≤ x) (h2 : x ≤ 16384) : nc x = x := by unfold nc; split <;> (try split) <;> omega

theorem fw (x : Int) : fWithin_0 x 16384 = nc x := by
  have e : fWithin_s1 16384 = -16384 := by unfold fWithin_s1; rw [w64_in (by omega) (by omega)]; omega
  unfold fWithin_0 fWithin_s0 nc
  rw [e]
  split <;> split <;> (try split) <;> (try split) <;> omega
theorem n0 (x : Int) : eNear_0 x = nc x := fw x
theorem n1 (x : Int) : eNear_1 x = nc x := fw x
theorem rn (x : Int) : rNear_0 x = nc x := by
  unfold rNear_0 nc
  by_cases h : 16384 < x
  · simp [h]
  · by_cases h2 : x < -16384 <;> simp [h, h2]
/-- On which side. -/
def sd (a b c d e f : Int) : Int := (c - a) * (f - b) - (d - b) * (e - a)

def Nr (x : Int) : Prop := -16384 ≤ x ∧ x ≤ 16384

theorem nr_nc (x : Int) : Nr (nc x) := ⟨nc_ge x, nc_le x⟩

theorem mul_bd {x y : Int} (hx : -32768 ≤ x ∧ x ≤ 32768) (hy : -32768 ≤ y ∧ y ≤ 32768) : -1073741824 ≤ x * y ∧ x * y ≤ 1073741824 := by
  have h : x.natAbs * y.natAbs ≤ 32768 * 32768 := Nat.mul_le_mul (by omega) (by omega)
  rw [← Int.natAbs_mul] at h
  omega

theorem sd_bd {a b c d e f : Int} (ha : Nr a) (hb : Nr b) (hc : Nr c) (hd : Nr d) (he : Nr e) (hf : Nr f) : -2147483648 ≤ sd a b c d e f ∧ sd a b c d e f ≤ 2147483648 := by
  unfold Nr at *
  have h1 := mul_bd (x := c - a) (y := f - b) (by omega) (by omega)
  have h2 := mul_bd (x := d - b) (y := e - a) (by omega) (by omega)
  unfold sd
  omega

theorem wrapped {a b c d e f : Int} (ha : Nr a) (hb : Nr b) (hc : Nr c) (hd : Nr d) (he : Nr e) (hf : Nr f) :
    IntKind.wrap .i64 (IntKind.wrap .i64 (IntKind.wrap .i64 (c - a) * IntKind.wrap .i64 (f - b)) - IntKind.wrap .i64 (IntKind.wrap .i64 (d - b) * IntKind.wrap .i64 (e - a))) = sd a b c d e f := by
  unfold Nr at *
  have h1 := mul_bd (x := c - a) (y := f - b) (by omega) (by omega)
  have h2 := mul_bd (x := d - b) (y := e - a) (by omega) (by omega)
  rw [w64_in (n := c - a) (by omega) (by omega), w64_in (n := f - b) (by omega) (by omega), w64_in (n := d - b) (by omega) (by omega), w64_in (n := e - a) (by omega) (by omega), w64_in (n := (c - a) * (f - b)) (by omega) (by omega),
    w64_in (n := (d - b) * (e - a)) (by omega) (by omega), w64_in (by omega) (by omega)]
  rfl

theorem side_eq (a b c d e f : Int) : eSide_0 a b c d e f = sd (nc a) (nc b) (nc c) (nc d) (nc e) (nc f) := by
  unfold eSide_0
  simp only [n0, n1]
  exact wrapped (nr_nc _) (nr_nc _) (nr_nc _) (nr_nc _) (nr_nc _) (nr_nc _)

theorem rside_eq (a b c d e f : Int) : rSide_0 a b c d e f = sd (nc a) (nc b) (nc c) (nc d) (nc e) (nc f) := by
  unfold rSide_0
  simp only [rn]
  exact wrapped (nr_nc _) (nr_nc _) (nr_nc _) (nr_nc _) (nr_nc _) (nr_nc _)

/-- Does the way own its points? -/
def ow (a b c d : Int) : Bool := decide (d < b) || (decide (b = d) && decide (a < c))

theorem owns_eq (a b c d : Int) : eOwns_0 a b c d = ow (nc a) (nc b) (nc c) (nc d) := by
  unfold eOwns_0 ow
  simp only [n0, n1]
  generalize nc a = a
  generalize nc b = b
  generalize nc c = c
  generalize nc d = d
  by_cases h1 : d < b
  · simp [h1]
  · by_cases h2 : b = d <;> simp [h1, h2]

/-- Within, or on a way that is owned. -/
def wok (w : Int) (o : Bool) : Prop := 0 < w ∨ (w = 0 ∧ o = true)

instance (w : Int) (o : Bool) : Decidable (wok w o) := by unfold wok; exact inferInstance

/-- Is the point covered? -/
def cv (a b c d e f p q : Int) : Prop := 0 < sd a b c d e f ∧ wok (sd c d e f p q) (ow c d e f) ∧ wok (sd e f a b p q) (ow e f a b) ∧ wok (sd a b c d p q) (ow a b c d)

instance (a b c d e f p q : Int) : Decidable (cv a b c d e f p q) := by unfold cv; exact inferInstance

theorem bad_iff (w : Int) (o : Bool) : (bif decide (w < 0) then true else bif w == 0 then !o else false) = !decide (wok w o) := by
  unfold wok
  by_cases h1 : w < 0
  · have e1 : ¬ 0 < w := by omega
    have e2 : w ≠ 0 := by omega
    simp [h1, e1, e2]
  · by_cases h2 : w = 0
    · subst h2; cases o <;> simp
    · have : 0 < w := by omega
      simp [h1, h2, this]

theorem covers_eq (a b c d e f p q : Int) : tCovers_0 a b c d e f p q = decide (cv (nc a) (nc b) (nc c) (nc d) (nc e) (nc f) (nc p) (nc q)) := by
  unfold tCovers_0 tCovers_s0 tCovers_s1 tArea_0 tWeights_0 tWeights_1 tWeights_2
  simp only [bad_iff, side_eq, owns_eq]
  unfold cv
  generalize nc a = a
  generalize nc b = b
  generalize nc c = c
  generalize nc d = d
  generalize nc e = e
  generalize nc f = f
  generalize nc p = p
  generalize nc q = q
  by_cases h0 : sd a b c d e f ≤ 0
  · have h0' : ¬ 0 < sd a b c d e f := by omega
    simp [h0, h0']
  · have h0' : 0 < sd a b c d e f := by omega
    by_cases h1 : wok (sd c d e f p q) (ow c d e f) <;> by_cases h2 : wok (sd e f a b p q) (ow e f a b) <;> by_cases h3 : wok (sd a b c d p q) (ow a b c d) <;> simp [h0, h0', h1, h2, h3]

theorem sd_rot (a b c d e f : Int) : sd c d e f a b = sd a b c d e f := by unfold sd; grind
theorem sd_rot2 (a b c d e f : Int) : sd e f a b c d = sd a b c d e f := by unfold sd; grind
theorem sd_turn (a b c d e f : Int) : sd a b e f c d = - sd a b c d e f := by unfold sd; grind
theorem sd_swap (a b c d e f : Int) : sd c d a b e f = - sd a b c d e f := by unfold sd; grind
theorem sd_at1 (a b c d : Int) : sd a b c d a b = 0 := by unfold sd; grind
theorem sd_at2 (a b c d : Int) : sd a b c d c d = 0 := by unfold sd; grind
theorem sd_sum (a b c d e f p q : Int) : sd c d e f p q + sd e f a b p q + sd a b c d p q = sd a b c d e f := by unfold sd; grind
theorem sd_x (a b c d e f p q : Int) : sd c d e f p q * a + sd e f a b p q * c + sd a b c d p q * e = sd a b c d e f * p := by unfold sd; grind
theorem sd_y (a b c d e f p q : Int) : sd c d e f p q * b + sd e f a b p q * d + sd a b c d p q * f = sd a b c d e f * q := by unfold sd; grind
theorem sd_move (a b c d e f x y : Int) : sd (a + x) (b + y) (c + x) (d + y) (e + x) (f + y) = sd a b c d e f := by unfold sd; grind
theorem sd_twice (a b c d e f : Int) : sd (2 * a) (2 * b) (2 * c) (2 * d) (2 * e) (2 * f) = 4 * sd a b c d e f := by unfold sd; grind

theorem ow_same (a b : Int) : ow a b a b = false := by unfold ow; simp
theorem ow_anti {a b c d : Int} (h : ¬ (a = c ∧ b = d)) : ow c d a b = !ow a b c d := by
  unfold ow
  by_cases h1 : d < b
  · have e1 : ¬ b < d := by omega
    have e2 : ¬ d = b := by omega
    simp [h1, e1, e2]
  · by_cases h2 : b < d
    · have e2 : ¬ b = d := by omega
      simp [h1, h2, e2]
    · have e : b = d := by omega
      subst e
      by_cases h3 : a < c
      · have : ¬ c < a := by omega
        simp [h3, this]
      · have : c < a := by omega
        simp [h3, this]
theorem ow_move (a b c d x y : Int) : ow (a + x) (b + y) (c + x) (d + y) = ow a b c d := by
  have e1 : (d + y < b + y) = (d < b) := propext ⟨fun h => by omega, fun h => by omega⟩
  have e2 : (b + y = d + y) = (b = d) := propext ⟨fun h => by omega, fun h => by omega⟩
  have e3 : (a + x < c + x) = (a < c) := propext ⟨fun h => by omega, fun h => by omega⟩
  unfold ow
  simp only [e1, e2, e3]
theorem ow_twice (a b c d : Int) : ow (2 * a) (2 * b) (2 * c) (2 * d) = ow a b c d := by
  have e1 : (2 * d < 2 * b) = (d < b) := propext ⟨fun h => by omega, fun h => by omega⟩
  have e2 : (2 * b = 2 * d) = (b = d) := propext ⟨fun h => by omega, fun h => by omega⟩
  have e3 : (2 * a < 2 * c) = (a < c) := propext ⟨fun h => by omega, fun h => by omega⟩
  unfold ow
  simp only [e1, e2, e3]
theorem wok_4 (w : Int) (o : Bool) : wok (4 * w) o ↔ wok w o := by
  have e1 : (0 < 4 * w) = (0 < w) := propext ⟨fun h => by omega, fun h => by omega⟩
  have e2 : (4 * w = 0) = (w = 0) := propext ⟨fun h => by omega, fun h => by omega⟩
  unfold wok
  simp only [e1, e2]

theorem cv_rot (a b c d e f p q : Int) : cv c d e f a b p q ↔ cv a b c d e f p q := by
  unfold cv
  rw [sd_rot a b c d e f]
  exact ⟨fun ⟨h0, h1, h2, h3⟩ => ⟨h0, h3, h1, h2⟩, fun ⟨h0, h1, h2, h3⟩ => ⟨h0, h2, h3, h1⟩⟩
theorem cv_move (a b c d e f p q x y : Int) : cv (a + x) (b + y) (c + x) (d + y) (e + x) (f + y) (p + x) (q + y) ↔ cv a b c d e f p q := by
  unfold cv
  simp only [sd_move, ow_move]
theorem cv_twice (a b c d e f p q : Int) : cv (2 * a) (2 * b) (2 * c) (2 * d) (2 * e) (2 * f) (2 * p) (2 * q) ↔ cv a b c d e f p q := by
  unfold cv
  simp only [sd_twice, ow_twice, wok_4]
  constructor <;> (intro ⟨h0, h⟩; exact ⟨by omega, h⟩)

theorem between {w0 w1 w2 A x0 x1 x2 p m : Int} (h0 : 0 ≤ w0) (h1 : 0 ≤ w1) (h2 : 0 ≤ w2) (hs : w0 + w1 + w2 = A) (hA : 0 < A) (hp : w0 * x0 + w1 * x1 + w2 * x2 = A * p) (m0 : m ≤ x0) (m1 : m ≤ x1) (m2 : m ≤ x2) : m ≤ p := by
  by_cases h : m ≤ p
  · exact h
  · exfalso
    have e : A * (m - p) = w0 * (m - x0) + w1 * (m - x1) + w2 * (m - x2) := by subst hs; grind
    have e0 : w0 * (m - x0) ≤ 0 := Int.mul_nonpos_of_nonneg_of_nonpos h0 (by omega)
    have e1 : w1 * (m - x1) ≤ 0 := Int.mul_nonpos_of_nonneg_of_nonpos h1 (by omega)
    have e2 : w2 * (m - x2) ≤ 0 := Int.mul_nonpos_of_nonneg_of_nonpos h2 (by omega)
    have e3 : 0 < A * (m - p) := Int.mul_pos hA (by omega)
    omega

theorem between' {w0 w1 w2 A x0 x1 x2 p m : Int} (h0 : 0 ≤ w0) (h1 : 0 ≤ w1) (h2 : 0 ≤ w2) (hs : w0 + w1 + w2 = A) (hA : 0 < A) (hp : w0 * x0 + w1 * x1 + w2 * x2 = A * p) (m0 : x0 ≤ m) (m1 : x1 ≤ m) (m2 : x2 ≤ m) : p ≤ m := by
  have := between (m := -m) (p := -p) (x0 := -x0) (x1 := -x1) (x2 := -x2) h0 h1 h2 hs hA (by grind) (by omega) (by omega) (by omega)
  omega

theorem wok_nonneg {w : Int} {o : Bool} (h : wok w o) : 0 ≤ w := by unfold wok at h; omega


theorem bad2_iff (w a b c d : Int) : (decide (w < 0) || !decide (w < 0) && (bif w == 0 then bif !decide (d < b) then !bif d == b then decide (a < c) else false else false else false)) = !decide (wok w (ow a b c d)) := by
  rw [← bad_iff]
  unfold ow
  by_cases h1 : w < 0
  · simp [h1]
  · by_cases h2 : w = 0
    · by_cases h3 : d < b
      · simp [h2, h3]
      · by_cases h4 : d = b
        · subst h4; simp [h2]
        · have h5 : ¬ b = d := fun e => h4 e.symm
          simp [h2, h3, h4, h5]
    · have h3 : (w == 0) = false := beq_false_of_ne h2
      simp [h1, h3]

theorem rcovers_eq (a b c d e f p q : Int) : rCovers_0 a b c d e f p q = decide (cv (nc a) (nc b) (nc c) (nc d) (nc e) (nc f) (nc p) (nc q)) := by
  unfold rCovers_0
  have e0 := bad2_iff (rSide_0 a b c d p q) (rNear_0 a) (rNear_0 b) (rNear_0 c) (rNear_0 d)
  have e1 := bad2_iff (rSide_0 c d e f p q) (rNear_0 c) (rNear_0 d) (rNear_0 e) (rNear_0 f)
  have e2 := bad2_iff (rSide_0 e f a b p q) (rNear_0 e) (rNear_0 f) (rNear_0 a) (rNear_0 b)
  have g : ∀ s0 s1 s2 s3 s4 L A : Bool, (bif A then false else bif s0 || !s0 && s1 || !s0 && !s1 && (s2 || !s2 && s3 || !s2 && !s3 && (s4 || !s4 && L)) then false else true) = (!A && (!(s0 || !s0 && s1) && (!(s2 || !s2 && s3) && !(s4 || !s4 && L)))) := by decide
  rw [g]
  unfold rCovers_s0 rCovers_s1 rCovers_s2 rCovers_s3 rCovers_s4
  rw [e0, e1, e2]
  simp only [rside_eq, rn]
  unfold cv
  generalize nc a = a
  generalize nc b = b
  generalize nc c = c
  generalize nc d = d
  generalize nc e = e
  generalize nc f = f
  generalize nc p = p
  generalize nc q = q
  by_cases h0 : sd a b c d e f ≤ 0
  · have h0' : ¬ 0 < sd a b c d e f := by omega
    simp [h0, h0']
  · have h0' : 0 < sd a b c d e f := by omega
    by_cases h1 : wok (sd c d e f p q) (ow c d e f) <;> by_cases h2 : wok (sd e f a b p q) (ow e f a b) <;> by_cases h3 : wok (sd a b c d p q) (ow a b c d) <;> simp [h0, h0', h1, h2, h3]

end Go.Proofs.Ytbdmaepooahplaa
