/-
  Sides, ways, triangles: what the walks have found, in plain numbers.
-/
import Derived.Test.YthgjacfikicgnaaEa7
import Derived.Test.YthgjacfikicgnaaNa
namespace Go.Proofs.Ythgjacfikicgnaa
open Go Go.RowKit

/-- As near as may be. -/
def cl (x : Int) : Int := if 16384 < x then 16384 else if x < -16384 then -16384 else x

theorem cl_ge (x : Int) : -16384 ≤ cl x := by unfold cl; split <;> (try split) <;> omega
theorem cl_le (x : Int) : cl x ≤ 16384 := by unfold cl; split <;> (try split) <;> omega
theorem cl_id {x : Int} (h1 : -16384 ≤ x) (h2 : x ≤ 16384) : cl x = x := by unfold cl; split <;> (try split) <;> omega

theorem fw (x : Int) : fWithin_0 x 16384 = cl x := by
  have e : fWithin_s1 16384 = -16384 := by unfold fWithin_s1; rw [w64_in (by omega) (by omega)]; omega
  unfold fWithin_0 fWithin_s0 cl
  rw [e]
  split <;> split <;> (try split) <;> (try split) <;> omega
theorem n0 (x : Int) : eNear_0 x = cl x := fw x
theorem n1 (x : Int) : eNear_1 x = cl x := fw x
theorem rn (x : Int) : r1near_0 x = cl x := by
  unfold r1near_0 cl
  by_cases h : 16384 < x
  · simp [h]
  · by_cases h2 : x < -16384 <;> simp [h, h2]
theorem ln (x : Int) : lSides1_0 x = cl x := by
  unfold lSides1_0 lSides1_s0 cl
  split <;> split <;> (try split) <;> omega

/-- On which side. -/
def sd (a b c d e f : Int) : Int := (c - a) * (f - b) - (d - b) * (e - a)

def Nr (x : Int) : Prop := -16384 ≤ x ∧ x ≤ 16384

theorem nr_cl (x : Int) : Nr (cl x) := ⟨cl_ge x, cl_le x⟩

theorem mul_bd {x y : Int} (hx : -32768 ≤ x ∧ x ≤ 32768) (hy : -32768 ≤ y ∧ y ≤ 32768) : -1073741824 ≤ x * y ∧ x * y ≤ 1073741824 := by
  have h : x.natAbs * y.natAbs ≤ 32768 * 32768 := Nat.mul_le_mul (by omega) (by omega)
  rw [← Int.natAbs_mul] at h
  omega

theorem sd_bd {a b c d e f : Int} (ha : Nr a) (hb : Nr b) (hc : Nr c) (hd : Nr d) (he : Nr e) (hf : Nr f) : -2147483648 ≤ sd a b c d e f ∧ sd a b c d e f ≤ 2147483648 := by
  unfold Nr at *
  have h1 := mul_bd (x := c - a) (y := f - b) (by omega) (by omega)
  have h2 := mul_bd (x := d - b) (y := e - a) (by omega) (by omega)
  unfold sd
  omega

theorem wrapped {a b c d e f : Int} (ha : Nr a) (hb : Nr b) (hc : Nr c) (hd : Nr d) (he : Nr e) (hf : Nr f) :
    IntKind.wrap .i64 (IntKind.wrap .i64 (IntKind.wrap .i64 (c - a) * IntKind.wrap .i64 (f - b)) - IntKind.wrap .i64 (IntKind.wrap .i64 (d - b) * IntKind.wrap .i64 (e - a))) = sd a b c d e f := by
  unfold Nr at *
  have h1 := mul_bd (x := c - a) (y := f - b) (by omega) (by omega)
  have h2 := mul_bd (x := d - b) (y := e - a) (by omega) (by omega)
  rw [w64_in (n := c - a) (by omega) (by omega), w64_in (n := f - b) (by omega) (by omega), w64_in (n := d - b) (by omega) (by omega), w64_in (n := e - a) (by omega) (by omega), w64_in (n := (c - a) * (f - b)) (by omega) (by omega),
    w64_in (n := (d - b) * (e - a)) (by omega) (by omega), w64_in (by omega) (by omega)]
  rfl

theorem side_eq (a b c d e f : Int) : eSide_0 a b c d e f = sd (cl a) (cl b) (cl c) (cl d) (cl e) (cl f) := by
  unfold eSide_0
  simp only [n0, n1]
  exact wrapped (nr_cl _) (nr_cl _) (nr_cl _) (nr_cl _) (nr_cl _) (nr_cl _)

theorem rside_eq (a b c d e f : Int) : r1Side_0 a b c d e f = sd (cl a) (cl b) (cl c) (cl d) (cl e) (cl f) := by
  unfold r1Side_0
  simp only [rn]
  exact wrapped (nr_cl _) (nr_cl _) (nr_cl _) (nr_cl _) (nr_cl _) (nr_cl _)

/-- Does the way own its points? -/
def ow (a b c d : Int) : Bool := decide (d < b) || (decide (b = d) && decide (a < c))

theorem owns_eq (a b c d : Int) : eOwns_0 a b c d = ow (cl a) (cl b) (cl c) (cl d) := by
  unfold eOwns_0 ow
  simp only [n0, n1]
  generalize cl a = a
  generalize cl b = b
  generalize cl c = c
  generalize cl d = d
  by_cases h1 : d < b
  · simp [h1]
  · by_cases h2 : b = d <;> simp [h1, h2]

/-- Within, or on a way that is owned. -/
def wok (w : Int) (o : Bool) : Prop := 0 < w ∨ (w = 0 ∧ o = true)

instance (w : Int) (o : Bool) : Decidable (wok w o) := by unfold wok; exact inferInstance

/-- Is the point covered? -/
def cv (a b c d e f p q : Int) : Prop := 0 < sd a b c d e f ∧ wok (sd c d e f p q) (ow c d e f) ∧ wok (sd e f a b p q) (ow e f a b) ∧ wok (sd a b c d p q) (ow a b c d)

instance (a b c d e f p q : Int) : Decidable (cv a b c d e f p q) := by unfold cv; exact inferInstance

theorem bad_iff (w : Int) (o : Bool) : (bif decide (w < 0) then true else bif w == 0 then !o else false) = !decide (wok w o) := by
  unfold wok
  by_cases h1 : w < 0
  · have e1 : ¬ 0 < w := by omega
    have e2 : w ≠ 0 := by omega
    simp [h1, e1, e2]
  · by_cases h2 : w = 0
    · subst h2; cases o <;> simp
    · have : 0 < w := by omega
      simp [h1, h2, this]

theorem covers_eq (a b c d e f p q : Int) : eCovers_0 a b c d e f p q = decide (cv (cl a) (cl b) (cl c) (cl d) (cl e) (cl f) (cl p) (cl q)) := by
  unfold eCovers_0 eCovers_s0 eCovers_s1 eArea_0 eWeights_0 eWeights_1 eWeights_2
  simp only [bad_iff, side_eq, owns_eq]
  unfold cv
  generalize cl a = a
  generalize cl b = b
  generalize cl c = c
  generalize cl d = d
  generalize cl e = e
  generalize cl f = f
  generalize cl p = p
  generalize cl q = q
  by_cases h0 : sd a b c d e f ≤ 0
  · have h0' : ¬ 0 < sd a b c d e f := by omega
    simp [h0, h0']
  · have h0' : 0 < sd a b c d e f := by omega
    by_cases h1 : wok (sd c d e f p q) (ow c d e f) <;> by_cases h2 : wok (sd e f a b p q) (ow e f a b) <;> by_cases h3 : wok (sd a b c d p q) (ow a b c d) <;> simp [h0, h0', h1, h2, h3]

theorem awake : aw3_0 = true := by
  unfold aw3_0 eArea_0
  simp only [covers_eq, side_eq]
  decide

/-- Numbers that are small enough stay. -/
theorem w8 {x : Int} (h1 : IntKind.min .i8 ≤ x) (h2 : x ≤ IntKind.max .i8) : IntKind.wrap .i64 x = x := by
  have e1 : IntKind.min .i8 = -128 := by decide
  have e2 : IntKind.max .i8 = 127 := by decide
  exact w64_in (by omega) (by omega)
theorem c8 {x : Int} (h1 : IntKind.min .i8 ≤ x) (h2 : x ≤ IntKind.max .i8) : cl x = x := by
  have e1 : IntKind.min .i8 = -128 := by decide
  have e2 : IntKind.max .i8 = 127 := by decide
  exact cl_id (by omega) (by omega)

end Go.Proofs.Ythgjacfikicgnaa
