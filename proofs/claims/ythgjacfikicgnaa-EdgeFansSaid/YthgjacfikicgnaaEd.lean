/-
  Sides, ways, triangles: triangles that share a way; a triangle cut into three.
-/
import Derived.Test.YthgjacfikicgnaaEc
namespace Go.Proofs.Ythgjacfikicgnaa
open Go Go.RowKit

theorem sd_swap' (a b c d e f : Int) : sd c d a b e f + sd a b c d e f = 0 := by unfold sd; grind

theorem no_both {a b c d e f g h p q : Int} : ¬ (cv a b c d e f p q ∧ cv c d a b g h p q) := by
  intro ⟨⟨_, _, _, h1⟩, ⟨_, _, _, h2⟩⟩
  have e := sd_swap' a b c d p q
  unfold wok at h1 h2
  by_cases hab : a = c ∧ b = d
  · obtain ⟨rfl, rfl⟩ := hab
    rw [ow_same] at h1 h2
    simp only [Bool.false_eq_true, and_false, or_false] at h1 h2
    omega
  · rw [ow_anti hab] at h2
    rcases h1 with h1 | ⟨h1, o1⟩
    · rcases h2 with h2 | ⟨h2, _⟩ <;> omega
    · rcases h2 with h2 | ⟨_, o2⟩
      · omega
      · rw [o1] at o2; cases o2

theorem on_one {a b c d e f g h p q : Int} (hs : 0 < sd a b c d e f) (ht : 0 < sd c d a b g h) (h0 : sd a b c d p q = 0) (w0 : 0 < sd c d e f p q) (w1 : 0 < sd e f a b p q) (v0 : 0 < sd a b g h p q) (v1 : 0 < sd g h c d p q) :
    cv a b c d e f p q ∨ cv c d a b g h p q := by
  have e := sd_swap' a b c d p q
  have hab : ¬ (a = c ∧ b = d) := by
    rintro ⟨rfl, rfl⟩
    unfold sd at hs
    simp at hs
  cases ho : ow a b c d with
  | true => exact .inl ⟨hs, .inl w0, .inl w1, .inr ⟨h0, ho⟩⟩
  | false => exact .inr ⟨ht, .inl v0, .inl v1, .inr ⟨by omega, by rw [ow_anti hab, ho]; rfl⟩⟩

theorem EdgeShared_true (x0_0 : Int) (a0_0 : IntKind.min .i8 ≤ x0_0) (b0_0 : x0_0 ≤ IntKind.max .i8) (x0_1 : Int) (a0_1 : IntKind.min .i8 ≤ x0_1) (b0_1 : x0_1 ≤ IntKind.max .i8) (x1_0 : Int) (a1_0 : IntKind.min .i8 ≤ x1_0) (b1_0 : x1_0 ≤ IntKind.max .i8) (x1_1 : Int) (a1_1 : IntKind.min .i8 ≤ x1_1) (b1_1 : x1_1 ≤ IntKind.max .i8) (x2_0 : Int) (a2_0 : IntKind.min .i8 ≤ x2_0) (b2_0 : x2_0 ≤ IntKind.max .i8) (x2_1 : Int) (a2_1 : IntKind.min .i8 ≤ x2_1) (b2_1 : x2_1 ≤ IntKind.max .i8) (x3_0 : Int) (a3_0 : IntKind.min .i8 ≤ x3_0) (b3_0 : x3_0 ≤ IntKind.max .i8) (x3_1 : Int) (a3_1 : IntKind.min .i8 ≤ x3_1) (b3_1 : x3_1 ≤ IntKind.max .i8) (x4 : Int) (a4 : IntKind.min .i8 ≤ x4) (b4 : x4 ≤ IntKind.max .i8) (x5 : Int) (a5 : IntKind.min .i8 ≤ x5) (b5 : x5 ≤ IntKind.max .i8) : lShared_0 x0_0 x0_1 x1_0 x1_1 x2_0 x2_1 x3_0 x3_1 x4 x5 = true := by
  have m8 : IntKind.min .i8 = -128 := by decide
  have M8 : IntKind.max .i8 = 127 := by decide
  have Q : ∀ x y : Int, IntKind.min .i8 ≤ x → x ≤ IntKind.max .i8 → IntKind.min .i8 ≤ y → y ≤ IntKind.max .i8 → IntKind.wrap .i64 (Int.tdiv (IntKind.wrap .i64 (x + y)) 2) = Int.tdiv (x + y) 2 ∧ cl (Int.tdiv (x + y) 2) = Int.tdiv (x + y) 2 := fun x y h1 h2 h3 h4 => by
    have : (Int.tdiv (x + y) 2).natAbs = (x + y).natAbs / 2 := by rw [Int.natAbs_tdiv]; rfl
    rw [w64_in (n := x + y) (by omega) (by omega)]
    exact ⟨w64_in (by omega) (by omega), cl_id (by omega) (by omega)⟩
  unfold lShared_0 lShared_s0 lShared_s1 lShared_s5 lShared_s4 lShared_s10 lShared_s15 lShared_s2 lShared_s3 lShared_s6 lShared_s7 lShared_s8 lShared_s9 lShared_s13 lShared_s14 lShared_s16 lShared_s17 lShared_s18 lShared_s19 lShared_s11 lShared_s12 eArea_0 eWeights_0 eWeights_1
  simp only [w8 a0_0 b0_0, w8 a0_1 b0_1, w8 a1_0 b1_0, w8 a1_1 b1_1, w8 a2_0 b2_0, w8 a2_1 b2_1, w8 a3_0 b3_0, w8 a3_1 b3_1, w8 a4 b4, w8 a5 b5, (Q x0_0 x1_0 a0_0 b0_0 a1_0 b1_0).1, (Q x0_1 x1_1 a0_1 b0_1 a1_1 b1_1).1, awake, covers_eq, side_eq,
    (Q x0_0 x1_0 a0_0 b0_0 a1_0 b1_0).2, (Q x0_1 x1_1 a0_1 b0_1 a1_1 b1_1).2, c8 a0_0 b0_0, c8 a0_1 b0_1, c8 a1_0 b1_0, c8 a1_1 b1_1, c8 a2_0 b2_0, c8 a2_1 b2_1, c8 a3_0 b3_0, c8 a3_1 b3_1, c8 a4 b4, c8 a5 b5]
  generalize Int.tdiv (x0_0 + x1_0) 2 = m
  generalize Int.tdiv (x0_1 + x1_1) 2 = n
  by_cases hs : sd x0_0 x0_1 x1_0 x1_1 x2_0 x2_1 ≤ 0
  · simp [hs]
  by_cases ht : sd x1_0 x1_1 x0_0 x0_1 x3_0 x3_1 ≤ 0
  · simp [ht]
  have G : ∀ p q : Int, (bif decide (cv x0_0 x0_1 x1_0 x1_1 x2_0 x2_1 p q) then decide (cv x1_0 x1_1 x0_0 x0_1 x3_0 x3_1 p q) else false) = false := fun p q => by
    have := @no_both x0_0 x0_1 x1_0 x1_1 x2_0 x2_1 x3_0 x3_1 p q
    by_cases h1 : cv x0_0 x0_1 x1_0 x1_1 x2_0 x2_1 p q <;> by_cases h2 : cv x1_0 x1_1 x0_0 x0_1 x3_0 x3_1 p q
    · exact absurd ⟨h1, h2⟩ this
    · simp [h2]
    · simp [h1]
    · simp [h1]
  have F : ∀ p q : Int, (bif sd x0_0 x0_1 x1_0 x1_1 p q == 0 then bif decide (0 < sd x1_0 x1_1 x2_0 x2_1 p q) then bif decide (0 < sd x2_0 x2_1 x0_0 x0_1 p q) then bif decide (0 < sd x0_0 x0_1 x3_0 x3_1 p q) then bif decide (0 < sd x3_0 x3_1 x1_0 x1_1 p q) then bif !decide (cv x0_0 x0_1 x1_0 x1_1 x2_0 x2_1 p q) then !decide (cv x1_0 x1_1 x0_0 x0_1 x3_0 x3_1 p q) else false else false else false else false else false else false) = false := fun p q => by
    by_cases h0 : sd x0_0 x0_1 x1_0 x1_1 p q = 0
    · by_cases w0 : 0 < sd x1_0 x1_1 x2_0 x2_1 p q
      · by_cases w1 : 0 < sd x2_0 x2_1 x0_0 x0_1 p q
        · by_cases v0 : 0 < sd x0_0 x0_1 x3_0 x3_1 p q
          · by_cases v1 : 0 < sd x3_0 x3_1 x1_0 x1_1 p q
            · rcases on_one (by omega) (by omega) h0 w0 w1 v0 v1 with h | h <;> simp [h]
            · simp [v1]
          · simp [v0]
        · simp [w1]
      · simp [w0]
    · simp [h0]
  simp only [G, F]
  simp [hs, ht]

/-! A triangle, cut into three at a point within. -/
theorem pos_of {D X : Int} (hD : 0 < D) (h : 0 < D * X) : 0 < X := by
  by_cases hx : 0 < X
  · exact hx
  · have : D * X ≤ 0 := Int.mul_nonpos_of_nonneg_of_nonpos (by omega) (by omega)
    omega
theorem neg_of {D X : Int} (hD : 0 < D) (h : D * X < 0) : X < 0 := by
  have := pos_of (D := D) (X := -X) hD (by rw [Int.mul_neg]; omega)
  omega
theorem zero_of {D X : Int} (hD : 0 < D) (h : D * X = 0) : X = 0 := by
  rcases Int.mul_eq_zero.1 h with h | h <;> omega

theorem wok_zero {w : Int} {o : Bool} (h : wok w o) (hw : w = 0) : o = true := by
  rcases h with h | h
  · omega
  · exact h.2

theorem ow_iff (a b c d : Int) : ow a b c d = true ↔ d < b ∨ (b = d ∧ a < c) := by unfold ow; simp

/-- Three that come to nothing, weighted, and none of them below nothing: all are nothing. -/
theorem all_zero {u v w x y z : Int} (hu : 0 < u) (hv : 0 < v) (hw : 0 < w) (h : u * x + v * y + w * z = 0) (hx : 0 ≤ x) (hy : 0 ≤ y) (hz : 0 ≤ z) : x = 0 ∧ y = 0 ∧ z = 0 := by
  have e1 := Int.mul_nonneg (Int.le_of_lt hu) hx
  have e2 := Int.mul_nonneg (Int.le_of_lt hv) hy
  have e3 := Int.mul_nonneg (Int.le_of_lt hw) hz
  exact ⟨zero_of hu (by omega), zero_of hv (by omega), zero_of hw (by omega)⟩

theorem all_zero' {u v w x y z : Int} (hu : 0 < u) (hv : 0 < v) (hw : 0 < w) (h : u * x + v * y + w * z = 0) (hx : x ≤ 0) (hy : y ≤ 0) (hz : z ≤ 0) : x = 0 ∧ y = 0 ∧ z = 0 := by
  have := all_zero hu hv hw (x := -x) (y := -y) (z := -z) (by rw [Int.mul_neg, Int.mul_neg, Int.mul_neg]; omega) (by omega) (by omega) (by omega)
  omega

section
variable {a b c d e f m n p q : Int}

theorem fan_sum : sd c d e f m n * sd m n a b p q + sd e f a b m n * sd m n c d p q + sd a b c d m n * sd m n e f p q = 0 := by unfold sd; grind
theorem fan_x : sd c d e f m n * (a - m) + sd e f a b m n * (c - m) + sd a b c d m n * (e - m) = 0 := by unfold sd; grind
theorem fan_y : sd c d e f m n * (b - n) + sd e f a b m n * (d - n) + sd a b c d m n * (f - n) = 0 := by unfold sd; grind
theorem fan_1 : sd a b c d m n * sd c d e f p q = sd a b c d p q * sd c d e f m n + (- sd m n c d p q) * sd a b c d e f := by unfold sd; grind
theorem fan_2 : sd a b c d m n * sd e f a b p q = sd a b c d p q * sd e f a b m n + sd m n a b p q * sd a b c d e f := by unfold sd; grind
theorem fan_b1 : sd a b c d e f * (m - c) = sd c d e f m n * (a - c) + sd a b c d m n * (e - c) := by unfold sd; grind
theorem fan_b2 : sd a b c d e f * (n - d) = sd c d e f m n * (b - d) + sd a b c d m n * (f - d) := by unfold sd; grind
theorem fan_a1 : sd a b c d e f * (m - a) = sd e f a b m n * (c - a) + sd a b c d m n * (e - a) := by unfold sd; grind
theorem fan_a2 : sd a b c d e f * (n - b) = sd e f a b m n * (d - b) + sd a b c d m n * (f - b) := by unfold sd; grind

variable (h0 : 0 < sd c d e f m n) (h1 : 0 < sd e f a b m n) (h2 : 0 < sd a b c d m n)
include h0 h1 h2

theorem fan_area : 0 < sd a b c d e f := by
  have := sd_sum a b c d e f m n
  omega

/-- Not all of one kind. -/
theorem fan_some : ¬ (wok (sd m n a b p q) (ow m n a b) ∧ wok (sd m n c d p q) (ow m n c d) ∧ wok (sd m n e f p q) (ow m n e f)) := by
  intro ⟨g0, g1, g2⟩
  obtain ⟨z0, z1, z2⟩ := all_zero h0 h1 h2 (fan_sum (a := a) (b := b) (c := c) (d := d) (e := e) (f := f) (m := m) (n := n) (p := p) (q := q)) (wok_nonneg g0) (wok_nonneg g1) (wok_nonneg g2)
  have o0 := (ow_iff m n a b).1 (wok_zero g0 z0)
  have o1 := (ow_iff m n c d).1 (wok_zero g1 z1)
  have o2 := (ow_iff m n e f).1 (wok_zero g2 z2)
  obtain ⟨y0, y1, y2⟩ := all_zero' h0 h1 h2 (fan_y (a := a) (b := b) (c := c) (d := d) (e := e) (f := f) (m := m) (n := n)) (by omega) (by omega) (by omega)
  obtain ⟨k0, k1, k2⟩ := all_zero h0 h1 h2 (fan_x (a := a) (b := b) (c := c) (d := d) (e := e) (f := f) (m := m) (n := n)) (by omega) (by omega) (by omega)
  omega

theorem fan_none : ¬ (¬ wok (sd m n a b p q) (ow m n a b) ∧ ¬ wok (sd m n c d p q) (ow m n c d) ∧ ¬ wok (sd m n e f p q) (ow m n e f)) := by
  intro ⟨g0, g1, g2⟩
  have le : ∀ {w : Int} {o : Bool}, ¬ wok w o → w ≤ 0 ∧ (w = 0 → o = false) := by
    intro w o h
    unfold wok at h
    refine ⟨by omega, fun hw => ?_⟩
    cases o with
    | false => rfl
    | true => exact absurd (.inr ⟨hw, rfl⟩) h
  obtain ⟨z0, z1, z2⟩ := all_zero' h0 h1 h2 (fan_sum (a := a) (b := b) (c := c) (d := d) (e := e) (f := f) (m := m) (n := n) (p := p) (q := q)) (le g0).1 (le g1).1 (le g2).1
  have no : ∀ {u v : Int}, ow m n u v = false → n ≤ v ∧ (n = v → u ≤ m) := by
    intro u v h
    have : ¬ (v < n ∨ (n = v ∧ m < u)) := fun hh => by rw [(ow_iff m n u v).2 hh] at h; cases h
    omega
  have o0 := no ((le g0).2 z0)
  have o1 := no ((le g1).2 z1)
  have o2 := no ((le g2).2 z2)
  obtain ⟨y0, y1, y2⟩ := all_zero h0 h1 h2 (fan_y (a := a) (b := b) (c := c) (d := d) (e := e) (f := f) (m := m) (n := n)) (by omega) (by omega) (by omega)
  obtain ⟨k0, k1, k2⟩ := all_zero' h0 h1 h2 (fan_x (a := a) (b := b) (c := c) (d := d) (e := e) (f := f) (m := m) (n := n)) (by omega) (by omega) (by omega)
  have e1 : m = a := by omega
  have e2 : n = b := by omega
  subst e1; subst e2
  rw [sd_at1] at h2
  omega

/-- Within one of the three: within all. -/
theorem fan_in (s1 : wok (sd m n a b p q) (ow m n a b)) (s2 : ¬ wok (sd m n c d p q) (ow m n c d)) (k : wok (sd a b c d p q) (ow a b c d)) : wok (sd c d e f p q) (ow c d e f) ∧ wok (sd e f a b p q) (ow e f a b) := by
  have hA := fan_area h0 h1 h2
  have sa := wok_nonneg s1
  have sb : sd m n c d p q ≤ 0 := by unfold wok at s2; omega
  have f1 := @fan_1 a b c d e f m n p q
  have f2 := @fan_2 a b c d e f m n p q
  have q1 : 0 ≤ (- sd m n c d p q) * sd a b c d e f := Int.mul_nonneg (by omega) (by omega)
  have q2 : 0 ≤ sd m n a b p q * sd a b c d e f := Int.mul_nonneg sa (by omega)
  rcases k with k | ⟨k, ko⟩
  · have r1 := Int.mul_pos k h0
    have r2 := Int.mul_pos k h1
    exact ⟨.inl (pos_of h2 (by omega)), .inl (pos_of h2 (by omega))⟩
  · rw [k, Int.zero_mul, Int.zero_add] at f1 f2
    have ko := (ow_iff a b c d).1 ko
    constructor
    · by_cases hb : sd m n c d p q = 0
      · right
        rw [hb] at f1
        refine ⟨zero_of h2 (by rw [f1]; simp), (ow_iff c d e f).2 ?_⟩
        have no : ¬ (d < n ∨ (n = d ∧ m < c)) := fun hh => s2 (.inr ⟨hb, (ow_iff m n c d).2 hh⟩)
        have hne : ¬ (m = c ∧ n = d) := by
          rintro ⟨rfl, rfl⟩
          rw [sd_at2] at h2; omega
        have b1 := @fan_b1 a b c d e f m n
        have b2 := @fan_b2 a b c d e f m n
        rcases ko with ko | ⟨ko, ko'⟩
        · left
          have t1 : sd a b c d e f * (n - d) ≤ 0 := Int.mul_nonpos_of_nonneg_of_nonpos (by omega) (by omega)
          have t2 : 0 < sd c d e f m n * (b - d) := Int.mul_pos h0 (by omega)
          have := neg_of h2 (X := f - d) (by omega)
          omega
        · subst ko
          rw [Int.sub_self, Int.mul_zero, Int.zero_add] at b2
          by_cases hn : n = b
          · right
            subst hn
            rw [Int.sub_self, Int.mul_zero] at b2
            have e1 := zero_of h2 b2.symm
            have t1 : 0 < sd a n c n e f * (m - c) := Int.mul_pos hA (by omega)
            have t2 : sd c n e f m n * (a - c) ≤ 0 := Int.mul_nonpos_of_nonneg_of_nonpos (by omega) (by omega)
            have := pos_of h2 (X := e - c) (by omega)
            omega
          · left
            have t1 : sd a b c b e f * (b - n) > 0 := Int.mul_pos hA (by omega)
            have t2 : sd a b c b e f * (n - b) = - (sd a b c b e f * (b - n)) := by rw [← Int.mul_neg]; congr 1; omega
            have := neg_of h2 (X := f - b) (by omega)
            omega
      · left
        have : 0 < (- sd m n c d p q) * sd a b c d e f := Int.mul_pos (by omega) hA
        exact pos_of h2 (by omega)
    · by_cases hb : sd m n a b p q = 0
      · right
        rw [hb] at f2
        refine ⟨zero_of h2 (by rw [f2]; simp), (ow_iff e f a b).2 ?_⟩
        have so := (ow_iff m n a b).1 (wok_zero s1 hb)
        have b1 := @fan_a1 a b c d e f m n
        have b2 := @fan_a2 a b c d e f m n
        rcases ko with ko | ⟨ko, ko'⟩
        · left
          have t1 : 0 ≤ sd a b c d e f * (n - b) := Int.mul_nonneg (by omega) (by omega)
          have t2 : 0 < sd e f a b m n * (b - d) := Int.mul_pos h1 (by omega)
          have t3 : sd e f a b m n * (d - b) = - (sd e f a b m n * (b - d)) := by rw [← Int.mul_neg]; congr 1; omega
          have := pos_of h2 (X := f - b) (by omega)
          omega
        · subst ko
          rw [Int.sub_self, Int.mul_zero, Int.zero_add] at b2
          rcases so with so | ⟨so, so'⟩
          · left
            have t1 : 0 < sd a b c b e f * (n - b) := Int.mul_pos hA (by omega)
            have := pos_of h2 (X := f - b) (by omega)
            omega
          · right
            subst so
            rw [Int.sub_self, Int.mul_zero] at b2
            have e1 := zero_of h2 b2.symm
            have t1 : 0 < sd a n c n e f * (a - m) := Int.mul_pos hA (by omega)
            have t2 : sd a n c n e f * (m - a) = - (sd a n c n e f * (a - m)) := by rw [← Int.mul_neg]; congr 1; omega
            have t3 : 0 < sd e f a n m n * (c - a) := Int.mul_pos h1 (by omega)
            have := neg_of h2 (X := e - a) (by omega)
            omega
      · left
        have : 0 < sd m n a b p q * sd a b c d e f := Int.mul_pos (by omega) hA
        exact pos_of h2 (by omega)

omit h0 h1 h2 in
theorem wok_flip (h : ¬ (m = a ∧ n = b)) : wok (sd a b m n p q) (ow a b m n) ↔ ¬ wok (sd m n a b p q) (ow m n a b) := by
  have e := sd_swap' m n a b p q
  rw [ow_anti h]
  unfold wok
  by_cases hz : sd m n a b p q = 0
  · have hz' : sd a b m n p q = 0 := by omega
    rw [hz, hz']
    cases ow m n a b <;> simp
  · have h1 : ¬ sd a b m n p q = 0 := by omega
    simp only [hz, h1, false_and, or_false]
    omega

omit h0 h1 in
/-- One of the three: who is on which side of it, as seen from the point. -/
theorem fan_cv : cv a b c d m n p q ↔ wok (sd m n a b p q) (ow m n a b) ∧ ¬ wok (sd m n c d p q) (ow m n c d) ∧ wok (sd a b c d p q) (ow a b c d) := by
  have hne : ¬ (m = c ∧ n = d) := by
    rintro ⟨rfl, rfl⟩
    rw [sd_at2] at h2; omega
  unfold cv
  rw [wok_flip hne]
  exact ⟨fun ⟨_, g1, g2, g3⟩ => ⟨g2, g1, g3⟩, fun ⟨g1, g2, g3⟩ => ⟨h2, g2, g1, g3⟩⟩

end

theorem fan_bool (s0 s1 s2 e0 e1 e2 pq : Bool) (hn0 : (s0 && s1 && s2) = false) (hn1 : (s0 || s1 || s2) = true) (i0 : (s0 && !s1 && e0) = true → (e1 && e2) = true) (i1 : (s1 && !s2 && e1) = true → (e2 && e0) = true) (i2 : (s2 && !s0 && e2) = true → (e0 && e1) = true)
    (he : pq = true → (e1 && e2 && e0) = true) (f0 f1 f2 : Int) (hf0 : f0 = bif s0 && !s1 && e0 then 1 else 0) (hf1 : f1 = bif s1 && !s2 && e1 then IntKind.wrap .i64 (f0 + 1) else f0) (hf2 : f2 = bif s2 && !s0 && e2 then IntKind.wrap .i64 (f1 + 1) else f1) :
    (bif pq then f2 == 1 else bif (f2 == 1) == (e1 && e2 && e0) then decide (f2 ≤ 1) else false) = true := by
  subst hf2; subst hf1; subst hf0
  cases s0 <;> cases s1 <;> cases s2 <;> simp only [Bool.and_self, Bool.and_false, Bool.and_true, Bool.or_self, Bool.not_true, Bool.not_false, Bool.false_eq_true, Bool.true_eq_false, Bool.true_and, Bool.false_and, cond_false] at * <;> cases e0 <;> cases e1 <;> cases e2 <;> cases pq <;> first | rfl | decide | simp at *

theorem EdgeFans_true (x0_0 : Int) (a0_0 : IntKind.min .i8 ≤ x0_0) (b0_0 : x0_0 ≤ IntKind.max .i8) (x0_1 : Int) (a0_1 : IntKind.min .i8 ≤ x0_1) (b0_1 : x0_1 ≤ IntKind.max .i8) (x0_2 : Int) (a0_2 : IntKind.min .i8 ≤ x0_2) (b0_2 : x0_2 ≤ IntKind.max .i8) (x0_3 : Int) (a0_3 : IntKind.min .i8 ≤ x0_3) (b0_3 : x0_3 ≤ IntKind.max .i8) (x0_4 : Int) (a0_4 : IntKind.min .i8 ≤ x0_4) (b0_4 : x0_4 ≤ IntKind.max .i8) (x0_5 : Int) (a0_5 : IntKind.min .i8 ≤ x0_5) (b0_5 : x0_5 ≤ IntKind.max .i8) (x1 : Int) (a1 : IntKind.min .i8 ≤ x1) (b1 : x1 ≤ IntKind.max .i8) (x2 : Int) (a2 : IntKind.min .i8 ≤ x2) (b2 : x2 ≤ IntKind.max .i8) (x3 : Int) (a3 : IntKind.min .i8 ≤ x3) (b3 : x3 ≤ IntKind.max .i8) (x4 : Int) (a4 : IntKind.min .i8 ≤ x4) (b4 : x4 ≤ IntKind.max .i8) : lFans_0 x0_0 x0_1 x0_2 x0_3 x0_4 x0_5 x1 x2 x3 x4 = true := by
  have e1 : IntKind.wrap .i64 (0 + 1) = 1 := by decide
  unfold lFans_0 lFans_s8 lFans_s7 lFans_s6 lFans_s5 lFans_s1 lFans_s3 lFans_s0 lFans_s2 lFans_s4 eWeights_0 eWeights_1 eWeights_2
  simp only [w8 a0_0 b0_0, w8 a0_1 b0_1, w8 a0_2 b0_2, w8 a0_3 b0_3, w8 a0_4 b0_4, w8 a0_5 b0_5, w8 a1 b1, w8 a2 b2, w8 a3 b3, w8 a4 b4, awake, covers_eq, side_eq, c8 a0_0 b0_0, c8 a0_1 b0_1, c8 a0_2 b0_2, c8 a0_3 b0_3, c8 a0_4 b0_4, c8 a0_5 b0_5, c8 a1 b1, c8 a2 b2, c8 a3 b3, c8 a4 b4, e1]
  clear a0_0 a0_1 a0_2 a0_3 a0_4 a0_5 a1 a2 a3 a4 b0_0 b0_1 b0_2 b0_3 b0_4 b0_5 b1 b2 b3 b4
  by_cases h0 : sd x0_2 x0_3 x0_4 x0_5 x1 x4 ≤ 0
  · simp [h0]
  by_cases h1 : sd x0_4 x0_5 x0_0 x0_1 x1 x4 ≤ 0
  · simp [h1]
  by_cases h2 : sd x0_0 x0_1 x0_2 x0_3 x1 x4 ≤ 0
  · simp [h2]
  have h0' : 0 < sd x0_2 x0_3 x0_4 x0_5 x1 x4 := by omega
  have h1' : 0 < sd x0_4 x0_5 x0_0 x0_1 x1 x4 := by omega
  have h2' : 0 < sd x0_0 x0_1 x0_2 x0_3 x1 x4 := by omega
  have c0 := @fan_cv x0_0 x0_1 x0_2 x0_3 x1 x4 x2 x3 h2'
  have c1 := @fan_cv x0_2 x0_3 x0_4 x0_5 x1 x4 x2 x3 h0'
  have c2 := @fan_cv x0_4 x0_5 x0_0 x0_1 x1 x4 x2 x3 h1'
  have i0 := @fan_in x0_0 x0_1 x0_2 x0_3 x0_4 x0_5 x1 x4 x2 x3 h0' h1' h2'
  have i1 := @fan_in x0_2 x0_3 x0_4 x0_5 x0_0 x0_1 x1 x4 x2 x3 h1' h2' h0'
  have i2 := @fan_in x0_4 x0_5 x0_0 x0_1 x0_2 x0_3 x1 x4 x2 x3 h2' h0' h1'
  have n0 := @fan_some x0_0 x0_1 x0_2 x0_3 x0_4 x0_5 x1 x4 x2 x3 h0' h1' h2'
  have n1 := @fan_none x0_0 x0_1 x0_2 x0_3 x0_4 x0_5 x1 x4 x2 x3 h0' h1' h2'
  have hA := @fan_area x0_0 x0_1 x0_2 x0_3 x0_4 x0_5 x1 x4 h0' h1' h2'
  have ct : cv x0_0 x0_1 x0_2 x0_3 x0_4 x0_5 x2 x3 ↔ wok (sd x0_2 x0_3 x0_4 x0_5 x2 x3) (ow x0_2 x0_3 x0_4 x0_5) ∧ wok (sd x0_4 x0_5 x0_0 x0_1 x2 x3) (ow x0_4 x0_5 x0_0 x0_1) ∧ wok (sd x0_0 x0_1 x0_2 x0_3 x2 x3) (ow x0_0 x0_1 x0_2 x0_3) :=
    ⟨fun h => h.2, fun h => ⟨hA, h⟩⟩
  have he : x2 = x1 → x3 = x4 → wok (sd x0_2 x0_3 x0_4 x0_5 x2 x3) (ow x0_2 x0_3 x0_4 x0_5) ∧ wok (sd x0_4 x0_5 x0_0 x0_1 x2 x3) (ow x0_4 x0_5 x0_0 x0_1) ∧ wok (sd x0_0 x0_1 x0_2 x0_3 x2 x3) (ow x0_0 x0_1 x0_2 x0_3) := by
    rintro rfl rfl
    exact ⟨.inl h0', .inl h1', .inl h2'⟩
  simp only [c0, c1, c2, ct]
  have g0 : ∀ {A B C : Prop} [Decidable A] [Decidable B] [Decidable C], decide (A ∧ B ∧ C) = (decide A && decide B && decide C) := by
    intro A B C _ _ _
    by_cases hA : A <;> by_cases hB : B <;> by_cases hC : C <;> simp [hA, hB, hC]
  have g1 : ∀ {A : Prop} [Decidable A], decide (¬ A) = !decide A := fun {A} _ => by by_cases hA : A <;> simp [hA]
  simp only [h0, h1, h2, g0, g1, decide_false, Bool.not_true, Bool.not_false, Bool.and_false, Bool.or_false, cond_false]
  refine fan_bool (decide (wok (sd x1 x4 x0_0 x0_1 x2 x3) (ow x1 x4 x0_0 x0_1))) (decide (wok (sd x1 x4 x0_2 x0_3 x2 x3) (ow x1 x4 x0_2 x0_3))) (decide (wok (sd x1 x4 x0_4 x0_5 x2 x3) (ow x1 x4 x0_4 x0_5)))
    (decide (wok (sd x0_0 x0_1 x0_2 x0_3 x2 x3) (ow x0_0 x0_1 x0_2 x0_3))) (decide (wok (sd x0_2 x0_3 x0_4 x0_5 x2 x3) (ow x0_2 x0_3 x0_4 x0_5))) (decide (wok (sd x0_4 x0_5 x0_0 x0_1 x2 x3) (ow x0_4 x0_5 x0_0 x0_1))) (x2 == x1 && x3 == x4) ?_ ?_ ?_ ?_ ?_ ?_ _ _ _ rfl rfl rfl
  · simp only [← g0, decide_eq_false_iff_not]; exact fun h => n0 h
  · by_cases k0 : wok (sd x1 x4 x0_0 x0_1 x2 x3) (ow x1 x4 x0_0 x0_1)
    · simp [k0]
    · by_cases k1 : wok (sd x1 x4 x0_2 x0_3 x2 x3) (ow x1 x4 x0_2 x0_3)
      · simp [k1]
      · by_cases k2 : wok (sd x1 x4 x0_4 x0_5 x2 x3) (ow x1 x4 x0_4 x0_5)
        · simp [k2]
        · exact absurd ⟨k0, k1, k2⟩ n1
  · intro h; simp only [Bool.and_eq_true, Bool.not_eq_true', decide_eq_true_eq, decide_eq_false_iff_not] at h ⊢; exact i0 h.1.1 h.1.2 h.2
  · intro h; simp only [Bool.and_eq_true, Bool.not_eq_true', decide_eq_true_eq, decide_eq_false_iff_not] at h ⊢; exact i1 h.1.1 h.1.2 h.2
  · intro h; simp only [Bool.and_eq_true, Bool.not_eq_true', decide_eq_true_eq, decide_eq_false_iff_not] at h ⊢; exact i2 h.1.1 h.1.2 h.2
  · intro h; simp only [Bool.and_eq_true, beq_iff_eq, decide_eq_true_eq] at h ⊢; have := he h.1 h.2; exact ⟨⟨this.1, this.2.1⟩, this.2.2⟩

end Go.Proofs.Ythgjacfikicgnaa
