/-
  Triangles on the picture in plain numbers: a pixel's depth and colour.
-/
import Derived.Test.YtbdmaepooahplaaSc
import Derived.Test.YtbdmaepooahplaaSa3
namespace Go.Proofs.Ytbdmaepooahplaa
open Go Go.RowKit Go.Proofs.Ytbdmaepooahplaa.V
set_option linter.unusedVariables false
set_option linter.unusedSectionVars false

theorem bd_u8 {x : Int} (a : IntKind.min .u8 ≤ x) (b : x ≤ IntKind.max .u8) : 0 ≤ x ∧ x ≤ 255 := by
  have m : IntKind.min .u8 = 0 := by decide
  have M : IntKind.max .u8 = 255 := by decide
  omega
theorem bd_u16 {x : Int} (a : IntKind.min .u16 ≤ x) (b : x ≤ IntKind.max .u16) : 0 ≤ x ∧ x ≤ 65535 := by
  have m : IntKind.min .u16 = 0 := by decide
  have M : IntKind.max .u16 = 65535 := by decide
  omega
theorem bd_i8 {x : Int} (a : IntKind.min .i8 ≤ x) (b : x ≤ IntKind.max .i8) : -128 ≤ x ∧ x ≤ 127 := by
  have m : IntKind.min .i8 = -128 := by decide
  have M : IntKind.max .i8 = 127 := by decide
  omega
theorem bd_i16 {x : Int} (a : IntKind.min .i16 ≤ x) (b : x ≤ IntKind.max .i16) : -32768 ≤ x ∧ x ≤ 32767 := by
  have m : IntKind.min .i16 = -32768 := by decide
  have M : IntKind.max .i16 = 32767 := by decide
  omega

/-! A mean, by weights. -/
def wav (t0 t1 t2 c0 c1 c2 : Int) : Int := (t0 * c0 + t1 * c1 + t2 * c2) / (t0 + t1 + t2)

theorem mul_in {t c T C : Int} (t0 : 0 ≤ t) (t1 : t ≤ T) (c0 : 0 ≤ c) (c1 : c ≤ C) : 0 ≤ t * c ∧ t * c ≤ T * C :=
  ⟨Int.mul_nonneg t0 c0, Int.mul_le_mul t1 c1 c0 (by omega)⟩

theorem floor_pos {a b : Int} (h : 0 < b) (a0 : 0 ≤ a) (a1 : a ≤ 9223372036854775807) : fFloor_0 a b = a / b := by
  have e1 : a / b ≤ a := Int.ediv_le_self b a0
  have e0 : 0 ≤ a / b := Int.ediv_nonneg a0 (by omega)
  unfold fFloor_0
  have h1 : (b == 0) = false := beq_false_of_ne (by omega)
  have h2 : decide (a < 0) = false := decide_eq_false (by omega)
  have h3 : decide (b < 0) = false := decide_eq_false (by omega)
  rw [h1, h2, h3, Int.tdiv_eq_ediv_of_nonneg a0, w64_in (n := a / b) (by omega) (by omega)]
  cases Int.tmod a b != 0 <;> rfl

theorem sum_wrap {t0 t1 t2 c0 c1 c2 : Int} (h0 : 0 ≤ t0) (k0 : t0 ≤ 34359738368) (h1 : 0 ≤ t1) (k1 : t1 ≤ 34359738368) (h2 : 0 ≤ t2) (k2 : t2 ≤ 34359738368) (a0 : 0 ≤ c0) (b0 : c0 ≤ 65536) (a1 : 0 ≤ c1) (b1 : c1 ≤ 65536) (a2 : 0 ≤ c2) (b2 : c2 ≤ 65536) :
    IntKind.wrap .i64 (IntKind.wrap .i64 (IntKind.wrap .i64 (0 + IntKind.wrap .i64 (t0 * c0)) + IntKind.wrap .i64 (t1 * c1)) + IntKind.wrap .i64 (t2 * c2)) = t0 * c0 + t1 * c1 + t2 * c2 ∧ 0 ≤ t0 * c0 + t1 * c1 + t2 * c2 ∧ t0 * c0 + t1 * c1 + t2 * c2 ≤ 9223372036854775807 := by
  have m0 := mul_in h0 k0 a0 b0
  have m1 := mul_in h1 k1 a1 b1
  have m2 := mul_in h2 k2 a2 b2
  rw [w64_in (n := t0 * c0) (by omega) (by omega), w64_in (n := t1 * c1) (by omega) (by omega), w64_in (n := t2 * c2) (by omega) (by omega), w64_in (n := 0 + t0 * c0) (by omega) (by omega), w64_in (n := 0 + t0 * c0 + t1 * c1) (by omega) (by omega), w64_in (by omega) (by omega)]
  refine ⟨by omega, by omega, by omega⟩

section
variable {t0 t1 t2 c0 c1 c2 : Int} (h0 : 0 ≤ t0) (k0 : t0 ≤ 34359738368) (h1 : 0 ≤ t1) (k1 : t1 ≤ 34359738368) (h2 : 0 ≤ t2) (k2 : t2 ≤ 34359738368) (a0 : 0 ≤ c0) (b0 : c0 ≤ 65536) (a1 : 0 ≤ c1) (b1 : c1 ≤ 65536) (a2 : 0 ≤ c2) (b2 : c2 ≤ 65536) (hp : 0 < t0 + t1 + t2)
include h0 k0 h1 k1 h2 k2 a0 b0 a1 b1 a2 b2 hp

theorem wav_floor {s : Int} (hs : s = t0 + t1 + t2) : fFloor_0 (IntKind.wrap .i64 (IntKind.wrap .i64 (IntKind.wrap .i64 (0 + IntKind.wrap .i64 (t0 * c0)) + IntKind.wrap .i64 (t1 * c1)) + IntKind.wrap .i64 (t2 * c2))) s = wav t0 t1 t2 c0 c1 c2 := by
  obtain ⟨e, e1, e2⟩ := sum_wrap h0 k0 h1 k1 h2 k2 a0 b0 a1 b1 a2 b2
  rw [e, hs, floor_pos hp e1 e2]; rfl

theorem wav_div {s : Int} (hs : s = t0 + t1 + t2) : IntKind.wrap .i64 (Int.tdiv (IntKind.wrap .i64 (IntKind.wrap .i64 (IntKind.wrap .i64 (0 + IntKind.wrap .i64 (t0 * c0)) + IntKind.wrap .i64 (t1 * c1)) + IntKind.wrap .i64 (t2 * c2))) s) = wav t0 t1 t2 c0 c1 c2 := by
  obtain ⟨e, e1, e2⟩ := sum_wrap h0 k0 h1 k1 h2 k2 a0 b0 a1 b1 a2 b2
  have g1 : (t0 * c0 + t1 * c1 + t2 * c2) / (t0 + t1 + t2) ≤ t0 * c0 + t1 * c1 + t2 * c2 := Int.ediv_le_self _ e1
  have g0 : 0 ≤ (t0 * c0 + t1 * c1 + t2 * c2) / (t0 + t1 + t2) := Int.ediv_nonneg e1 (by omega)
  rw [e, hs, Int.tdiv_eq_ediv_of_nonneg e1]
  exact w64_in (by omega) (by omega)

omit k0 k1 k2 a0 b0 a1 b1 a2 b2 in
theorem wav_ge {m : Int} (m0 : m ≤ c0) (m1 : m ≤ c1) (m2 : m ≤ c2) : m ≤ wav t0 t1 t2 c0 c1 c2 := by
  unfold wav
  rw [Int.le_ediv_iff_mul_le hp]
  have e0 := Int.mul_le_mul_of_nonneg_left m0 h0
  have e1 := Int.mul_le_mul_of_nonneg_left m1 h1
  have e2 := Int.mul_le_mul_of_nonneg_left m2 h2
  have : m * (t0 + t1 + t2) = t0 * m + t1 * m + t2 * m := by grind
  omega
omit k0 k1 k2 a0 b0 a1 b1 a2 b2 in
theorem wav_le {m : Int} (m0 : c0 ≤ m) (m1 : c1 ≤ m) (m2 : c2 ≤ m) : wav t0 t1 t2 c0 c1 c2 ≤ m := by
  unfold wav
  apply Int.le_of_lt_add_one
  apply Int.ediv_lt_of_lt_mul hp
  have e0 := Int.mul_le_mul_of_nonneg_left m0 h0
  have e1 := Int.mul_le_mul_of_nonneg_left m1 h1
  have e2 := Int.mul_le_mul_of_nonneg_left m2 h2
  have : (m + 1) * (t0 + t1 + t2) = t0 * m + t1 * m + t2 * m + (t0 + t1 + t2) := by grind
  omega
end

theorem wav_same {t0 t1 t2 c : Int} (hp : 0 < t0 + t1 + t2) : wav t0 t1 t2 c c c = c := by
  unfold wav
  have : t0 * c + t1 * c + t2 * c = c * (t0 + t1 + t2) := by grind
  rw [this, Int.mul_ediv_cancel _ (by omega)]

theorem wav_rot (t0 t1 t2 c0 c1 c2 : Int) : wav t1 t2 t0 c1 c2 c0 = wav t0 t1 t2 c0 c1 c2 := by
  unfold wav
  rw [show t1 * c1 + t2 * c2 + t0 * c0 = t0 * c0 + t1 * c1 + t2 * c2 by omega, show t1 + t2 + t0 = t0 + t1 + t2 by omega]

/-- A triangle that may be (but for its area). -/
structure TB (a b c d e f z0 z1 z2 n0 n1 n2 k00 k01 k02 k03 k10 k11 k12 k13 k20 k21 k22 k23 : Int) : Prop where
  ha : -2000 ≤ a ∧ a ≤ 2000
  hb : -2000 ≤ b ∧ b ≤ 2000
  hc : -2000 ≤ c ∧ c ≤ 2000
  hd : -2000 ≤ d ∧ d ≤ 2000
  he : -2000 ≤ e ∧ e ≤ 2000
  hf : -2000 ≤ f ∧ f ≤ 2000
  h0 : 0 ≤ z0 ∧ z0 ≤ 65535
  h1 : 0 ≤ z1 ∧ z1 ≤ 65535
  h2 : 0 ≤ z2 ∧ z2 ≤ 65535
  m0 : 1 ≤ n0 ∧ n0 ≤ 1024
  m1 : 1 ≤ n1 ∧ n1 ≤ 1024
  m2 : 1 ≤ n2 ∧ n2 ≤ 1024
  q00 : 0 ≤ k00 ∧ k00 ≤ 65536
  q01 : 0 ≤ k01 ∧ k01 ≤ 65536
  q02 : 0 ≤ k02 ∧ k02 ≤ 65536
  q03 : 0 ≤ k03 ∧ k03 ≤ 65536
  q10 : 0 ≤ k10 ∧ k10 ≤ 65536
  q11 : 0 ≤ k11 ∧ k11 ≤ 65536
  q12 : 0 ≤ k12 ∧ k12 ≤ 65536
  q13 : 0 ≤ k13 ∧ k13 ≤ 65536
  q20 : 0 ≤ k20 ∧ k20 ≤ 65536
  q21 : 0 ≤ k21 ∧ k21 ≤ 65536
  q22 : 0 ≤ k22 ∧ k22 ≤ 65536
  q23 : 0 ≤ k23 ∧ k23 ≤ 65536

theorem col_0 {x : Int} (h : 0 ≤ x ∧ x ≤ 65536) : vmColour_0 x = x := by unfold vmColour_0 vmColour_s0; repeat' split <;> omega
theorem col_1 {x : Int} (h : 0 ≤ x ∧ x ≤ 65536) : vmColour_1 x = x := by unfold vmColour_1 vmColour_s1; repeat' split <;> omega
theorem col_2 {x : Int} (h : 0 ≤ x ∧ x ≤ 65536) : vmColour_2 x = x := by unfold vmColour_2 vmColour_s2; repeat' split <;> omega
theorem col_3 {x : Int} (h : 0 ≤ x ∧ x ≤ 65536) : vmColour_3 x = x := by unfold vmColour_3 vmColour_s3; repeat' split <;> omega

/-- Where a pixel is of a triangle. -/
def at5 (a b c d e f x y : Int) : Bool := decide (cv a b c d e f (16 * x + 8) (16 * y + 8))
def u0 (c d e f x y : Int) : Int := sd c d e f (16 * x + 8) (16 * y + 8)
/-- The depth, a colour's number there. -/
def at0 (a b c d e f z0 z1 z2 x y : Int) : Int := bif at5 a b c d e f x y then wav (u0 c d e f x y) (u0 e f a b x y) (u0 a b c d x y) z0 z1 z2 else 0
def atk (a b c d e f n0 n1 n2 k0 k1 k2 x y : Int) : Int := bif at5 a b c d e f x y then wav (u0 c d e f x y * n0) (u0 e f a b x y * n1) (u0 a b c d x y * n2) k0 k1 k2 else 0

theorem mid_0 {x : Int} (h : 0 ≤ x ∧ x ≤ 63) : sMiddle_0 x = 16 * x + 8 := by
  unfold sMiddle_0 sMiddle_s0
  rw [if_neg (by omega : ¬ x < -1), if_neg (by omega), w64_in (n := 16 * x) (by omega) (by omega)]
  exact w64_in (by omega) (by omega)
theorem mid_1 {x : Int} (h : 0 ≤ x ∧ x ≤ 63) : sMiddle_1 x = 16 * x + 8 := mid_0 h

/-- Of a pixel that is of it, the weights. -/
theorem cv_w {a b c d e f p q : Int} (ha : -2000 ≤ a ∧ a ≤ 2000) (hb : -2000 ≤ b ∧ b ≤ 2000) (hc : -2000 ≤ c ∧ c ≤ 2000) (hd : -2000 ≤ d ∧ d ≤ 2000) (he : -2000 ≤ e ∧ e ≤ 2000) (hf : -2000 ≤ f ∧ f ≤ 2000) (h : cv a b c d e f p q) :
    0 ≤ sd c d e f p q ∧ 0 ≤ sd e f a b p q ∧ 0 ≤ sd a b c d p q ∧ sd c d e f p q + sd e f a b p q + sd a b c d p q = sd a b c d e f ∧ 0 < sd a b c d e f ∧ sd a b c d e f ≤ 32000000 := by
  obtain ⟨h0, h1, h2, h3⟩ := h
  refine ⟨wok_nonneg h1, wok_nonneg h2, wok_nonneg h3, sd_sum .., h0, ?_⟩
  have g1 : (c - a).natAbs * (f - b).natAbs ≤ 4000 * 4000 := Nat.mul_le_mul (by omega) (by omega)
  have g2 : (d - b).natAbs * (e - a).natAbs ≤ 4000 * 4000 := Nat.mul_le_mul (by omega) (by omega)
  rw [← Int.natAbs_mul] at g1 g2
  unfold sd
  omega

section
variable {a b c d e f z0 z1 z2 n0 n1 n2 k00 k01 k02 k03 k10 k11 k12 k13 k20 k21 k22 k23 : Int} (H : TB a b c d e f z0 z1 z2 n0 n1 n2 k00 k01 k02 k03 k10 k11 k12 k13 k20 k21 k22 k23)
include H

theorem area_eq : tArea_0 a b c d e f = sd a b c d e f := by
  unfold tArea_0
  rw [side_eq, nc_id (x := a) (by have := H.ha; omega) (by have := H.ha; omega), nc_id (x := b) (by have := H.hb; omega) (by have := H.hb; omega), nc_id (x := c) (by have := H.hc; omega) (by have := H.hc; omega), nc_id (x := d) (by have := H.hd; omega) (by have := H.hd; omega), nc_id (x := e) (by have := H.he; omega) (by have := H.he; omega), nc_id (x := f) (by have := H.hf; omega) (by have := H.hf; omega)]

theorem nrs : nc a = a ∧ nc b = b ∧ nc c = c ∧ nc d = d ∧ nc e = e ∧ nc f = f :=
  ⟨nc_id (by have := H.ha; omega) (by have := H.ha; omega), nc_id (by have := H.hb; omega) (by have := H.hb; omega), nc_id (by have := H.hc; omega) (by have := H.hc; omega), nc_id (by have := H.hd; omega) (by have := H.hd; omega), nc_id (by have := H.he; omega) (by have := H.he; omega), nc_id (by have := H.hf; omega) (by have := H.hf; omega)⟩

theorem check_eq : sCheck_0 a b c d e f z0 z1 z2 n0 n1 n2 k00 k01 k02 k03 k10 k11 k12 k13 k20 k21 k22 k23 = bif decide (sd a b c d e f ≤ 0) then 4 else 0 := by
  obtain ⟨e0, e1, e2, e3, e4, e5⟩ := nrs H
  unfold sCheck_0 sCheck_s0 sCheck_s1
  rw [area_eq H, fw, fw, fw, fw, fw, fw, e0, e1, e2, e3, e4, e5, col_0 H.q00, col_1 H.q01, col_2 H.q02, col_3 H.q03, col_0 H.q10, col_1 H.q11, col_2 H.q12, col_3 H.q13, col_0 H.q20, col_1 H.q21, col_2 H.q22, col_3 H.q23,
    decide_eq_false (show ¬ z0 < 0 by have := H.h0; omega), decide_eq_false (show ¬ z1 < 0 by have := H.h1; omega), decide_eq_false (show ¬ z2 < 0 by have := H.h2; omega), decide_eq_false (show ¬ 65535 < z0 by have := H.h0; omega), decide_eq_false (show ¬ 65535 < z1 by have := H.h1; omega), decide_eq_false (show ¬ 65535 < z2 by have := H.h2; omega),
    decide_eq_false (show ¬ n0 < 1 by have := H.m0; omega), decide_eq_false (show ¬ n1 < 1 by have := H.m1; omega), decide_eq_false (show ¬ n2 < 1 by have := H.m2; omega), decide_eq_false (show ¬ 1024 < n0 by have := H.m0; omega), decide_eq_false (show ¬ 1024 < n1 by have := H.m1; omega), decide_eq_false (show ¬ 1024 < n2 by have := H.m2; omega)]
  simp

variable {x y : Int} (hx : 0 ≤ x ∧ x ≤ 63) (hy : 0 ≤ y ∧ y ≤ 63)
include hx hy

theorem at_s0 : sAt_s0 a b c d e f z0 z1 z2 n0 n1 n2 k00 k01 k02 k03 k10 k11 k12 k13 k20 k21 k22 k23 x y = !at5 a b c d e f x y := by
  obtain ⟨e0, e1, e2, e3, e4, e5⟩ := nrs H
  unfold sAt_s0 at5
  rw [check_eq H, covers_eq, mid_0 hx, mid_1 hy, e0, e1, e2, e3, e4, e5, nc_id (x := 16 * x + 8) (by omega) (by omega), nc_id (x := 16 * y + 8) (by omega) (by omega)]
  by_cases h : sd a b c d e f ≤ 0
  · have : ¬ cv a b c d e f (16 * x + 8) (16 * y + 8) := fun hh => by have := hh.1; omega
    simp [h, this]
  · simp [h]

theorem r_s2 : r12At_s2 a b c d e f x y = !at5 a b c d e f x y := by
  obtain ⟨e0, e1, e2, e3, e4, e5⟩ := nrs H
  have g : ∀ x : Int, 0 ≤ x ∧ x ≤ 63 → IntKind.wrap .i64 (IntKind.wrap .i64 (16 * x) + 8) = 16 * x + 8 := fun x hx => by
    rw [w64_in (n := 16 * x) (by omega) (by omega)]; exact w64_in (by omega) (by omega)
  unfold r12At_s2 at5 r12At_s0 r12At_s1
  rw [rcovers_eq, g x hx, g y hy, e0, e1, e2, e3, e4, e5, nc_id (x := 16 * x + 8) (by omega) (by omega), nc_id (x := 16 * y + 8) (by omega) (by omega)]

theorem w_eqs : tWeights_0 c d e f (sMiddle_0 x) (sMiddle_1 y) = u0 c d e f x y ∧ tWeights_1 a b e f (sMiddle_0 x) (sMiddle_1 y) = u0 e f a b x y ∧ tWeights_2 a b c d (sMiddle_0 x) (sMiddle_1 y) = u0 a b c d x y := by
  obtain ⟨e0, e1, e2, e3, e4, e5⟩ := nrs H
  unfold tWeights_0 tWeights_1 tWeights_2 u0
  rw [mid_0 hx, mid_1 hy, side_eq, side_eq, side_eq, e0, e1, e2, e3, e4, e5, nc_id (x := 16 * x + 8) (by omega) (by omega), nc_id (x := 16 * y + 8) (by omega) (by omega)]
  exact ⟨rfl, rfl, rfl⟩

theorem rs_eqs : rSide_0 c d e f (r12At_s0 x) (r12At_s1 y) = u0 c d e f x y ∧ rSide_0 e f a b (r12At_s0 x) (r12At_s1 y) = u0 e f a b x y ∧ rSide_0 a b c d (r12At_s0 x) (r12At_s1 y) = u0 a b c d x y ∧ rSide_0 a b c d e f = sd a b c d e f := by
  obtain ⟨e0, e1, e2, e3, e4, e5⟩ := nrs H
  have g : ∀ x : Int, 0 ≤ x ∧ x ≤ 63 → IntKind.wrap .i64 (IntKind.wrap .i64 (16 * x) + 8) = 16 * x + 8 := fun x hx => by
    rw [w64_in (n := 16 * x) (by omega) (by omega)]; exact w64_in (by omega) (by omega)
  unfold u0 r12At_s0 r12At_s1
  rw [g x hx, g y hy, rside_eq, rside_eq, rside_eq, rside_eq, e0, e1, e2, e3, e4, e5, nc_id (x := 16 * x + 8) (by omega) (by omega), nc_id (x := 16 * y + 8) (by omega) (by omega)]
  exact ⟨rfl, rfl, rfl, rfl⟩

/-- Of a pixel that is of it, all that is asked for. -/
theorem at_w (h : at5 a b c d e f x y = true) : 0 ≤ u0 c d e f x y ∧ u0 c d e f x y ≤ 32000000 ∧ 0 ≤ u0 e f a b x y ∧ u0 e f a b x y ≤ 32000000 ∧ 0 ≤ u0 a b c d x y ∧ u0 a b c d x y ≤ 32000000 ∧ sd a b c d e f = u0 c d e f x y + u0 e f a b x y + u0 a b c d x y ∧ 0 < u0 c d e f x y + u0 e f a b x y + u0 a b c d x y := by
  have := cv_w H.ha H.hb H.hc H.hd H.he H.hf (of_decide_eq_true h)
  unfold u0
  omega

theorem at_n (h : at5 a b c d e f x y = true) : (0 ≤ u0 c d e f x y * n0 ∧ u0 c d e f x y * n0 ≤ 34359738368) ∧ (0 ≤ u0 e f a b x y * n1 ∧ u0 e f a b x y * n1 ≤ 34359738368) ∧ (0 ≤ u0 a b c d x y * n2 ∧ u0 a b c d x y * n2 ≤ 34359738368) ∧ 0 < u0 c d e f x y * n0 + u0 e f a b x y * n1 + u0 a b c d x y * n2 := by
  obtain ⟨w0, v0, w1, v1, w2, v2, _, hs⟩ := at_w H hx hy h
  have m0 := mul_in w0 v0 (show 0 ≤ n0 by have := H.m0; omega) H.m0.2
  have m1 := mul_in w1 v1 (show 0 ≤ n1 by have := H.m1; omega) H.m1.2
  have m2 := mul_in w2 v2 (show 0 ≤ n2 by have := H.m2; omega) H.m2.2
  have g0 := Int.mul_le_mul_of_nonneg_left H.m0.1 w0
  have g1 := Int.mul_le_mul_of_nonneg_left H.m1.1 w1
  have g2 := Int.mul_le_mul_of_nonneg_left H.m2.1 w2
  omega

theorem n_wrap (h : at5 a b c d e f x y = true) : IntKind.wrap .i64 (u0 c d e f x y * n0) = u0 c d e f x y * n0 ∧ IntKind.wrap .i64 (u0 e f a b x y * n1) = u0 e f a b x y * n1 ∧ IntKind.wrap .i64 (u0 a b c d x y * n2) = u0 a b c d x y * n2 ∧
    IntKind.wrap .i64 (IntKind.wrap .i64 (IntKind.wrap .i64 (0 + u0 c d e f x y * n0) + u0 e f a b x y * n1) + u0 a b c d x y * n2) = u0 c d e f x y * n0 + u0 e f a b x y * n1 + u0 a b c d x y * n2 := by
  obtain ⟨m0, m1, m2, _⟩ := at_n H hx hy h
  refine ⟨w64_in (by omega) (by omega), w64_in (by omega) (by omega), w64_in (by omega) (by omega), ?_⟩
  rw [w64_in (n := 0 + u0 c d e f x y * n0) (by omega) (by omega), w64_in (n := 0 + u0 c d e f x y * n0 + u0 e f a b x y * n1) (by omega) (by omega), w64_in (by omega) (by omega)]
  omega

theorem sat_0 : sAt_0 a b c d e f z0 z1 z2 n0 n1 n2 k00 k01 k02 k03 k10 k11 k12 k13 k20 k21 k22 k23 x y = at0 a b c d e f z0 z1 z2 x y := by
  unfold sAt_0 at0
  rw [at_s0 H hx hy]
  cases h : at5 a b c d e f x y
  · rfl
  · obtain ⟨w0, v0, w1, v1, w2, v2, hA, hs⟩ := at_w H hx hy h
    obtain ⟨g0, g1, g2⟩ := w_eqs H hx hy
    have := H.h0; have := H.h1; have := H.h2
    simp only [Bool.not_true, cond_false, cond_true]
    rw [g0, g1, g2, area_eq H]
    exact wav_floor w0 (by omega) w1 (by omega) w2 (by omega) H.h0.1 (by omega) H.h1.1 (by omega) H.h2.1 (by omega) hs hA

theorem rat_0 : r12At_0 a b c d e f z0 z1 z2 x y = at0 a b c d e f z0 z1 z2 x y := by
  unfold r12At_0 at0
  rw [r_s2 H hx hy]
  cases h : at5 a b c d e f x y
  · rfl
  · obtain ⟨w0, v0, w1, v1, w2, v2, hA, hs⟩ := at_w H hx hy h
    obtain ⟨g0, g1, g2, g3⟩ := rs_eqs H hx hy
    have := H.h0; have := H.h1; have := H.h2
    simp only [Bool.not_true, cond_false, cond_true]
    rw [g0, g1, g2, g3]
    exact wav_div w0 (by omega) w1 (by omega) w2 (by omega) H.h0.1 (by omega) H.h1.1 (by omega) H.h2.1 (by omega) hs hA

theorem sat_1 : sAt_1 a b c d e f z0 z1 z2 n0 n1 n2 k00 k01 k02 k03 k10 k11 k12 k13 k20 k21 k22 k23 x y = atk a b c d e f n0 n1 n2 k00 k10 k20 x y := by
  unfold sAt_1 atk sAt_s4 sAt_s1 sAt_s2 sAt_s3
  rw [at_s0 H hx hy]
  cases h : at5 a b c d e f x y
  · rfl
  · obtain ⟨m0, m1, m2, hp⟩ := at_n H hx hy h
    obtain ⟨q0, q1, q2, q3⟩ := n_wrap H hx hy h
    obtain ⟨g0, g1, g2⟩ := w_eqs H hx hy
    simp only [Bool.not_true, cond_false, cond_true]
    rw [g0, g1, g2, q0, q1, q2]
    exact wav_floor m0.1 m0.2 m1.1 m1.2 m2.1 m2.2 H.q00.1 H.q00.2 H.q10.1 H.q10.2 H.q20.1 H.q20.2 hp q3

theorem rat_1 : r12At_1 a b c d e f n0 n1 n2 k00 k10 k20 x y = atk a b c d e f n0 n1 n2 k00 k10 k20 x y := by
  unfold r12At_1 atk r12At_s6 r12At_s3 r12At_s4 r12At_s5
  rw [r_s2 H hx hy]
  cases h : at5 a b c d e f x y
  · rfl
  · obtain ⟨m0, m1, m2, hp⟩ := at_n H hx hy h
    obtain ⟨q0, q1, q2, q3⟩ := n_wrap H hx hy h
    obtain ⟨g0, g1, g2, _⟩ := rs_eqs H hx hy
    simp only [Bool.not_true, cond_false, cond_true]
    rw [g0, g1, g2, q0, q1, q2]
    exact wav_div m0.1 m0.2 m1.1 m1.2 m2.1 m2.2 H.q00.1 H.q00.2 H.q10.1 H.q10.2 H.q20.1 H.q20.2 hp q3

theorem sat_2 : sAt_2 a b c d e f z0 z1 z2 n0 n1 n2 k00 k01 k02 k03 k10 k11 k12 k13 k20 k21 k22 k23 x y = atk a b c d e f n0 n1 n2 k01 k11 k21 x y := by
  unfold sAt_2 atk sAt_s4 sAt_s1 sAt_s2 sAt_s3
  rw [at_s0 H hx hy]
  cases h : at5 a b c d e f x y
  · rfl
  · obtain ⟨m0, m1, m2, hp⟩ := at_n H hx hy h
    obtain ⟨q0, q1, q2, q3⟩ := n_wrap H hx hy h
    obtain ⟨g0, g1, g2⟩ := w_eqs H hx hy
    simp only [Bool.not_true, cond_false, cond_true]
    rw [g0, g1, g2, q0, q1, q2]
    exact wav_floor m0.1 m0.2 m1.1 m1.2 m2.1 m2.2 H.q01.1 H.q01.2 H.q11.1 H.q11.2 H.q21.1 H.q21.2 hp q3

theorem rat_2 : r12At_2 a b c d e f n0 n1 n2 k01 k11 k21 x y = atk a b c d e f n0 n1 n2 k01 k11 k21 x y := by
  unfold r12At_2 atk r12At_s6 r12At_s3 r12At_s4 r12At_s5
  rw [r_s2 H hx hy]
  cases h : at5 a b c d e f x y
  · rfl
  · obtain ⟨m0, m1, m2, hp⟩ := at_n H hx hy h
    obtain ⟨q0, q1, q2, q3⟩ := n_wrap H hx hy h
    obtain ⟨g0, g1, g2, _⟩ := rs_eqs H hx hy
    simp only [Bool.not_true, cond_false, cond_true]
    rw [g0, g1, g2, q0, q1, q2]
    exact wav_div m0.1 m0.2 m1.1 m1.2 m2.1 m2.2 H.q01.1 H.q01.2 H.q11.1 H.q11.2 H.q21.1 H.q21.2 hp q3

theorem sat_3 : sAt_3 a b c d e f z0 z1 z2 n0 n1 n2 k00 k01 k02 k03 k10 k11 k12 k13 k20 k21 k22 k23 x y = atk a b c d e f n0 n1 n2 k02 k12 k22 x y := by
  unfold sAt_3 atk sAt_s4 sAt_s1 sAt_s2 sAt_s3
  rw [at_s0 H hx hy]
  cases h : at5 a b c d e f x y
  · rfl
  · obtain ⟨m0, m1, m2, hp⟩ := at_n H hx hy h
    obtain ⟨q0, q1, q2, q3⟩ := n_wrap H hx hy h
    obtain ⟨g0, g1, g2⟩ := w_eqs H hx hy
    simp only [Bool.not_true, cond_false, cond_true]
    rw [g0, g1, g2, q0, q1, q2]
    exact wav_floor m0.1 m0.2 m1.1 m1.2 m2.1 m2.2 H.q02.1 H.q02.2 H.q12.1 H.q12.2 H.q22.1 H.q22.2 hp q3

theorem rat_3 : r12At_3 a b c d e f n0 n1 n2 k02 k12 k22 x y = atk a b c d e f n0 n1 n2 k02 k12 k22 x y := by
  unfold r12At_3 atk r12At_s6 r12At_s3 r12At_s4 r12At_s5
  rw [r_s2 H hx hy]
  cases h : at5 a b c d e f x y
  · rfl
  · obtain ⟨m0, m1, m2, hp⟩ := at_n H hx hy h
    obtain ⟨q0, q1, q2, q3⟩ := n_wrap H hx hy h
    obtain ⟨g0, g1, g2, _⟩ := rs_eqs H hx hy
    simp only [Bool.not_true, cond_false, cond_true]
    rw [g0, g1, g2, q0, q1, q2]
    exact wav_div m0.1 m0.2 m1.1 m1.2 m2.1 m2.2 H.q02.1 H.q02.2 H.q12.1 H.q12.2 H.q22.1 H.q22.2 hp q3

theorem sat_4 : sAt_4 a b c d e f z0 z1 z2 n0 n1 n2 k00 k01 k02 k03 k10 k11 k12 k13 k20 k21 k22 k23 x y = atk a b c d e f n0 n1 n2 k03 k13 k23 x y := by
  unfold sAt_4 atk sAt_s4 sAt_s1 sAt_s2 sAt_s3
  rw [at_s0 H hx hy]
  cases h : at5 a b c d e f x y
  · rfl
  · obtain ⟨m0, m1, m2, hp⟩ := at_n H hx hy h
    obtain ⟨q0, q1, q2, q3⟩ := n_wrap H hx hy h
    obtain ⟨g0, g1, g2⟩ := w_eqs H hx hy
    simp only [Bool.not_true, cond_false, cond_true]
    rw [g0, g1, g2, q0, q1, q2]
    exact wav_floor m0.1 m0.2 m1.1 m1.2 m2.1 m2.2 H.q03.1 H.q03.2 H.q13.1 H.q13.2 H.q23.1 H.q23.2 hp q3

theorem rat_4 : r12At_4 a b c d e f n0 n1 n2 k03 k13 k23 x y = atk a b c d e f n0 n1 n2 k03 k13 k23 x y := by
  unfold r12At_4 atk r12At_s6 r12At_s3 r12At_s4 r12At_s5
  rw [r_s2 H hx hy]
  cases h : at5 a b c d e f x y
  · rfl
  · obtain ⟨m0, m1, m2, hp⟩ := at_n H hx hy h
    obtain ⟨q0, q1, q2, q3⟩ := n_wrap H hx hy h
    obtain ⟨g0, g1, g2, _⟩ := rs_eqs H hx hy
    simp only [Bool.not_true, cond_false, cond_true]
    rw [g0, g1, g2, q0, q1, q2]
    exact wav_div m0.1 m0.2 m1.1 m1.2 m2.1 m2.2 H.q03.1 H.q03.2 H.q13.1 H.q13.2 H.q23.1 H.q23.2 hp q3


theorem sat_5 : sAt_5 a b c d e f z0 z1 z2 n0 n1 n2 k00 k01 k02 k03 k10 k11 k12 k13 k20 k21 k22 k23 x y = at5 a b c d e f x y := by
  unfold sAt_5
  rw [at_s0 H hx hy]
  cases at5 a b c d e f x y <;> rfl
theorem rat_5 : r12At_5 a b c d e f x y = at5 a b c d e f x y := by
  unfold r12At_5
  rw [r_s2 H hx hy]
  cases at5 a b c d e f x y <;> rfl

theorem rat_obs : (!r12At_s2 a b c d e f x y) = true → r12At_s6 a b c d e f n0 n1 n2 x y ≠ 0 ∧ rSide_0 a b c d e f ≠ 0 := by
  rw [r_s2 H hx hy, Bool.not_not]
  intro h
  obtain ⟨w0, v0, w1, v1, w2, v2, hA, hs⟩ := at_w H hx hy h
  obtain ⟨g0, g1, g2, g3⟩ := rs_eqs H hx hy
  obtain ⟨q0, q1, q2, q3⟩ := n_wrap H hx hy h
  obtain ⟨_, _, _, hp⟩ := at_n H hx hy h
  unfold r12At_s6 r12At_s3 r12At_s4 r12At_s5
  rw [g0, g1, g2, g3, q0, q1, q2, q3]
  omega
end

end Go.Proofs.Ytbdmaepooahplaa
