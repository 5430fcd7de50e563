/-
  Tiles and boxes: the law of a picture's tiles, whole.
-/
import Derived.Test.YthgjacfikicgnaaBf
namespace Go.Proofs.Ythgjacfikicgnaa
open Go Go.RowKit Go.Proofs.Ythgjacfikicgnaa.V
set_option linter.unusedSectionVars false

section
variable (x0 : Int) (a0 : IntKind.min .u8 ≤ x0) (b0 : x0 ≤ IntKind.max .u8) (x1 : Int) (a1 : IntKind.min .u8 ≤ x1) (b1 : x1 ≤ IntKind.max .u8) (x2 : Int) (a2 : IntKind.min .u8 ≤ x2) (b2 : x2 ≤ IntKind.max .u8) (x3 : Int) (a3 : IntKind.min .u8 ≤ x3) (b3 : x3 ≤ IntKind.max .u8)
include a0 b0 a1 b1 a2 b2 a3 b3

theorem boxes_facts (x4_0 x4_1 x4_2 x4_3 x5_0 x5_1 x5_2 x5_3 x6 : Int) : ∃ w h px py : Int, 0 ≤ w ∧ w ≤ 64 ∧ 0 ≤ h ∧ h ≤ 64 ∧ 0 ≤ px ∧ 0 ≤ py ∧ IntKind.wrap IntKind.i64 (Int.tmod x0 65) = w ∧ IntKind.wrap IntKind.i64 (Int.tmod x1 65) = h ∧ IntKind.wrap IntKind.i64 (Int.tmod x2 70) = px ∧ IntKind.wrap IntKind.i64 (Int.tmod x3 70) = py ∧
    bGTiles_0 w h = tl w * tl h ∧
    lrun lBinBoxes_l509_st 18446744073709551616 (lBinBoxes_l509_T.mk x6 false px py 0 (bGTiles_0 w h) 0 x4_0 x4_1 x4_2 x4_3 x5_0 x5_1 x5_2 x5_3 w h) = some (X.e 0, lBinBoxes_l509_T.mk x6 false px py (if px < w ∧ py < h then 1 else 0) (tl w * tl h) (tl w * tl h) x4_0 x4_1 x4_2 x4_3 x5_0 x5_1 x5_2 x5_3 w h) ∧
    lok lBinBoxes_l509_st 18446744073709551616 (lBinBoxes_l509_T.mk x6 false px py 0 (bGTiles_0 w h) 0 x4_0 x4_1 x4_2 x4_3 x5_0 x5_1 x5_2 x5_3 w h) := by
  have m : IntKind.min .u8 = 0 := by decide
  have M : IntKind.max .u8 = 255 := by decide
  have R : ∀ x k : Int, 0 ≤ x → x ≤ 255 → 0 < k → k ≤ 70 → IntKind.wrap IntKind.i64 (Int.tmod x k) = x % k := fun x k h1 h2 h3 h4 => by
    rw [Int.tmod_eq_emod_of_nonneg h1]
    have := Int.emod_nonneg x (show k ≠ 0 by omega)
    have := Int.emod_lt_of_pos x h3
    exact w64_in (by omega) (by omega)
  have w0 : 0 ≤ x0 % 65 := by omega
  have w1 : x0 % 65 ≤ 64 := by omega
  have h0 : 0 ≤ x1 % 65 := by omega
  have h1 : x1 % 65 ≤ 64 := by omega
  have p0 : 0 ≤ x2 % 70 := by omega
  have p2 : 0 ≤ x3 % 70 := by omega
  have hN := mul_bd8 (tl_bd w0 w1) (tl_bd h0 h1)
  have hg := gtiles_eq w0 w1 h0 h1
  refine ⟨x0 % 65, x1 % 65, x2 % 70, x3 % 70, w0, w1, h0, h1, p0, p2, R _ _ (by omega) (by omega) (by omega) (by omega), R _ _ (by omega) (by omega) (by omega) (by omega), R _ _ (by omega) (by omega) (by omega) (by omega), R _ _ (by omega) (by omega) (by omega) (by omega), hg, ?_⟩
  have hb1 : x2 % 70 < 70 := by omega
  have hb2 : x3 % 70 < 70 := by omega
  generalize x0 % 65 = w at *
  generalize x1 % 65 = h at *
  generalize x2 % 70 = px at *
  generalize x3 % 70 = py at *
  have hC : 0 < tl w * tl h → bTiles_0 w ≠ 0 := fun hpos e => by
    rw [tiles_eq w0 w1] at e
    rw [e, Int.zero_mul] at hpos
    omega
  have hs : ∀ t, 0 ≤ t → t < tl w * tl h → has w h px py t = true → elsewhere w px py t = false := fun t t0 t1 hh => by
    obtain ⟨q1, q2, q3⟩ := has_where w0 w1 h0 h1 t0 t1 hh
    have c1 := mul_bd8 (x := py / 8) (y := tl w) (by omega) (tl_bd w0 w1)
    unfold elsewhere
    rw [tiles_eq w0 w1, Int.tdiv_eq_ediv_of_nonneg p0, Int.tdiv_eq_ediv_of_nonneg p2, w64_in (n := py / 8) (by omega) (by omega), w64_in (n := px / 8) (by omega) (by omega), w64_in (n := py / 8 * tl w) (by omega) (by omega), w64_in (by omega) (by omega), q3]
    simp
  have key := boxes_run (z := x6) (px := px) (py := py) (N := tl w * tl h) (w := w) (h := h) (b0 := x4_0) (b1 := x4_1) (b2 := x4_2) (b3 := x4_3) (b4 := x5_0) (b5 := x5_1) (b6 := x5_2) (b7 := x5_3) (r := false) hN.2 hC hs (tl w * tl h).toNat 18446744073709551616 0 0 (by omega) (by omega) (by omega) (by omega) (by omega)
  rw [hg]
  rw [has_count w0 w1 h0 h1 p0 p2, Int.zero_add] at key
  exact key

theorem BinBoxes_all (x4_0 x4_1 x4_2 x4_3 x5_0 x5_1 x5_2 x5_3 x6 : Int) : lBinBoxes_0 x0 x1 x2 x3 x4_0 x4_1 x4_2 x4_3 x5_0 x5_1 x5_2 x5_3 x6 = true := by
  obtain ⟨w, h, px, py, w0, w1, h0, h1, p0, p2, ew, eh, ex, ey, eg, er, _⟩ := boxes_facts x0 a0 b0 x1 a1 b1 x2 a2 b2 x3 a3 b3 x4_0 x4_1 x4_2 x4_3 x5_0 x5_1 x5_2 x5_3 x6
  have s0 : lBinBoxes_s0 x0 x1 = bGTiles_0 w h := by unfold lBinBoxes_s0; rw [ew, eh]
  have s1 : lBinBoxes_s1 x0 x1 = false := by
    have b1 : bTiles_0 w = IntKind.wrap IntKind.i64 (Int.tdiv (IntKind.wrap IntKind.i64 (w + 7)) 8) := by
      rw [tiles_eq w0 w1, w64_in (n := w + 7) (by omega) (by omega), Int.tdiv_eq_ediv_of_nonneg (by omega), w64_in (by omega) (by omega)]; rfl
    have b2 : bTiles_0 h = IntKind.wrap IntKind.i64 (Int.tdiv (IntKind.wrap IntKind.i64 (h + 7)) 8) := by
      rw [tiles_eq h0 h1, w64_in (n := h + 7) (by omega) (by omega), Int.tdiv_eq_ediv_of_nonneg (by omega), w64_in (by omega) (by omega)]; rfl
    unfold lBinBoxes_s1
    rw [s0, ew, eh, ← b1, ← b2]
    unfold bGTiles_0
    simp
  have s2 : lBinBoxes_s2 x0 x1 x2 x3 x4_0 x4_1 x4_2 x4_3 x5_0 x5_1 x5_2 x5_3 x6 = some (X.e 0, lBinBoxes_l509_T.mk x6 false px py (if px < w ∧ py < h then 1 else 0) (tl w * tl h) (tl w * tl h) x4_0 x4_1 x4_2 x4_3 x5_0 x5_1 x5_2 x5_3 w h) := by
    unfold lBinBoxes_s2
    rw [s0, ew, eh, ex, ey, er]
  have s3 : lBinBoxes_s3 x0 x1 x2 x3 x4_0 x4_1 x4_2 x4_3 x5_0 x5_1 x5_2 x5_3 x6 = px := by unfold lBinBoxes_s3; rw [s2]; rfl
  have s5 : lBinBoxes_s5 x0 x1 x2 x3 x4_0 x4_1 x4_2 x4_3 x5_0 x5_1 x5_2 x5_3 x6 = if px < w ∧ py < h then 1 else 0 := by unfold lBinBoxes_s5; rw [s2]; rfl
  have s7 : lBinBoxes_s7 x0 x1 x2 x3 x4_0 x4_1 x4_2 x4_3 x5_0 x5_1 x5_2 x5_3 x6 = py := by unfold lBinBoxes_s7; rw [s2]; rfl
  have s10 : lBinBoxes_s10 x0 x1 x2 x3 x4_0 x4_1 x4_2 x4_3 x5_0 x5_1 x5_2 x5_3 x6 = x6 := by unfold lBinBoxes_s10; rw [s2]; rfl
  have s14 : lBinBoxes_s14 x0 x1 x2 x3 x4_0 x4_1 x4_2 x4_3 x5_0 x5_1 x5_2 x5_3 x6 = false := by
    unfold lBinBoxes_s14 lBinBoxes_s9 lBinBoxes_s11 lBinBoxes_s12 lBinBoxes_s13
    rw [s5, s10, s0, eg, ew, eh]
    have e1 : decide ((1 : Int) < if px < w ∧ py < h then 1 else 0) = false := by split <;> rfl
    rw [e1]
    by_cases q : x6 < 0 ∨ tl w * tl h ≤ x6
    · obtain ⟨z0, z1, z2, z3⟩ := box_none w0 w1 h0 h1 q
      rw [z0, z1, z2, z3]
      cases decide (x6 < 0) <;> cases decide (tl w * tl h ≤ x6) <;> rfl
    · have q1 : ¬ x6 < 0 := fun hh => q (.inl hh)
      have q2 : ¬ tl w * tl h ≤ x6 := fun hh => q (.inr hh)
      simp [q1, q2]
  have head : (bif lBinBoxes_s4 x0 x1 x2 x3 x4_0 x4_1 x4_2 x4_3 x5_0 x5_1 x5_2 x5_3 x6 then bif lBinBoxes_s8 x0 x1 x2 x3 x4_0 x4_1 x4_2 x4_3 x5_0 x5_1 x5_2 x5_3 x6 then true else lBinBoxes_s14 x0 x1 x2 x3 x4_0 x4_1 x4_2 x4_3 x5_0 x5_1 x5_2 x5_3 x6
      else bif lBinBoxes_s15 x0 x1 x2 x3 x4_0 x4_1 x4_2 x4_3 x5_0 x5_1 x5_2 x5_3 x6 then true else lBinBoxes_s14 x0 x1 x2 x3 x4_0 x4_1 x4_2 x4_3 x5_0 x5_1 x5_2 x5_3 x6) = false := by
    rw [s14]
    unfold lBinBoxes_s4 lBinBoxes_s8 lBinBoxes_s15 lBinBoxes_s6
    rw [s3, s5, s7, ew, eh]
    by_cases q1 : px < w <;> by_cases q2 : py < h <;> simp [q1, q2]
  unfold lBinBoxes_0
  rw [head, s1, aw16, s2]
  have c1 := fun u v => chk (IntKind.wrap IntKind.i64 x4_0) (IntKind.wrap IntKind.i64 x4_1) (IntKind.wrap IntKind.i64 x4_2) (IntKind.wrap IntKind.i64 x4_3) (IntKind.wrap IntKind.i64 x5_0) (IntKind.wrap IntKind.i64 x5_1) (IntKind.wrap IntKind.i64 x5_2) (IntKind.wrap IntKind.i64 x5_3) u v
  have d1 : lBinBoxes_s23 x4_0 x4_1 x4_2 x4_3 x5_0 x5_1 x5_2 x5_3 = false := c1 _ _
  have d2 : lBinBoxes_s28 x4_0 x4_1 x4_2 x4_3 x5_0 x5_1 x5_2 x5_3 = false := c1 _ _
  have d3 : lBinBoxes_s33 x4_0 x4_1 x4_2 x4_3 x5_0 x5_1 x5_2 x5_3 = false := c1 _ _
  have d4 : lBinBoxes_s38 x4_0 x4_1 x4_2 x4_3 x5_0 x5_1 x5_2 x5_3 = false := c1 _ _
  have d5 : lBinBoxes_s43 x4_0 x4_1 x4_2 x4_3 x5_0 x5_1 x5_2 x5_3 = false := c1 _ _
  have d6 : lBinBoxes_s48 x4_0 x4_1 x4_2 x4_3 x5_0 x5_1 x5_2 x5_3 = false := c1 _ _
  have d7 : lBinBoxes_s53 x4_0 x4_1 x4_2 x4_3 x5_0 x5_1 x5_2 x5_3 = false := c1 _ _
  have d8 : lBinBoxes_s58 x4_0 x4_1 x4_2 x4_3 x5_0 x5_1 x5_2 x5_3 = false := c1 _ _
  have d9 : lBinBoxes_s63 x4_0 x4_1 x4_2 x4_3 x5_0 x5_1 x5_2 x5_3 = false := c1 _ _
  have d10 : lBinBoxes_s68 x4_0 x4_1 x4_2 x4_3 x5_0 x5_1 x5_2 x5_3 = false := c1 _ _
  have d11 : lBinBoxes_s73 x4_0 x4_1 x4_2 x4_3 x5_0 x5_1 x5_2 x5_3 = false := c1 _ _
  rw [d1, d2, d3, d4, d5, d6, d7, d8, d9, d10, d11]
  simp only [Bool.not_true, Bool.not_false, cond_false, Bool.false_or, Bool.true_and, isX, xeq]
  have d12 := c1 (lBinBoxes_s75 x4_3) (lBinBoxes_s76 x5_3)
  have sh := meet_shape (IntKind.wrap IntKind.i64 x4_0) (IntKind.wrap IntKind.i64 x4_1) (IntKind.wrap IntKind.i64 x4_2) (IntKind.wrap IntKind.i64 x4_3) (IntKind.wrap IntKind.i64 x5_0) (IntKind.wrap IntKind.i64 x5_1) (IntKind.wrap IntKind.i64 x5_2) (IntKind.wrap IntKind.i64 x5_3)
  unfold lBinBoxes_s77 lBinBoxes_s18 lBinBoxes_s19 lBinBoxes_s20 lBinBoxes_s21
  rw [d12]
  exact sh

theorem BinBoxes_alls (x4_0 x4_1 x4_2 x4_3 x5_0 x5_1 x5_2 x5_3 x6 : Int) : Alls (lBinBoxes_o x0 x1 x2 x3 x4_0 x4_1 x4_2 x4_3 x5_0 x5_1 x5_2 x5_3 x6) := by
  obtain ⟨w, h, px, py, w0, w1, h0, h1, p0, p2, ew, eh, ex, ey, eg, er, el⟩ := boxes_facts x0 a0 b0 x1 a1 b1 x2 a2 b2 x3 a3 b3 x4_0 x4_1 x4_2 x4_3 x5_0 x5_1 x5_2 x5_3 x6
  have s0 : lBinBoxes_s0 x0 x1 = bGTiles_0 w h := by unfold lBinBoxes_s0; rw [ew, eh]
  have hT : ∀ t, (!bBox_s0 w h t) = true → bTiles_0 w ≠ 0 := fun t ht e => by
    unfold bBox_s0 bGTiles_0 at ht
    rw [e, Int.zero_mul] at ht
    have z : IntKind.wrap .i64 0 = 0 := by decide
    rw [z] at ht
    by_cases q : t < 0
    · simp [q] at ht
    · have : (0 : Int) ≤ t := by omega
      simp [this] at ht
  unfold lBinBoxes_o
  rw [s0, ew, eh, ex, ey]
  simp only [Alls, and_true]
  repeat' apply And.intro
  all_goals (intros; first | exact el | exact hT _ (by assumption))

end

theorem BinBoxes_true (x0 : Int) (a0 : IntKind.min .u8 ≤ x0) (b0 : x0 ≤ IntKind.max .u8) (x1 : Int) (a1 : IntKind.min .u8 ≤ x1) (b1 : x1 ≤ IntKind.max .u8) (x2 : Int) (a2 : IntKind.min .u8 ≤ x2) (b2 : x2 ≤ IntKind.max .u8) (x3 : Int) (a3 : IntKind.min .u8 ≤ x3) (b3 : x3 ≤ IntKind.max .u8) (x4_0 : Int) (_ : IntKind.min .i8 ≤ x4_0) (_ : x4_0 ≤ IntKind.max .i8) (x4_1 : Int) (_ : IntKind.min .i8 ≤ x4_1) (_ : x4_1 ≤ IntKind.max .i8) (x4_2 : Int) (_ : IntKind.min .i8 ≤ x4_2) (_ : x4_2 ≤ IntKind.max .i8) (x4_3 : Int) (_ : IntKind.min .i8 ≤ x4_3) (_ : x4_3 ≤ IntKind.max .i8) (x5_0 : Int) (_ : IntKind.min .i8 ≤ x5_0) (_ : x5_0 ≤ IntKind.max .i8) (x5_1 : Int) (_ : IntKind.min .i8 ≤ x5_1) (_ : x5_1 ≤ IntKind.max .i8) (x5_2 : Int) (_ : IntKind.min .i8 ≤ x5_2) (_ : x5_2 ≤ IntKind.max .i8) (x5_3 : Int) (_ : IntKind.min .i8 ≤ x5_3) (_ : x5_3 ≤ IntKind.max .i8) (x6 : Int) (_ : IntKind.min .i64 ≤ x6) (_ : x6 ≤ IntKind.max .i64) : lBinBoxes_0 x0 x1 x2 x3 x4_0 x4_1 x4_2 x4_3 x5_0 x5_1 x5_2 x5_3 x6 = true := BinBoxes_all x0 a0 b0 x1 a1 b1 x2 a2 b2 x3 a3 b3 ..

theorem BinBoxes_obs (x0 : Int) (a0 : IntKind.min .u8 ≤ x0) (b0 : x0 ≤ IntKind.max .u8) (x1 : Int) (a1 : IntKind.min .u8 ≤ x1) (b1 : x1 ≤ IntKind.max .u8) (x2 : Int) (a2 : IntKind.min .u8 ≤ x2) (b2 : x2 ≤ IntKind.max .u8) (x3 : Int) (a3 : IntKind.min .u8 ≤ x3) (b3 : x3 ≤ IntKind.max .u8) (x4_0 : Int) (_ : IntKind.min .i8 ≤ x4_0) (_ : x4_0 ≤ IntKind.max .i8) (x4_1 : Int) (_ : IntKind.min .i8 ≤ x4_1) (_ : x4_1 ≤ IntKind.max .i8) (x4_2 : Int) (_ : IntKind.min .i8 ≤ x4_2) (_ : x4_2 ≤ IntKind.max .i8) (x4_3 : Int) (_ : IntKind.min .i8 ≤ x4_3) (_ : x4_3 ≤ IntKind.max .i8) (x5_0 : Int) (_ : IntKind.min .i8 ≤ x5_0) (_ : x5_0 ≤ IntKind.max .i8) (x5_1 : Int) (_ : IntKind.min .i8 ≤ x5_1) (_ : x5_1 ≤ IntKind.max .i8) (x5_2 : Int) (_ : IntKind.min .i8 ≤ x5_2) (_ : x5_2 ≤ IntKind.max .i8) (x5_3 : Int) (_ : IntKind.min .i8 ≤ x5_3) (_ : x5_3 ≤ IntKind.max .i8) (x6 : Int) (_ : IntKind.min .i64 ≤ x6) (_ : x6 ≤ IntKind.max .i64) : Alls (lBinBoxes_o x0 x1 x2 x3 x4_0 x4_1 x4_2 x4_3 x5_0 x5_1 x5_2 x5_3 x6) := BinBoxes_alls x0 a0 b0 x1 a1 b1 x2 a2 b2 x3 a3 b3 ..

end Go.Proofs.Ythgjacfikicgnaa
