/-
  Tiles and boxes: the law of a tile's own box.
-/
import Derived.Test.YthgjacfikicgnaaBc
import Derived.Test.YthgjacfikicgnaaBb2
namespace Go.Proofs.Ythgjacfikicgnaa
open Go Go.RowKit Go.Proofs.Ythgjacfikicgnaa.V

theorem told_none {f : Int → Bool} : ∀ {n : Nat} {t : Int}, (∀ x, t ≤ x → x < t + n → f x = false) → told f n t = []
  | 0, t, _ => rfl
  | n + 1, t, h => by
    unfold told
    rw [h t (by omega) (by omega), told_none fun x h1 h2 => h x (by omega) (by omega)]
    rfl

theorem told_one {f : Int → Bool} {m : Int} : ∀ {n : Nat} {t : Int}, t ≤ m → m < t + n → (∀ x, t ≤ x → x < t + n → x ≠ m → f x = false) → f m = true → told f n t = [[m]]
  | 0, t, h1, h2, _, _ => by omega
  | n + 1, t, h1, h2, h, hm => by
    unfold told
    by_cases e : t = m
    · subst e
      rw [hm, told_none fun x q1 q2 => h x (by omega) (by omega) (by omega)]
      rfl
    · rw [h t (by omega) (by omega) e, told_one (by omega) (by omega) (fun x q1 q2 q3 => h x (by omega) (by omega) q3) hm]
      rfl

theorem told_all {f : Int → Bool} : ∀ {n : Nat} {t : Int}, (∀ x, t ≤ x → x < t + n → f x = true) → (told f n t).length = n
  | 0, t, _ => rfl
  | n + 1, t, h => by
    unfold told
    rw [h t (by omega) (by omega)]
    have := told_all (f := f) (n := n) (t := t + 1) fun x h1 h2 => h x (by omega) (by omega)
    simp [this]

theorem tl_lt {c w : Int} (h : c < tl w) : 8 * c < w := by unfold tl at h; omega

section
variable {w h : Int} (w0 : 1 ≤ w) (w1 : w ≤ 64) (h0 : 1 ≤ h) (h1 : h ≤ 64)
include w0 w1 h0 h1

theorem hit_yes {t a b c d x y : Int} (t0 : 0 ≤ t) (t1 : t < tl w * tl h) (hp : bBox_0 w h t ≤ x ∧ x < bBox_2 w h t ∧ bBox_1 w h t ≤ y ∧ y < bBox_3 w h t ∧ a ≤ x ∧ x < c ∧ b ≤ y ∧ y < d) : hit w h a b c d t = true := by
  obtain ⟨cc, rr, q1, _, _, _, _, q2, _⟩ := box_some (by omega) w1 (by omega) h1 t0 t1
  have := meet_some (a0 := bBox_0 w h t) (a1 := bBox_1 w h t) (a2 := bBox_2 w h t) (a3 := bBox_3 w h t) (b0 := a) (b1 := b) (b2 := c) (b3 := d) (by omega) ⟨x, y, hp⟩
  unfold hit bIn_l29_s1
  rw [this]; rfl

omit w0 w1 h0 h1 in
theorem hit_no {t a b c d : Int} (hp : ∀ x y, ¬ (bBox_0 w h t ≤ x ∧ x < bBox_2 w h t ∧ bBox_1 w h t ≤ y ∧ y < bBox_3 w h t ∧ a ≤ x ∧ x < c ∧ b ≤ y ∧ y < d)) : hit w h a b c d t = false := by
  obtain ⟨e1, e2, e3, e4⟩ := meet_none hp
  unfold hit bIn_l29_s1
  simp only [e1, e2, e3, e4]; rfl

/-- Two tiles have no pixel in common. -/
theorem apart_tiles {t n x y : Int} (t0 : 0 ≤ t) (t1 : t < tl w * tl h) (n0 : 0 ≤ n) (n1 : n < tl w * tl h) (hp : bBox_0 w h t ≤ x ∧ x < bBox_2 w h t ∧ bBox_1 w h t ≤ y ∧ y < bBox_3 w h t ∧ bBox_0 w h n ≤ x ∧ x < bBox_2 w h n ∧ bBox_1 w h n ≤ y ∧ y < bBox_3 w h n) : t = n := by
  obtain ⟨c, r, q1, q2, q3, q4, q5, q6, q7, q8, q9⟩ := box_some (by omega) w1 (by omega) h1 t0 t1
  obtain ⟨c', r', p1, p2, p3, p4, p5, p6, p7, p8, p9⟩ := box_some (by omega) w1 (by omega) h1 n0 n1
  rw [q6, q7, q8, q9, p6, p7, p8, p9] at hp
  have ec : c = c' := by
    have a1 : (if w < 8 * c + 8 then w else 8 * c + 8) ≤ 8 * c + 8 := by split <;> omega
    have a2 : (if w < 8 * c' + 8 then w else 8 * c' + 8) ≤ 8 * c' + 8 := by split <;> omega
    omega
  have er : r = r' := by
    have a1 : (if h < 8 * r + 8 then h else 8 * r + 8) ≤ 8 * r + 8 := by split <;> omega
    have a2 : (if h < 8 * r' + 8 then h else 8 * r' + 8) ≤ 8 * r' + 8 := by split <;> omega
    omega
  rw [q5, p5, ec, er]

/-- A tile's first pixel. -/
theorem first_pixel {t : Int} (t0 : 0 ≤ t) (t1 : t < tl w * tl h) : ∃ x y, bBox_0 w h t ≤ x ∧ x < bBox_2 w h t ∧ bBox_1 w h t ≤ y ∧ y < bBox_3 w h t ∧ 0 ≤ x ∧ x < 64 ∧ 0 ≤ y ∧ y < 64 := by
  obtain ⟨c, r, q1, q2, q3, q4, q5, q6, q7, q8, q9⟩ := box_some (by omega) w1 (by omega) h1 t0 t1
  have a1 := tl_lt q2
  have a2 := tl_lt q4
  refine ⟨8 * c, 8 * r, ?_⟩
  rw [q6, q7, q8, q9]
  refine ⟨by omega, ?_, by omega, ?_, by omega, by omega, by omega, by omega⟩ <;> split <;> omega

theorem tl_pos : 1 ≤ tl w ∧ 1 ≤ tl h ∧ 1 ≤ tl w * tl h ∧ tl w * tl h ≤ 64 := by
  have a1 : 1 ≤ tl w ∧ tl w ≤ 8 := by unfold tl; omega
  have a2 : 1 ≤ tl h ∧ tl h ≤ 8 := by unfold tl; omega
  have a3 := mul_bd8 (x := tl w) (y := tl h) (by omega) (by omega)
  have a4 := Int.mul_pos (show 0 < tl w by omega) (show 0 < tl h by omega)
  exact ⟨a1.1, a2.1, by omega, a3.2⟩

theorem in_eq (a b c d : Int) : bIn_0 w h a b c d = told (hit w h a b c d) (tl w * tl h).toNat 0 ∧ lok bIn_l29_st 18446744073709551616 (bIn_l29_T.mk (bGTiles_0 w h) 0 w h a b c d []) := by
  obtain ⟨a1, a2, a3, a4⟩ := tl_pos w0 w1 h0 h1
  have e := in_run (w := w) (h := h) (a := a) (b := b) (c := c) (d := d) (N := tl w * tl h) a4 (by rw [tiles_eq (by omega) w1]; omega) (tl w * tl h).toNat 18446744073709551616 0 [] (by omega) (by omega) (by omega) (by simp)
  unfold bIn_0
  rw [gtiles_eq (by omega) w1 (by omega) h1, e.1]
  exact ⟨rfl, e.2⟩

theorem in_own {n : Int} (n0 : 0 ≤ n) (n1 : n < tl w * tl h) : bIn_0 w h (bBox_0 w h n) (bBox_1 w h n) (bBox_2 w h n) (bBox_3 w h n) = [[n]] := by
  obtain ⟨a1, a2, a3, a4⟩ := tl_pos w0 w1 h0 h1
  rw [(in_eq w0 w1 h0 h1 _ _ _ _).1]
  refine told_one n0 (by omega) (fun x q1 q2 q3 => hit_no fun x' y' hp => q3 (apart_tiles w0 w1 h0 h1 (by omega) (by omega) n0 n1 hp)) ?_
  obtain ⟨x, y, p1, p2, p3, p4, _⟩ := first_pixel w0 w1 h0 h1 n0 n1
  exact hit_yes w0 w1 h0 h1 n0 n1 ⟨p1, p2, p3, p4, p1, p2, p3, p4⟩

theorem in_all : ((bIn_0 w h 0 0 64 64).length : Int) = tl w * tl h := by
  obtain ⟨a1, a2, a3, a4⟩ := tl_pos w0 w1 h0 h1
  rw [(in_eq w0 w1 h0 h1 _ _ _ _).1, told_all fun x q1 q2 => by
    obtain ⟨x', y', hp⟩ := first_pixel w0 w1 h0 h1 (t := x) (by omega) (by omega)
    exact hit_yes w0 w1 h0 h1 (by omega) (by omega) hp]
  omega

theorem meet_self {n : Int} (n0 : 0 ≤ n) (n1 : n < tl w * tl h) : bMeet_s4 (bBox_0 w h n) (bBox_1 w h n) (bBox_2 w h n) (bBox_3 w h n) (bBox_0 w h n) (bBox_1 w h n) (bBox_2 w h n) (bBox_3 w h n) = false := by
  obtain ⟨x, y, p1, p2, p3, p4, _⟩ := first_pixel w0 w1 h0 h1 n0 n1
  unfold bMeet_s4 bMeet_s0 bMeet_s1 bMeet_s2 bMeet_s3
  simp
  omega

end

theorem aw16 : aw16_0 = true := by
  unfold aw16_0
  rw [gtiles_eq (by omega) (by omega) (by omega) (by omega)]
  decide

set_option linter.unusedSectionVars false
section
variable (x0 : Int) (a0 : IntKind.min .u8 ≤ x0) (b0 : x0 ≤ IntKind.max .u8) (x1 : Int) (a1 : IntKind.min .u8 ≤ x1) (b1 : x1 ≤ IntKind.max .u8) (x2 : Int) (a2 : IntKind.min .u8 ≤ x2) (b2 : x2 ≤ IntKind.max .u8)
include a0 b0 a1 b1 a2 b2

theorem own_facts : ∃ w h n : Int, 1 ≤ w ∧ w ≤ 64 ∧ 1 ≤ h ∧ h ≤ 64 ∧ 0 ≤ n ∧ n < tl w * tl h ∧ lOwn_s0 x0 = w ∧ lOwn_s1 x1 = h ∧ bGTiles_0 w h = tl w * tl h ∧ Int.tmod (IntKind.wrap IntKind.i64 x2) (tl w * tl h) = n := by
  have m : IntKind.min .u8 = 0 := by decide
  have M : IntKind.max .u8 = 255 := by decide
  have e0 : lOwn_s0 x0 = 1 + x0 % 64 := by
    unfold lOwn_s0
    rw [Int.tmod_eq_emod_of_nonneg (by omega), w64_in (n := x0 % 64) (by omega) (by omega), w64_in (by omega) (by omega)]
  have e1 : lOwn_s1 x1 = 1 + x1 % 64 := by
    unfold lOwn_s1
    rw [Int.tmod_eq_emod_of_nonneg (by omega), w64_in (n := x1 % 64) (by omega) (by omega), w64_in (by omega) (by omega)]
  obtain ⟨_, _, q3, _⟩ := tl_pos (w := 1 + x0 % 64) (h := 1 + x1 % 64) (by omega) (by omega) (by omega) (by omega)
  refine ⟨1 + x0 % 64, 1 + x1 % 64, x2 % (tl (1 + x0 % 64) * tl (1 + x1 % 64)), by omega, by omega, by omega, by omega, Int.emod_nonneg _ (by omega), Int.emod_lt_of_pos _ (by omega), e0, e1, gtiles_eq (by omega) (by omega) (by omega) (by omega), ?_⟩
  rw [w64_in (by omega) (by omega), Int.tmod_eq_emod_of_nonneg (by omega)]

theorem BinOwn_true : lOwn_0 x0 x1 x2 = true := by
  obtain ⟨w, h, n, w0, w1, h0, h1, n0, n1, e0, e1, e2, e3⟩ := own_facts x0 a0 b0 x1 a1 b1 x2 a2 b2
  have q := tl_pos w0 w1 h0 h1
  have hs := in_own w0 w1 h0 h1 n0 n1
  have ha := in_all w0 w1 h0 h1
  have hm := meet_self w0 w1 h0 h1 n0 n1
  have s7 : lOwn_s7 x0 x1 x2 = true := by
    unfold lOwn_s7 lOwn_s6 lOwn_s2 lOwn_s3 lOwn_s4 lOwn_s5
    rw [e0, e1, e2, e3, hs]; rfl
  have s8 : lOwn_s8 x0 x1 x2 = true := by
    unfold lOwn_s8 lOwn_s6 lOwn_s2 lOwn_s3 lOwn_s4 lOwn_s5
    rw [e0, e1, e2, e3, hs]
    simp [rget]
  have s9 : lOwn_s9 x0 x1 = true := by
    unfold lOwn_s9
    rw [e0, e1, e2]
    simp only [beq_iff_eq]
    exact ha
  have s10 : lOwn_s10 x0 x1 x2 = true := by
    unfold lOwn_s10 lOwn_s2 lOwn_s3 lOwn_s4 lOwn_s5
    rw [e0, e1, e2, e3]
    unfold bMeet_0 bMeet_1 bMeet_2 bMeet_3
    rw [hm]
    simp [bMeet_s0, bMeet_s1, bMeet_s2, bMeet_s3]
  unfold lOwn_0
  rw [s7, s8, s9, s10, aw16]
  simp only [Bool.not_true, cond_false, cond_true]
  by_cases hz : n = 0
  · have s11 : lOwn_s11 x0 x1 x2 = true := by
      unfold lOwn_s11
      rw [e0, e1, e2, e3, hz]; rfl
    rw [s11]; rfl
  · have s11 : lOwn_s11 x0 x1 x2 = false := by
      unfold lOwn_s11
      rw [e0, e1, e2, e3]; simp [hz]
    rw [s11]
    simp only [cond_false]
    have s12 : lOwn_s12 x0 x1 x2 = n - 1 := by
      unfold lOwn_s12
      rw [e0, e1, e2, e3]
      exact w64_in (by omega) (by omega)
    unfold lOwn_s2 lOwn_s3 lOwn_s4 lOwn_s5
    rw [s12, e0, e1, e2, e3]
    obtain ⟨z0, z1, z2, z3⟩ := meet_none (a0 := bBox_0 w h n) (a1 := bBox_1 w h n) (a2 := bBox_2 w h n) (a3 := bBox_3 w h n) (b0 := bBox_0 w h (n - 1)) (b1 := bBox_1 w h (n - 1)) (b2 := bBox_2 w h (n - 1)) (b3 := bBox_3 w h (n - 1)) fun x y hp => by
      have := apart_tiles w0 w1 h0 h1 n0 n1 (n := n - 1) (by omega) (by omega) hp
      omega
    rw [z0, z1, z2, z3]; rfl

theorem BinOwn_obs : Alls (lOwn_o x0 x1 x2) := by
  obtain ⟨w, h, n, w0, w1, h0, h1, n0, n1, e0, e1, e2, e3⟩ := own_facts x0 a0 b0 x1 a1 b1 x2 a2 b2
  have q := tl_pos w0 w1 h0 h1
  have hs := in_own w0 w1 h0 h1 n0 n1
  have hT : bTiles_0 (lOwn_s0 x0) ≠ 0 := by rw [e0, tiles_eq (by omega) w1]; omega
  have hN : bGTiles_0 (lOwn_s0 x0) (lOwn_s1 x1) ≠ 0 := by rw [e0, e1, e2]; omega
  have k1 : lok bIn_l29_st 18446744073709551616 (bIn_l29_T.mk (bGTiles_0 (lOwn_s0 x0) (lOwn_s1 x1)) 0 (lOwn_s0 x0) (lOwn_s1 x1) (lOwn_s2 x0 x1 x2) (lOwn_s3 x0 x1 x2) (lOwn_s4 x0 x1 x2) (lOwn_s5 x0 x1 x2) []) := by
    rw [e0, e1]; exact (in_eq w0 w1 h0 h1 _ _ _ _).2
  have k2 : lok bIn_l29_st 18446744073709551616 (bIn_l29_T.mk (bGTiles_0 (lOwn_s0 x0) (lOwn_s1 x1)) 0 (lOwn_s0 x0) (lOwn_s1 x1) 0 0 64 64 []) := by
    rw [e0, e1]; exact (in_eq w0 w1 h0 h1 _ _ _ _).2
  have kl : (0 : Int) ≤ 0 ∧ (0 : Int) < Int.ofNat (List.length (lOwn_s6 x0 x1 x2)) := by
    unfold lOwn_s6 lOwn_s2 lOwn_s3 lOwn_s4 lOwn_s5
    rw [e0, e1, e2, e3, hs]
    exact ⟨by omega, by simp⟩
  unfold lOwn_o
  simp only [Alls, and_true]
  repeat' apply And.intro
  all_goals (intros; first | exact hN | exact hT | exact k1 | exact k2 | exact kl)

end
end Go.Proofs.Ythgjacfikicgnaa
